/- Contracts of the program's functions, and plain laws (Div64, Div64b, Modw, Pri1, Cs, Pri2, Laid, Keep, Dig, Rows2, Rows3, Limb1, Dig2, Dig4, Conv1), for every input that their premises let in. -/
import Derived.Test.YtoiclkaecgpbbaaDoorV1
import Derived.Test.YtoiclkaecgpbbaaDoorRows
import Derived.ProofKit
import Derived.LaidMore
import Derived.OpenShut
import Derived.Stop.Joined
import Derived.Lib.LaidTab
import Derived.Laws.AppendOwn
import Derived.Laws.OwnMore
import Derived.Tactics
/- Div64: two words by one. -/
namespace Go.Proofs.YtoiclkaecgpbbaaDoor
open Go.RowKit

/-! ### The step of the division by hand, digits of 32 bits -/
theorem k_prod (u y1 y0 q r : Nat) (h : q * y1 + r = u) : q * (y1 * 4294967296 + y0) + r * 4294967296 = u * 4294967296 + q * y0 := by
  rw [Nat.mul_add, ← Nat.mul_assoc]
  have : q * y1 = u - r := by omega
  rw [this]; omega
theorem k_le (u c y1 y0 q r : Nat) (hy : 0 < y1 * 4294967296 + y0) (h : q * y1 + r = u) (hq : q * y0 ≤ 4294967296 * r + c) : q ≤ (u * 4294967296 + c) / (y1 * 4294967296 + y0) := by
  rw [Nat.le_div_iff_mul_le hy]
  have := k_prod u y1 y0 q r h
  omega
theorem k_le' (u c y1 y0 q r : Nat) (hy : 0 < y1 * 4294967296 + y0) (h : q * y1 + r = u) (hq : q ≤ 4294967296) (hy0 : y0 < 4294967296) (hr : 4294967296 ≤ r) : q ≤ (u * 4294967296 + c) / (y1 * 4294967296 + y0) := by
  refine k_le u c y1 y0 q r hy h ?_
  have := Nat.mul_le_mul hq (show y0 ≤ 4294967295 by omega)
  omega
theorem k_gt (u c y1 y0 q r : Nat) (h : q * y1 + r = u) (hu : u < y1 * 4294967296 + y0) (hc : c < 4294967296) (hq : 4294967296 ≤ q ∨ 4294967296 * r + c < q * y0) : (u * 4294967296 + c) / (y1 * 4294967296 + y0) < q := by
  rw [Nat.div_lt_iff_lt_mul (by omega)]
  have := k_prod u y1 y0 q r h
  rcases hq with hq | hq
  · have := Nat.mul_le_mul hq (Nat.le_refl (y1 * 4294967296 + y0))
    omega
  · omega
theorem k_first (u c y1 y0 : Nat) (hy1 : 2147483648 ≤ y1) (hc : c < 4294967296) : (u * 4294967296 + c) / (y1 * 4294967296 + y0) ≤ u / y1 := by
  rw [Nat.le_div_iff_mul_le (by omega)]
  have h := Nat.div_mul_le_self (u * 4294967296 + c) (y1 * 4294967296 + y0)
  generalize (u * 4294967296 + c) / (y1 * 4294967296 + y0) = q at *
  rw [Nat.mul_add, ← Nat.mul_assoc] at h
  omega
theorem k_bound (u y1 y0 : Nat) (hy1 : 2147483648 ≤ y1) (hy0 : y0 < 4294967296) (hu : u < y1 * 4294967296 + y0) : u / y1 ≤ 4294967297 := by
  have h := Nat.div_mul_le_self u y1
  generalize u / y1 = q at *
  by_cases hq : q ≤ 4294967297
  · exact hq
  · have := Nat.mul_le_mul (show 4294967298 ≤ q by omega) (Nat.le_refl y1)
    omega
theorem div64_zero (lo y : Int) (hl : 0 ≤ lo) (hl' : lo < 18446744073709551616) (hy : 0 < y) (hy' : y < 18446744073709551616) (w : World) :
    Calls Tryd.prog 77 #[.int .u64 0, .int .u64 lo, .int .u64 y] w fun e w' => e = .returned (.tuple #[.int .u64 (lo / y), .int .u64 (lo % y)]) ∧ w.grownBy w' none := by
  have h0 : (y == 0) = false := by simp; omega
  have h1 : decide (y ≤ 0) = false := by simp; omega
  go_enter Tryd.func77, Tryd.ntmps77
  go_wp2
  refine Canon.region_canon (by kernel_rfl) (by kernel_rfl) ?_
  go_wp2
  refine ⟨by kernel_rfl, ?_⟩
  go_wp2
  go_ret2
  exact ⟨rfl, gb_drew (gb_refl _ _)⟩
theorem pow_split (s : Nat) (h : s ≤ 64) : 2 ^ s * 2 ^ (64 - s) = 18446744073709551616 := by
  rw [← Nat.pow_add, show s + (64 - s) = 64 by omega]
theorem or_split (hi lo k : Nat) (hk : k ≤ 64) (_hh : hi < 2 ^ k) (hl : lo < 18446744073709551616) :
    hi * 2 ^ (64 - k) ||| lo / 2 ^ k = hi * 2 ^ (64 - k) + lo / 2 ^ k := by
  rw [Nat.mul_comm hi, Nat.two_pow_add_eq_or_of_lt]
  rw [Nat.div_lt_iff_lt_mul (Nat.two_pow_pos k), Nat.mul_comm, pow_split k hk]; exact hl
/-- The numbers of the division: y is moved to the left. -/
structure Norm64 (hi lo y Y Y1 Y0 u L L1 L0 s : Nat) : Prop where
  hs : s = 64 - blen y
  hY : Y = Y1 * 4294967296 + Y0
  hY0 : Y0 < 4294967296
  hY1 : 2147483648 ≤ Y1
  hY1' : Y1 < 4294967296
  hu : u < Y
  hL : L = L1 * 4294967296 + L0
  hL0 : L0 < 4294967296
  hL1 : L1 < 4294967296
  hyY : Y = y * 2 ^ s
  hN : (hi * 18446744073709551616 + lo) * 2 ^ s = u * 18446744073709551616 + L
  r1 : IntKind.u64.wrap ((y : Int) * 2 ^ (64 - blen y)) = (Y : Int)
  r4 : bits .or .u64 (IntKind.u64.wrap ((hi : Int) * 2 ^ (64 - blen y))) ((lo : Int) / 2 ^ (64 - (64 - blen y))) = (u : Int)
  r5 : IntKind.u64.wrap ((lo : Int) * 2 ^ (64 - blen y)) = (L : Int)
theorem norm64 (hi lo y : Nat) (hl : lo < 18446744073709551616) (hy : hi < y) (hy' : y < 18446744073709551616) : ∃ Y Y1 Y0 u L L1 L0 s, Norm64 hi lo y Y Y1 Y0 u L L1 L0 s := by
  have hb : blen y ≤ 64 := blen_le y 64 hy'
  have hlog : 2 ^ (blen y - 1) ≤ y ∧ y < 2 ^ blen y := by
    unfold blen
    rw [if_neg (by omega)]
    exact (Nat.log2_eq_iff (by omega)).1 rfl
  have hb0 : 1 ≤ blen y := by unfold blen; rw [if_neg (by omega)]; omega
  obtain ⟨k, hk⟩ : ∃ k, k = blen y := ⟨_, rfl⟩
  rw [← hk] at hb hlog hb0
  have hp : 2 ^ k * 2 ^ (64 - k) = 18446744073709551616 := pow_split k hb
  have hp1 : 2 ^ (k - 1) * 2 ^ (64 - k) = 9223372036854775808 := by
    rw [← Nat.pow_add, show k - 1 + (64 - k) = 63 by omega]
  have hY : y * 2 ^ (64 - k) < 18446744073709551616 := by rw [← hp]; exact Nat.mul_lt_mul_of_pos_right hlog.2 (Nat.two_pow_pos _)
  have hY' : 9223372036854775808 ≤ y * 2 ^ (64 - k) := by rw [← hp1]; exact Nat.mul_le_mul_right _ hlog.1
  have hlo : lo / 2 ^ k < 2 ^ (64 - k) := by rw [Nat.div_lt_iff_lt_mul (Nat.two_pow_pos k), Nat.mul_comm, hp]; exact hl
  have hu : hi * 2 ^ (64 - k) + lo / 2 ^ k < y * 2 ^ (64 - k) := by
    have := Nat.mul_le_mul_right (2 ^ (64 - k)) (show hi + 1 ≤ y by omega)
    rw [Nat.add_mul] at this
    omega
  have hLe : lo * 2 ^ (64 - k) % 18446744073709551616 = (lo % 2 ^ k) * 2 ^ (64 - k) := by
    rw [← hp, Nat.mul_mod_mul_right]
  have hN : (hi * 18446744073709551616 + lo) * 2 ^ (64 - k) = (hi * 2 ^ (64 - k) + lo / 2 ^ k) * 18446744073709551616 + lo * 2 ^ (64 - k) % 18446744073709551616 := by
    rw [hLe, Nat.add_mul, Nat.add_mul]
    have e1 : hi * 18446744073709551616 * 2 ^ (64 - k) = hi * 2 ^ (64 - k) * 18446744073709551616 := by rw [Nat.mul_right_comm]
    have e2 : lo * 2 ^ (64 - k) = lo / 2 ^ k * 18446744073709551616 + lo % 2 ^ k * 2 ^ (64 - k) := by
      conv => lhs; rw [← Nat.div_add_mod lo (2 ^ k), Nat.add_mul, Nat.mul_comm (2 ^ k), Nat.mul_assoc, hp]
    omega
  have cast2 : ∀ a m : Nat, (a : Int) * 2 ^ m = ((a * 2 ^ m : Nat) : Int) := fun a m => by rw [Int.natCast_mul, Int.natCast_pow]; rfl
  have cast3 : ∀ a m : Nat, (a : Int) / 2 ^ m = ((a / 2 ^ m : Nat) : Int) := fun a m => by rw [Int.natCast_ediv, Int.natCast_pow]; rfl
  have hk2 : 64 - (64 - k) = k := by omega
  have hhi : hi * 2 ^ (64 - k) < 18446744073709551616 := Nat.lt_trans (Nat.lt_of_le_of_lt (Nat.le_add_right _ _) hu) hY
  refine ⟨y * 2 ^ (64 - k), _, _, hi * 2 ^ (64 - k) + lo / 2 ^ k, lo * 2 ^ (64 - k) % 18446744073709551616, _, _, 64 - k,
    by rw [hk], (Nat.div_add_mod' (y * 2 ^ (64 - k)) 4294967296).symm, Nat.mod_lt _ (by decide), ?_, ?_, hu, (Nat.div_add_mod' _ 4294967296).symm, Nat.mod_lt _ (by decide), ?_, rfl, hN, ?_, ?_, ?_⟩
  · omega
  · omega
  · omega
  · rw [← hk, cast2, wrapN _ hY]
  · rw [← hk, hk2, cast2, cast3, wrapN _ hhi, bits_or_u64_nat _ _ hhi (by omega), or_split hi lo k hb (by omega) hl]
  · rw [← hk, cast2, wrapM]
/-- A state of the loop that makes a digit smaller. -/
def KI (u c Y1 Y0 q r : Nat) : Prop := q * Y1 + r = u ∧ (u * 4294967296 + c) / (Y1 * 4294967296 + Y0) ≤ q ∧ q ≤ 4294967297 ∧ r < 4294967296
theorem ki_gt {u c Y1 Y0 q r : Nat} (h : KI u c Y1 Y0 q r) (hu : u < Y1 * 4294967296 + Y0) (hc : c < 4294967296) (hq : 4294967296 ≤ q ∨ 4294967296 * r + c < q * Y0) :
    1 ≤ q ∧ (q - 1) * Y1 + (r + Y1) = u ∧ (u * 4294967296 + c) / (Y1 * 4294967296 + Y0) ≤ q - 1 := by
  have hk := k_gt u c Y1 Y0 q r h.1 hu hc hq
  generalize (u * 4294967296 + c) / (Y1 * 4294967296 + Y0) = Q at *
  refine ⟨by omega, ?_, by omega⟩
  have h1 : q * Y1 = (q - 1) * Y1 + Y1 := by
    conv => lhs; rw [show q = q - 1 + 1 by omega, Nat.add_mul, Nat.one_mul]
  have := h.1; omega
theorem ki_eq {u c Y1 Y0 q r : Nat} (h : KI u c Y1 Y0 q r) (hy : 0 < Y1) (_h1 : q < 4294967296) (h2 : q * Y0 ≤ 4294967296 * r + c) : q = (u * 4294967296 + c) / (Y1 * 4294967296 + Y0) :=
  Nat.le_antisymm (k_le u c Y1 Y0 q r (by omega) h.1 h2) h.2.1
theorem ki_brk {u c Y1 Y0 q r : Nat} (h : KI u c Y1 Y0 q r) (hu : u < Y1 * 4294967296 + Y0) (hc : c < 4294967296) (hy0 : Y0 < 4294967296) (hq : 4294967296 ≤ q ∨ 4294967296 * r + c < q * Y0) (hr : 4294967296 ≤ r + Y1) :
    q - 1 = (u * 4294967296 + c) / (Y1 * 4294967296 + Y0) := by
  obtain ⟨h1, h2, h3⟩ := ki_gt h hu hc hq
  have := h.2.2.1
  exact Nat.le_antisymm (k_le' u c Y1 Y0 (q - 1) (r + Y1) (by omega) h2 (by omega) hy0 hr) h3
/-- A digit's loop, over whole numbers. -/
structure DL (Y1 Y0 c Q : Int) (P : Int → Int → Prop) : Prop where
  nn : ∀ q r, P q r → 0 ≤ q ∧ 0 ≤ r
  e1 : ∀ q r, P q r → IntKind.u64.wrap (q * Y0) = q * Y0
  e2 : ∀ q r, P q r → IntKind.u64.wrap (4294967296 * r) = 4294967296 * r
  e3 : ∀ q r, P q r → IntKind.u64.wrap (4294967296 * r + c) = 4294967296 * r + c
  e4 : ∀ q r, P q r → IntKind.u64.wrap (r + Y1) = r + Y1
  e5 : ∀ q r, P q r → (4294967296 ≤ q ∨ 4294967296 * r + c < q * Y0) → IntKind.u64.wrap (q - 1) = q - 1 ∧ 1 ≤ q
  go : ∀ q r, P q r → (4294967296 ≤ q ∨ 4294967296 * r + c < q * Y0) → r + Y1 < 4294967296 → P (q - 1) (r + Y1)
  brk : ∀ q r, P q r → (4294967296 ≤ q ∨ 4294967296 * r + c < q * Y0) → 4294967296 ≤ r + Y1 → q - 1 = Q
  fin : ∀ q r, P q r → q < 4294967296 → q * Y0 ≤ 4294967296 * r + c → q = Q
theorem dl_of (u c Y1 Y0 : Nat) (hu : u < Y1 * 4294967296 + Y0) (hc : c < 4294967296) (hy0 : Y0 < 4294967296) (hy1 : Y1 < 4294967296) (hy1' : 0 < Y1) :
    DL Y1 Y0 c (((u * 4294967296 + c) / (Y1 * 4294967296 + Y0) : Nat) : Int) (fun q r => ∃ n m : Nat, q = n ∧ r = m ∧ KI u c Y1 Y0 n m) := by
  have hm : ∀ n m : Nat, KI u c Y1 Y0 n m → n * Y0 ≤ 4294967297 * 4294967295 := fun n m h => Nat.mul_le_mul h.2.2.1 (by omega)
  have cond : ∀ n m : Nat, (4294967296 ≤ (n : Int) ∨ 4294967296 * (m : Int) + (c : Int) < (n : Int) * (Y0 : Int)) → 4294967296 ≤ n ∨ 4294967296 * m + c < n * Y0 := fun n m h => by
    rcases h with h | h
    · left; omega
    · right; rw [mulN] at h; omega
  refine ⟨?_, ?_, ?_, ?_, ?_, ?_, ?_, ?_, ?_⟩ <;> rintro q r ⟨n, m, rfl, rfl, h⟩
  · omega
  · have := hm n m h
    rw [mulN, wrapN _ (by omega)]
  · have := h.2.2.2
    rw [IntKind.wrap_u64]; omega
  · have := h.2.2.2
    rw [IntKind.wrap_u64]; omega
  · have := h.2.2.2
    rw [IntKind.wrap_u64]; omega
  · intro hq
    obtain ⟨h1, _, _⟩ := ki_gt h hu hc (cond n m hq)
    have := h.2.2.1
    refine ⟨?_, by omega⟩
    rw [IntKind.wrap_u64]; omega
  · intro hq hr
    obtain ⟨h1, h2, h3⟩ := ki_gt h hu hc (cond n m hq)
    have := h.2.2.1
    exact ⟨n - 1, m + Y1, by omega, by omega, h2, h3, by omega, by omega⟩
  · intro hq hr
    have := ki_brk h hu hc hy0 (cond n m hq) (by omega)
    obtain ⟨h1, _, _⟩ := ki_gt h hu hc (cond n m hq)
    rw [← this]; omega
  · intro h1 h2
    have := ki_eq h hy1' (by omega) (by rw [mulN] at h2; omega)
    rw [← this]
set_option maxHeartbeats 1000000 in
theorem div64_walk (hi lo y : Nat) (_hl : lo < 18446744073709551616) (hh : 0 < hi) (hy : hi < y) (hy' : y < 18446744073709551616) (w : World)
    (Y Y1 Y0 u L L1 L0 q0 r0 Q1 u2 p0 t0 Q0 rem quo : Int) (P1 P2 : Int → Int → Prop) (r1 : IntKind.u64.wrap ((y : Int) * 2 ^ (64 - blen y)) = Y) (r2 : Y / 4294967296 = Y1) (r3 : bits .and .u64 Y 4294967295 = Y0) (p1 : 0 < Y1)
    (r5 : IntKind.u64.wrap ((lo : Int) * 2 ^ (64 - blen y)) = L) (r4 : bits .or .u64 (IntKind.u64.wrap ((hi : Int) * 2 ^ (64 - blen y))) ((lo : Int) / 2 ^ (64 - (64 - blen y))) = u)
    (r6 : L / 4294967296 = L1) (r7 : bits .and .u64 L 4294967295 = L0)
    (_hu0 : 0 ≤ u) (q1 : IntKind.u64.wrap (u.tdiv Y1) = q0) (q2 : IntKind.u64.wrap (u - IntKind.u64.wrap (q0 * Y1)) = r0)
    (D1 : DL Y1 Y0 L1 Q1 P1) (S1 : P1 q0 r0)
    (m1 : IntKind.u64.wrap (IntKind.u64.wrap (IntKind.u64.wrap (u * 4294967296) + L1) - IntKind.u64.wrap (Q1 * Y)) = u2) (_hu2 : 0 ≤ u2)
    (q3 : IntKind.u64.wrap (u2.tdiv Y1) = p0) (q4 : IntKind.u64.wrap (u2 - IntKind.u64.wrap (p0 * Y1)) = t0)
    (D2 : DL Y1 Y0 L0 Q0 P2) (S2 : P2 p0 t0)
    (m2 : IntKind.u64.wrap (IntKind.u64.wrap (Q1 * 4294967296) + Q0) = quo)
    (m3 : IntKind.u64.wrap (IntKind.u64.wrap (IntKind.u64.wrap (u2 * 4294967296) + L0) - IntKind.u64.wrap (Q0 * Y)) / 2 ^ (64 - blen y) = rem) :
    Calls Tryd.prog 77 #[.int .u64 hi, .int .u64 lo, .int .u64 y] w fun e w' => e = .returned (.tuple #[.int .u64 quo, .int .u64 rem]) ∧ w.grownBy w' none := by
  have hb : blen y ≤ 64 := blen_le y 64 hy'
  have h0 : ((y : Int) == 0) = false := by simp; omega
  have h1 : decide ((y : Int) ≤ (hi : Int)) = false := by simp; omega
  have h2 : ((hi : Int) == 0) = false := by simp; omega
  go_enter Tryd.func77, Tryd.ntmps77
  go_wp2_with (go_at_call 92; refine (lz64_c _ (by omega) (by omega) _).mono ?_; rintro e w' ⟨rfl, rfl⟩)
  clear h0 h1 h2 r1 r2 r3 r4 r5 r6 r7 q1 q2 _hl hh hy
  go_loop [15, 16] (fun v15 v16 => ∃ q r : Int, v15 = .int .u64 q ∧ v16 = .int .u64 r ∧ P1 q r) (fun v15 _ => (intOf v15).toNat)
  case atStart => exact ⟨q0, r0, rfl, rfl, S1⟩
  case round =>
    obtain ⟨q, r, rfl, rfl, K⟩ := hrel
    have e1 := D1.e1 q r K
    have e2 := D1.e2 q r K
    have e3 := D1.e3 q r K
    have e4 := D1.e4 q r K
    have hn := D1.nn q r K
    by_cases c1 : 4294967296 ≤ q
    · obtain ⟨e5, h5⟩ := D1.e5 q r K (.inl c1)
      by_cases c2 : 4294967296 ≤ r + Y1
      · have hQ := D1.brk q r K (.inl c1) c2
        rw [hQ] at e5
        go_wp2
        clear hn e1 e2 e3 e4 e5 h5 c1 c2 K
        go_loop [16, 18] (fun v16 v18 => ∃ q r : Int, v18 = .int .u64 q ∧ v16 = .int .u64 r ∧ P2 q r) (fun _ v18 => (intOf v18).toNat)
        case atStart => exact ⟨p0, t0, rfl, rfl, S2⟩
        case round =>
          obtain ⟨q', r', rfl, rfl, K⟩ := hrel
          have e1 := D2.e1 q' r' K
          have e2 := D2.e2 q' r' K
          have e3 := D2.e3 q' r' K
          have e4 := D2.e4 q' r' K
          have hn := D2.nn q' r' K
          by_cases c1 : 4294967296 ≤ q'
          · obtain ⟨e5, h5⟩ := D2.e5 q' r' K (.inl c1)
            by_cases c2 : 4294967296 ≤ r' + Y1
            · have hQ := D2.brk q' r' K (.inl c1) c2
              rw [hQ] at e5
              go_wp2
              clear hn e1 e2 e3 e4 e5 h5 c1 c2 K
              go_ret2
              exact ⟨rfl, gb_refl _ _⟩
            · have c2' : r' + Y1 < 4294967296 := by omega
              have K' := D2.go q' r' K (.inl c1) c2'
              go_wp2
              go_round
              case rel => exact ⟨q' - 1, r' + Y1, rfl, rfl, K'⟩
              case measure => simp [intOf]; omega
          · by_cases c3 : 4294967296 * r' + L0 < q' * Y0
            · obtain ⟨e5, h5⟩ := D2.e5 q' r' K (.inr c3)
              by_cases c2 : 4294967296 ≤ r' + Y1
              · have hQ := D2.brk q' r' K (.inr c3) c2
                rw [hQ] at e5
                go_wp2
                clear hn e1 e2 e3 e4 e5 h5 c1 c2 c3 K
                go_ret2
                exact ⟨rfl, gb_refl _ _⟩
              · have c2' : r' + Y1 < 4294967296 := by omega
                have K' := D2.go q' r' K (.inr c3) c2'
                go_wp2
                go_round
                case rel => exact ⟨q' - 1, r' + Y1, rfl, rfl, K'⟩
                case measure => simp [intOf]; omega
            · have hQ := D2.fin q' r' K (by omega) (by omega)
              have c3' : q' * Y0 ≤ 4294967296 * r' + L0 := by omega
              have c1' : q' < 4294967296 := by omega
              clear c1 c3
              subst hQ
              go_wp2
              clear hn e1 e2 e3 e4 c1' c3' K
              go_ret2
              exact ⟨rfl, gb_refl _ _⟩
      · have c2' : r + Y1 < 4294967296 := by omega
        have K' := D1.go q r K (.inl c1) c2'
        go_wp2
        go_round
        case rel => exact ⟨q - 1, r + Y1, rfl, rfl, K'⟩
        case measure => simp [intOf]; omega
    · by_cases c3 : 4294967296 * r + L1 < q * Y0
      · obtain ⟨e5, h5⟩ := D1.e5 q r K (.inr c3)
        by_cases c2 : 4294967296 ≤ r + Y1
        · have hQ := D1.brk q r K (.inr c3) c2
          rw [hQ] at e5
          go_wp2
          clear hn e1 e2 e3 e4 e5 h5 c1 c2 c3 K
          go_loop [16, 18] (fun v16 v18 => ∃ q r : Int, v18 = .int .u64 q ∧ v16 = .int .u64 r ∧ P2 q r) (fun _ v18 => (intOf v18).toNat)
          case atStart => exact ⟨p0, t0, rfl, rfl, S2⟩
          case round =>
            obtain ⟨q', r', rfl, rfl, K⟩ := hrel
            have e1 := D2.e1 q' r' K
            have e2 := D2.e2 q' r' K
            have e3 := D2.e3 q' r' K
            have e4 := D2.e4 q' r' K
            have hn := D2.nn q' r' K
            by_cases c1 : 4294967296 ≤ q'
            · obtain ⟨e5, h5⟩ := D2.e5 q' r' K (.inl c1)
              by_cases c2 : 4294967296 ≤ r' + Y1
              · have hQ := D2.brk q' r' K (.inl c1) c2
                rw [hQ] at e5
                go_wp2
                clear hn e1 e2 e3 e4 e5 h5 c1 c2 K
                go_ret2
                exact ⟨rfl, gb_refl _ _⟩
              · have c2' : r' + Y1 < 4294967296 := by omega
                have K' := D2.go q' r' K (.inl c1) c2'
                go_wp2
                go_round
                case rel => exact ⟨q' - 1, r' + Y1, rfl, rfl, K'⟩
                case measure => simp [intOf]; omega
            · by_cases c3 : 4294967296 * r' + L0 < q' * Y0
              · obtain ⟨e5, h5⟩ := D2.e5 q' r' K (.inr c3)
                by_cases c2 : 4294967296 ≤ r' + Y1
                · have hQ := D2.brk q' r' K (.inr c3) c2
                  rw [hQ] at e5
                  go_wp2
                  clear hn e1 e2 e3 e4 e5 h5 c1 c2 c3 K
                  go_ret2
                  exact ⟨rfl, gb_refl _ _⟩
                · have c2' : r' + Y1 < 4294967296 := by omega
                  have K' := D2.go q' r' K (.inr c3) c2'
                  go_wp2
                  go_round
                  case rel => exact ⟨q' - 1, r' + Y1, rfl, rfl, K'⟩
                  case measure => simp [intOf]; omega
              · have hQ := D2.fin q' r' K (by omega) (by omega)
                have c3' : q' * Y0 ≤ 4294967296 * r' + L0 := by omega
                have c1' : q' < 4294967296 := by omega
                clear c1 c3
                subst hQ
                go_wp2
                clear hn e1 e2 e3 e4 c1' c3' K
                go_ret2
                exact ⟨rfl, gb_refl _ _⟩
        · have c2' : r + Y1 < 4294967296 := by omega
          have K' := D1.go q r K (.inr c3) c2'
          go_wp2
          go_round
          case rel => exact ⟨q - 1, r + Y1, rfl, rfl, K'⟩
          case measure => simp [intOf]; omega
      · have hQ := D1.fin q r K (by omega) (by omega)
        have c3' : q * Y0 ≤ 4294967296 * r + L1 := by omega
        have c1' : q < 4294967296 := by omega
        clear c1 c3
        subst hQ
        go_wp2
        clear hn e1 e2 e3 e4 c1' c3' K
        go_loop [16, 18] (fun v16 v18 => ∃ q r : Int, v18 = .int .u64 q ∧ v16 = .int .u64 r ∧ P2 q r) (fun _ v18 => (intOf v18).toNat)
        case atStart => exact ⟨p0, t0, rfl, rfl, S2⟩
        case round =>
          obtain ⟨q', r', rfl, rfl, K⟩ := hrel
          have e1 := D2.e1 q' r' K
          have e2 := D2.e2 q' r' K
          have e3 := D2.e3 q' r' K
          have e4 := D2.e4 q' r' K
          have hn := D2.nn q' r' K
          by_cases c1 : 4294967296 ≤ q'
          · obtain ⟨e5, h5⟩ := D2.e5 q' r' K (.inl c1)
            by_cases c2 : 4294967296 ≤ r' + Y1
            · have hQ := D2.brk q' r' K (.inl c1) c2
              rw [hQ] at e5
              go_wp2
              clear hn e1 e2 e3 e4 e5 h5 c1 c2 K
              go_ret2
              exact ⟨rfl, gb_refl _ _⟩
            · have c2' : r' + Y1 < 4294967296 := by omega
              have K' := D2.go q' r' K (.inl c1) c2'
              go_wp2
              go_round
              case rel => exact ⟨q' - 1, r' + Y1, rfl, rfl, K'⟩
              case measure => simp [intOf]; omega
          · by_cases c3 : 4294967296 * r' + L0 < q' * Y0
            · obtain ⟨e5, h5⟩ := D2.e5 q' r' K (.inr c3)
              by_cases c2 : 4294967296 ≤ r' + Y1
              · have hQ := D2.brk q' r' K (.inr c3) c2
                rw [hQ] at e5
                go_wp2
                clear hn e1 e2 e3 e4 e5 h5 c1 c2 c3 K
                go_ret2
                exact ⟨rfl, gb_refl _ _⟩
              · have c2' : r' + Y1 < 4294967296 := by omega
                have K' := D2.go q' r' K (.inr c3) c2'
                go_wp2
                go_round
                case rel => exact ⟨q' - 1, r' + Y1, rfl, rfl, K'⟩
                case measure => simp [intOf]; omega
            · have hQ := D2.fin q' r' K (by omega) (by omega)
              have c3' : q' * Y0 ≤ 4294967296 * r' + L0 := by omega
              have c1' : q' < 4294967296 := by omega
              clear c1 c3
              subst hQ
              go_wp2
              clear hn e1 e2 e3 e4 c1' c3' K
              go_ret2
              exact ⟨rfl, gb_refl _ _⟩
end Go.Proofs.YtoiclkaecgpbbaaDoor

/- Div64: the quotient and the remainder. -/
namespace Go.Proofs.YtoiclkaecgpbbaaDoor
open Go.RowKit
/-- The two digits together. -/
theorem div64_two (M y Y u L L1 L0 s Q1 u2 Q0 r : Nat) (hy : 0 < y) (hYy : Y = y * 2 ^ s) (hL : L = L1 * 4294967296 + L0)
    (hN : M * 2 ^ s = u * 18446744073709551616 + L) (e1 : Q1 * Y + u2 = u * 4294967296 + L1) (e2 : Q0 * Y + r = u2 * 4294967296 + L0) (l2 : r < Y) :
    Q1 * 4294967296 + Q0 = M / y ∧ r / 2 ^ s = M % y := by
  have hs : 0 < 2 ^ s := Nat.two_pow_pos s
  obtain ⟨q, hq⟩ : ∃ q, q = Q1 * 4294967296 + Q0 := ⟨_, rfl⟩
  have e3 : M * 2 ^ s = q * y * 2 ^ s + r := by
    rw [hq, Nat.mul_assoc, ← hYy, Nat.add_mul, Nat.mul_right_comm Q1, hN, hL]
    omega
  have hle : q * y ≤ M := Nat.le_of_mul_le_mul_right (by omega) hs
  obtain ⟨d, hd⟩ : ∃ d, M = q * y + d := ⟨M - q * y, by omega⟩
  have e4 : r = d * 2 ^ s := by
    rw [hd, Nat.add_mul] at e3; omega
  have hlt : d < y := Nat.lt_of_mul_lt_mul_right (a := 2 ^ s) (by rw [← e4, ← hYy]; exact l2)
  have e5 : M = y * q + d := by rw [Nat.mul_comm y]; exact hd
  rw [← hq]
  refine ⟨?_, ?_⟩
  · rw [e5, Nat.mul_add_div hy, Nat.div_eq_of_lt hlt]; rfl
  · rw [e4, Nat.mul_div_cancel _ hs, e5, Nat.mul_add_mod, Nat.mod_eq_of_lt hlt]
theorem wrap_three (u c A r : Nat) (h : u * 4294967296 + c = A + r) (hr : r < 18446744073709551616) :
    IntKind.u64.wrap (IntKind.u64.wrap (IntKind.u64.wrap ((u : Int) * 4294967296) + (c : Int)) - IntKind.u64.wrap (A : Int)) = (r : Int) := by
  simp only [IntKind.wrap_u64]; omega
theorem wrap_quo (a b : Nat) (ha : a < 4294967296) (hb : b < 4294967296) : IntKind.u64.wrap (IntKind.u64.wrap ((a : Int) * 4294967296) + (b : Int)) = ((a * 4294967296 + b : Nat) : Int) := by
  simp only [IntKind.wrap_u64]; omega
theorem first_digit (u c Y1 Y0 : Nat) (hy1 : 2147483648 ≤ Y1) (hy1' : Y1 < 4294967296) (hy0 : Y0 < 4294967296) (hu : u < Y1 * 4294967296 + Y0) (hc : c < 4294967296) :
    IntKind.u64.wrap ((u : Int).tdiv (Y1 : Int)) = ((u / Y1 : Nat) : Int) ∧ IntKind.u64.wrap ((u : Int) - IntKind.u64.wrap (((u / Y1 : Nat) : Int) * (Y1 : Int))) = ((u % Y1 : Nat) : Int) ∧ KI u c Y1 Y0 (u / Y1) (u % Y1) := by
  have hq := k_bound u Y1 Y0 hy1 hy0 hu
  have hm := Nat.div_add_mod' u Y1
  have hr := Nat.mod_lt u (show 0 < Y1 by omega)
  have h1 := k_first u c Y1 Y0 hy1 hc
  refine ⟨?_, ?_, hm, h1, hq, by omega⟩
  · rw [Int.tdiv_eq_ediv_of_nonneg (by omega), divN, wrapN _ (by omega)]
  · rw [mulN]
    generalize u / Y1 * Y1 = A at *
    generalize u % Y1 = r at *
    simp only [IntKind.wrap_u64]; omega
theorem div64_nat (hi lo y : Nat) (hl : lo < 18446744073709551616) (hh : 0 < hi) (hy : hi < y) (hy' : y < 18446744073709551616) (w : World) :
    Calls Tryd.prog 77 #[.int .u64 hi, .int .u64 lo, .int .u64 y] w fun e w' => e = .returned (.tuple #[.int .u64 (((hi * 18446744073709551616 + lo) / y : Nat) : Int), .int .u64 (((hi * 18446744073709551616 + lo) % y : Nat) : Int)]) ∧ w.grownBy w' none := by
  obtain ⟨Y, Y1, Y0, u, L, L1, L0, s, N⟩ := norm64 hi lo y hl hy hy'
  have hYb : Y < 18446744073709551616 := by have := N.hY; have := N.hY0; have := N.hY1'; omega
  have hY0 : 0 < Y := by have := N.hY; have := N.hY1; omega
  have hu := N.hu
  have hu' : u < Y1 * 4294967296 + Y0 := by rw [← N.hY]; exact hu
  obtain ⟨a1, a2, a3⟩ := first_digit u L1 Y1 Y0 N.hY1 N.hY1' N.hY0 hu' N.hL1
  have hu2 := Nat.mod_lt (u * 4294967296 + L1) hY0
  have hu2' : (u * 4294967296 + L1) % Y < Y1 * 4294967296 + Y0 := by rw [← N.hY]; exact hu2
  obtain ⟨b1, b2, b3⟩ := first_digit _ L0 Y1 Y0 N.hY1 N.hY1' N.hY0 hu2' N.hL0
  obtain ⟨t1, t2⟩ := div64_two (hi * 18446744073709551616 + lo) y Y u L L1 L0 s _ _ _ _ (by omega) N.hyY N.hL N.hN (Nat.div_add_mod' (u * 4294967296 + L1) Y) (Nat.div_add_mod' _ Y) (Nat.mod_lt _ hY0)
  have d1 := dl_of u L1 Y1 Y0 hu' N.hL1 N.hY0 N.hY1' (by have := N.hY1; omega)
  have d2 := dl_of _ L0 Y1 Y0 hu2' N.hL0 N.hY0 N.hY1' (by have := N.hY1; omega)
  rw [← N.hY] at d1 d2
  have hQ1 : (u * 4294967296 + L1) / Y < 4294967296 := by
    rw [Nat.div_lt_iff_lt_mul hY0]; have := N.hL1; omega
  have hQ0 : ((u * 4294967296 + L1) % Y * 4294967296 + L0) / Y < 4294967296 := by
    rw [Nat.div_lt_iff_lt_mul hY0]; have := N.hL0; omega
  refine (div64_walk hi lo y hl hh hy hy' w Y Y1 Y0 u L L1 L0 _ _ _ _ _ _ (((hi * 18446744073709551616 + lo) % y : Nat) : Int) (((hi * 18446744073709551616 + lo) / y : Nat) : Int) _ _ N.r1 ?_ ?_ ?_ N.r5 N.r4 ?_ ?_ (by omega) a1 a2 d1 ⟨_, _, rfl, rfl, a3⟩ (u2 := (((u * 4294967296 + L1) % Y : Nat) : Int)) ?_ (by omega) b1 b2 d2 ⟨_, _, rfl, rfl, b3⟩ ?_ ?_)
  · have := N.hY; have := N.hY0; omega
  · have h1 := N.hY; have h2 := N.hY0
    rw [maskN Y hYb]; omega
  · have := N.hY1; omega
  · have := N.hL; have := N.hL0; omega
  · have h1 := N.hL; have h2 := N.hL0; have h3 := N.hL1
    rw [maskN L (by omega)]; omega
  · rw [mulN]
    exact wrap_three u L1 _ _ (Nat.div_add_mod' _ _).symm (by omega)
  · rw [← t1]; exact wrap_quo _ _ hQ1 hQ0
  · rw [mulN, wrap_three _ L0 _ _ (Nat.div_add_mod' _ _).symm (Nat.lt_trans (Nat.mod_lt _ hY0) hYb), ← t2, ← N.hs]
    rw [Int.natCast_ediv, Int.natCast_pow]; rfl
theorem div64_c (hi lo y : Int) (h0 : 0 ≤ hi) (hl : 0 ≤ lo) (hl' : lo < 18446744073709551616) (hy : hi < y) (hy' : y < 18446744073709551616) (w : World) :
    Calls Tryd.prog 77 #[.int .u64 hi, .int .u64 lo, .int .u64 y] w fun e w' => e = .returned (.tuple #[.int .u64 ((hi * 18446744073709551616 + lo) / y), .int .u64 ((hi * 18446744073709551616 + lo) % y)]) ∧ w.grownBy w' none := by
  by_cases hz : hi = 0
  · subst hz
    refine (div64_zero lo y hl hl' hy hy' w).mono fun e w' h => ⟨?_, h.2⟩
    rw [Int.zero_mul, Int.zero_add]; exact h.1
  · obtain ⟨a, rfl⟩ := nat_of h0
    obtain ⟨b, rfl⟩ := nat_of hl
    obtain ⟨c, rfl⟩ := nat_of (show 0 ≤ y by omega)
    refine (div64_nat a b c (by omega) (by omega) (by omega) (by omega) w).mono fun e w' h => ⟨?_, h.2⟩
    rw [h.1, Int.natCast_ediv, Int.natCast_emod, Int.natCast_add, Int.natCast_mul]; rfl
end Go.Proofs.YtoiclkaecgpbbaaDoor

/- Residues of a word: package modw. -/
namespace Go.Proofs.YtoiclkaecgpbbaaDoor
open Go.RowKit

/-- A modulus that may be. -/
structure Pm (p : Int) : Prop where
  lo : 3 ≤ p
  hi : p < 4611686018427387904
  odd : p % 2 = 1
/-- Block g is the Mod of p. -/
structure Md (w : World) (g : Nat) (p : Int) : Prop where
  pm : Pm p
  c0 : w.cell? ⟨g, 0, none⟩ = some (.int .u64 p)
  neg : ∃ n : Int, w.cell? ⟨g, 1, none⟩ = some (.int .u64 n) ∧ 0 ≤ n ∧ n < 18446744073709551616 ∧ (p * n + 1) % 18446744073709551616 = 0
  one : w.cell? ⟨g, 2, none⟩ = some (.int .u64 (18446744073709551616 % p))
  two : w.cell? ⟨g, 3, none⟩ = some (.int .u64 (18446744073709551616 * 18446744073709551616 % p))
theorem Md.grown {w w' : World} {g : Nat} {p : Int} {row : Option Nat} (h : Md w g p) (hg : w.grownBy w' row) (hr : some g ≠ row) : Md w' g p := by
  obtain ⟨pm, c0, ⟨n, c1, hn⟩, c2, c3⟩ := h
  exact ⟨pm, gb_cell hg c0 hr, ⟨n, gb_cell hg c1 hr, hn⟩, gb_cell hg c2 hr, gb_cell hg c3 hr⟩
theorem Md.grown0 {w w' : World} {g : Nat} {p : Int} (h : Md w g p) (hg : w.grownBy w' none) : Md w' g p := h.grown hg (by simp)
theorem Md.drew {w : World} {g : Nat} {p : Int} (h : Md w g p) : Md w.drew g p := ⟨h.pm, h.c0, h.neg, h.one, h.two⟩

theorem modP_c (w : World) (g : Nat) (p : Int) (h : Md w g p) :
    Calls Tryd.prog 19 #[.pointer (some ⟨g, 0, none⟩)] w fun e w' => e = .returned (.int .u64 p) ∧ w' = w := by
  have h0 := h.c0
  go_enter Tryd.func19, Tryd.ntmps19
  go_wp2
  go_ret
  exact ⟨rfl, rfl⟩
theorem modRed_c (w : World) (g : Nat) (p a : Int) (h : Md w g p) (h0 : 0 ≤ a) :
    Calls Tryd.prog 95 #[.pointer (some ⟨g, 0, none⟩), .int .u64 a] w fun e w' => e = .returned (.int .u64 (a % p)) ∧ w' = w := by
  have hc := h.c0
  have hp := h.pm.lo
  go_enter Tryd.func95, Tryd.ntmps95
  go_wp2
  go_ret
  exact ⟨rfl, rfl⟩
/-- The small add, sub, mul: of numbers below p. -/
theorem madd_c (w : World) (g : Nat) (p x y : Int) (h : Md w g p) (hx : 0 ≤ x) (hx' : x < p) (hy : 0 ≤ y) (hy' : y < p) :
    Calls Tryd.prog 102 #[.pointer (some ⟨g, 0, none⟩), .int .u64 x, .int .u64 y] w fun e w' => e = .returned (.int .u64 ((x + y) % p)) ∧ w' = w := by
  have hc := h.c0
  have hp := h.pm.hi
  have e1 : p ≤ x + y → (x + y) % p = x + y - p := fun hge => by
    rw [← Int.sub_emod_right, Int.emod_eq_of_lt (by omega) (by omega)]
  have e2 : x + y < p → (x + y) % p = x + y := fun hlt => Int.emod_eq_of_lt (by omega) hlt
  by_cases hge : p ≤ x + y
  · rw [e1 hge]
    clear e1 e2
    go_enter Tryd.func102, Tryd.ntmps102
    go_wp2
    go_ret
    exact ⟨rfl, rfl⟩
  · have hlt : x + y < p := by omega
    rw [e2 hlt]
    clear e1 e2 hge
    go_enter Tryd.func102, Tryd.ntmps102
    go_wp2
    go_ret
    exact ⟨rfl, rfl⟩
theorem msub_c (w : World) (g : Nat) (p x y : Int) (h : Md w g p) (hx : 0 ≤ x) (hx' : x < p) (hy : 0 ≤ y) (hy' : y < p) :
    Calls Tryd.prog 93 #[.pointer (some ⟨g, 0, none⟩), .int .u64 x, .int .u64 y] w fun e w' => e = .returned (.int .u64 ((x - y) % p)) ∧ w' = w := by
  have hc := h.c0
  have hp := h.pm.hi
  have e1 : x < y → (x - y) % p = x + p - y := fun hge => by
    rw [← Int.add_emod_right, Int.emod_eq_of_lt (by omega) (by omega)]; omega
  have e2 : y ≤ x → (x - y) % p = x - y := fun hlt => Int.emod_eq_of_lt (by omega) (by omega)
  by_cases hge : x < y
  · rw [e1 hge]
    clear e1 e2
    go_enter Tryd.func93, Tryd.ntmps93
    go_wp2
    go_ret
    exact ⟨rfl, rfl⟩
  · have hlt : y ≤ x := by omega
    rw [e2 hlt]
    clear e1 e2 hge
    go_enter Tryd.func93, Tryd.ntmps93
    go_wp2
    go_ret
    exact ⟨rfl, rfl⟩
theorem hi_lt {x y p : Int} (hx : 0 ≤ x) (hx' : x < p) (hy : 0 ≤ y) (hy' : y < 18446744073709551616) : x * y / 18446744073709551616 < p := by
  refine Int.ediv_lt_of_lt_mul (by decide) ?_
  have h1 := Int.mul_le_mul (a := x) (b := y) (c := p - 1) (d := 18446744073709551615) (by omega) (by omega) hy (by omega)
  have : (p - 1) * 18446744073709551615 < p * 18446744073709551616 := by omega
  omega
theorem word_eq (x : Int) : x / 18446744073709551616 * 18446744073709551616 + x % 18446744073709551616 = x := by omega
theorem mmul_core (w : World) (g : Nat) (p x y : Int) (pm : Pm p) (hc : w.cell? ⟨g, 0, none⟩ = some (.int .u64 p)) (hx : 0 ≤ x) (hx' : x < p) (hy : 0 ≤ y) (hy' : y < 18446744073709551616) :
    Calls Tryd.prog 62 #[.pointer (some ⟨g, 0, none⟩), .int .u64 x, .int .u64 y] w fun e w' => e = .returned (.int .u64 (x * y % p)) ∧ w.grownBy w' none := by
  have hp := pm.hi
  have h1 := hi_lt hx hx' hy hy'
  have h2 := word_eq (x * y)
  have h3 : 0 ≤ x * y / 18446744073709551616 := Int.ediv_nonneg (Int.mul_nonneg hx hy) (by decide)
  go_enter Tryd.func62, Tryd.ntmps62
  go_wp2_with fail
  refine (mul64_c x y hx (by omega) hy hy' _).mono ?_
  rintro e w' ⟨rfl, rfl⟩
  go_wp2_with fail
  refine (div64_c _ _ p h3 (by omega) (by omega) h1 (by omega) _).mono ?_
  rintro e w1 ⟨rfl, g1⟩
  rw [h2]
  go_wp2
  go_ret
  exact ⟨rfl, g1⟩
theorem mmul_c (w : World) (g : Nat) (p x y : Int) (h : Md w g p) (hx : 0 ≤ x) (hx' : x < p) (hy : 0 ≤ y) (hy' : y < 18446744073709551616) :
    Calls Tryd.prog 62 #[.pointer (some ⟨g, 0, none⟩), .int .u64 x, .int .u64 y] w fun e w' => e = .returned (.int .u64 (x * y % p)) ∧ w.grownBy w' none :=
  mmul_core w g p x y h.pm h.c0 hx hx' hy hy'
theorem modAdd_c (w : World) (g : Nat) (p a b : Int) (h : Md w g p) (ha : 0 ≤ a) (hb : 0 ≤ b) :
    Calls Tryd.prog 99 #[.pointer (some ⟨g, 0, none⟩), .int .u64 a, .int .u64 b] w fun e w' => e = .returned (.int .u64 ((a + b) % p)) ∧ w.grownBy w' none := by
  have hc := h.c0
  have hp := h.pm.lo
  have hp' := h.pm.hi
  have a0 := Int.emod_nonneg a (show p ≠ 0 by omega)
  have a1 := Int.emod_lt_of_pos a (show 0 < p by omega)
  have b0 := Int.emod_nonneg b (show p ≠ 0 by omega)
  have b1 := Int.emod_lt_of_pos b (show 0 < p by omega)
  have hs : (a % p + b % p) % p = (a + b) % p := by
    rw [← Int.add_emod]
  have HS := Lib.hid hs
  clear hs
  go_enter Tryd.func99, Tryd.ntmps99
  go_wp2
  refine Canon.region_canon (by kernel_rfl) (by kernel_rfl) ?_
  go_wp2_with fail
  refine (madd_c _ g p _ _ h.drew a0 a1 b0 (by omega)).mono ?_
  rintro e w' ⟨rfl, gg⟩
  rw [HS.out]
  first | (obtain rfl := gg) | skip
  go_wp2
  refine ⟨by kernel_rfl, ?_⟩
  go_wp2
  go_ret
  exact ⟨rfl, by first | exact gb_drew (gb_refl _ _) | exact gb_trans (gb_drew (gb_refl _ _)) gg⟩
theorem modSub_c (w : World) (g : Nat) (p a b : Int) (h : Md w g p) (ha : 0 ≤ a) (hb : 0 ≤ b) :
    Calls Tryd.prog 98 #[.pointer (some ⟨g, 0, none⟩), .int .u64 a, .int .u64 b] w fun e w' => e = .returned (.int .u64 ((a - b) % p)) ∧ w.grownBy w' none := by
  have hc := h.c0
  have hp := h.pm.lo
  have hp' := h.pm.hi
  have a0 := Int.emod_nonneg a (show p ≠ 0 by omega)
  have a1 := Int.emod_lt_of_pos a (show 0 < p by omega)
  have b0 := Int.emod_nonneg b (show p ≠ 0 by omega)
  have b1 := Int.emod_lt_of_pos b (show 0 < p by omega)
  have hs : (a % p - b % p) % p = (a - b) % p := by
    rw [← Int.sub_emod]
  have HS := Lib.hid hs
  clear hs
  go_enter Tryd.func98, Tryd.ntmps98
  go_wp2
  refine Canon.region_canon (by kernel_rfl) (by kernel_rfl) ?_
  go_wp2_with fail
  refine (msub_c _ g p _ _ h.drew a0 a1 b0 (by omega)).mono ?_
  rintro e w' ⟨rfl, gg⟩
  rw [HS.out]
  first | (obtain rfl := gg) | skip
  go_wp2
  refine ⟨by kernel_rfl, ?_⟩
  go_wp2
  go_ret
  exact ⟨rfl, by first | exact gb_drew (gb_refl _ _) | exact gb_trans (gb_drew (gb_refl _ _)) gg⟩
theorem modMul_c (w : World) (g : Nat) (p a b : Int) (h : Md w g p) (ha : 0 ≤ a) (hb : 0 ≤ b) :
    Calls Tryd.prog 36 #[.pointer (some ⟨g, 0, none⟩), .int .u64 a, .int .u64 b] w fun e w' => e = .returned (.int .u64 (a * b % p)) ∧ w.grownBy w' none := by
  have hc := h.c0
  have hp := h.pm.lo
  have hp' := h.pm.hi
  have a0 := Int.emod_nonneg a (show p ≠ 0 by omega)
  have a1 := Int.emod_lt_of_pos a (show 0 < p by omega)
  have b0 := Int.emod_nonneg b (show p ≠ 0 by omega)
  have b1 := Int.emod_lt_of_pos b (show 0 < p by omega)
  have hs : a % p * (b % p) % p = a * b % p := by
    rw [← Int.mul_emod]
  have HS := Lib.hid hs
  clear hs
  go_enter Tryd.func36, Tryd.ntmps36
  go_wp2
  refine Canon.region_canon (by kernel_rfl) (by kernel_rfl) ?_
  go_wp2_with fail
  refine (mmul_c _ g p _ _ h.drew a0 a1 b0 (by omega)).mono ?_
  rintro e w' ⟨rfl, gg⟩
  rw [HS.out]
  first | (obtain rfl := gg) | skip
  go_wp2
  refine ⟨by kernel_rfl, ?_⟩
  go_wp2
  go_ret
  exact ⟨rfl, by first | exact gb_drew (gb_refl _ _) | exact gb_trans (gb_drew (gb_refl _ _)) gg⟩
/-- What redc does with its words. -/
theorem redc_words {p n hi lo : Int} (hpm : Pm p) (hn : (p * n + 1) % 18446744073709551616 = 0) (h0 : 0 ≤ hi) (h1 : hi < p) (l0 : 0 ≤ lo) (l1 : lo < 18446744073709551616) :
    ∃ q hh l c s, lo * n % 18446744073709551616 = q ∧ q * p / 18446744073709551616 = hh ∧ q * p % 18446744073709551616 = l ∧ (lo + l) % 18446744073709551616 = 0 ∧ (lo + l) / 18446744073709551616 = c ∧ hi + hh + c = s ∧
      0 ≤ q ∧ q < 18446744073709551616 ∧ 0 ≤ l ∧ l < 18446744073709551616 ∧ 0 ≤ hh ∧ hh < p ∧ 0 ≤ c ∧ c ≤ 1 ∧ 0 ≤ s ∧ s < 2 * p ∧ s * 18446744073709551616 = hi * 18446744073709551616 + lo + q * p := by
  have hp := hpm.lo
  have hp' := hpm.hi
  refine ⟨_, _, _, _, _, rfl, rfl, rfl, ?_, rfl, rfl, ?_⟩
  · have h2 : Cg 18446744073709551616 (lo + lo * n % 18446744073709551616 * p % 18446744073709551616) 0 := by
      refine ((Cg.refl _ lo).add ((Cg.mod _ _).trans ((Cg.mod _ _).mulr p))).trans ?_
      have e : lo + lo * n * p = lo * (p * n + 1) := by grind
      rw [e]
      have : Cg 18446744073709551616 (p * n + 1) 0 := by unfold Cg; rw [hn]; rfl
      have := this.mull lo
      rwa [Int.mul_zero] at this
    exact h2
  · have h2 : (lo + lo * n % 18446744073709551616 * p % 18446744073709551616) % 18446744073709551616 = 0 := by
      have h2 : Cg 18446744073709551616 (lo + lo * n % 18446744073709551616 * p % 18446744073709551616) 0 := by
        refine ((Cg.refl _ lo).add ((Cg.mod _ _).trans ((Cg.mod _ _).mulr p))).trans ?_
        have e : lo + lo * n * p = lo * (p * n + 1) := by grind
        rw [e]
        have : Cg 18446744073709551616 (p * n + 1) 0 := by unfold Cg; rw [hn]; rfl
        have := this.mull lo
        rwa [Int.mul_zero] at this
      exact h2
    have q0 := Int.emod_nonneg (lo * n) (show (18446744073709551616 : Int) ≠ 0 by decide)
    have q1 := Int.emod_lt_of_pos (lo * n) (show (0 : Int) < 18446744073709551616 by decide)
    obtain ⟨q, hq⟩ : ∃ q, q = lo * n % 18446744073709551616 := ⟨_, rfl⟩
    rw [← hq] at h2 q0 q1 ⊢
    clear hq hn
    have hlt := hi_lt (x := p - 1) (y := q) (p := p) (by omega) (by omega) q0 q1
    have hqp : 0 ≤ q * p := Int.mul_nonneg q0 (by omega)
    have hqp2 : q * p ≤ 18446744073709551615 * p := Int.mul_le_mul_of_nonneg_right (by omega) (by omega)
    obtain ⟨m, hm⟩ : ∃ m, m = q * p := ⟨_, rfl⟩
    rw [← hm] at h2 hqp hqp2 ⊢
    clear hm hlt
    refine ⟨q0, q1, by omega, by omega, by omega, by omega, by omega, by omega, by omega, by omega, by omega⟩
/-- redc: r below p with r 2^64 like the number modulo p. -/
theorem redc_c (w : World) (g : Nat) (p hi lo : Int) (h : Md w g p) (h0 : 0 ≤ hi) (h1 : hi < p) (l0 : 0 ≤ lo) (l1 : lo < 18446744073709551616) :
    Calls Tryd.prog 91 #[.pointer (some ⟨g, 0, none⟩), .int .u64 hi, .int .u64 lo] w fun e w' => ∃ r, e = .returned (.int .u64 r) ∧ 0 ≤ r ∧ r < p ∧ Cg p (r * 18446744073709551616) (hi * 18446744073709551616 + lo) ∧ w' = w := by
  have hc := h.c0
  obtain ⟨n, hc1, hn0, hn1, hn⟩ := h.neg
  have hp := h.pm.lo
  have hp' := h.pm.hi
  obtain ⟨q, hh, l, c, s, e1, e2, e3, e4, e5, e6, q0, q1, ll0, ll1, hh0, hh1, c0, c1, s0, s1, hs⟩ := redc_words h.pm hn h0 h1 l0 l1
  have w1 : IntKind.u64.wrap (lo * n) = q := by rw [IntKind.wrap_u64]; exact e1
  have a1 : ∀ w, (callFunc 88 #[.int .u64 lo, .int .u64 l, .int .u64 0]).run Tryd.prog w = .ok (.value (.tuple #[.int .u64 0, .int .u64 c])) w := fun w => by
    rw [add64_run lo l 0 l0 ll0 (by decide) (by decide), Int.add_zero, e4, e5]
  have a2 : ∀ w, (callFunc 88 #[.int .u64 hi, .int .u64 hh, .int .u64 c]).run Tryd.prog w = .ok (.value (.tuple #[.int .u64 s, .int .u64 0])) w := fun w => by
    rw [add64_run hi hh c h0 hh0 c0 c1, e6, Int.emod_eq_of_lt s0 (by omega), Int.ediv_eq_zero_of_lt s0 (by omega)]
  have k1 : Cg p (s * 18446744073709551616) (hi * 18446744073709551616 + lo) := by
    rw [hs, Int.mul_comm q p]; exact Cg.add_mult p _ q
  have k2 : Cg p ((s - p) * 18446744073709551616) (hi * 18446744073709551616 + lo) := by
    refine Cg.trans ?_ k1
    have := Cg.add_mult p (s * 18446744073709551616) (-18446744073709551616)
    refine Cg.trans (Cg.of_eq ?_) this
    grind
  have E2 := Lib.hid e2
  have E3 := Lib.hid e3
  have K1 := Lib.hid k1
  have K2 := Lib.hid k2
  clear e1 e2 e3 e4 e5 e6 hs k1 k2 hn
  by_cases hge : p ≤ s
  · go_enter Tryd.func91, Tryd.ntmps91
    go_wp2_with fail
    refine (mul64_c q p q0 q1 (by omega) (by omega) _).mono ?_
    rintro e w' ⟨rfl, rfl⟩
    rw [E2.out, E3.out]
    go_wp2
    go_ret
    exact ⟨s - p, rfl, by omega, by omega, K2.out, rfl⟩
  · have hlt : s < p := by omega
    clear hge
    go_enter Tryd.func91, Tryd.ntmps91
    go_wp2_with fail
    refine (mul64_c q p q0 q1 (by omega) (by omega) _).mono ?_
    rintro e w' ⟨rfl, rfl⟩
    rw [E2.out, E3.out]
    go_wp2
    go_ret
    exact ⟨s, rfl, s0, hlt, K1.out, rfl⟩
end Go.Proofs.YtoiclkaecgpbbaaDoor

/- Primes: products, powers, witnesses. -/
namespace Go.Proofs.YtoiclkaecgpbbaaDoor
open Go.RowKit

theorem pmul_c (w : World) (a b n : Int) (a0 : 0 ≤ a) (a1 : a < n) (b0 : 0 ≤ b) (b1 : b < 18446744073709551616) (n1 : n < 18446744073709551616) :
    Calls Tryd.prog 75 #[.int .u64 a, .int .u64 b, .int .u64 n] w fun e w' => e = .returned (.int .u64 (a * b % n)) ∧ w.grownBy w' none := by
  have h1 := hi_lt a0 a1 b0 b1
  have h2 := word_eq (a * b)
  have h3 : 0 ≤ a * b / 18446744073709551616 := Int.ediv_nonneg (Int.mul_nonneg a0 b0) (by decide)
  go_enter Tryd.func75, Tryd.ntmps75
  go_wp2_with fail
  refine (mul64_c a b a0 (by omega) b0 b1 _).mono ?_
  rintro e w' ⟨rfl, rfl⟩
  go_wp2_with fail
  refine (div64_c _ _ n h3 (by omega) (by omega) h1 (by omega) _).mono ?_
  rintro e w1 ⟨rfl, g1⟩
  rw [h2]
  go_wp2
  go_ret
  exact ⟨rfl, g1⟩
theorem pow_odd {n out x T : Int} {m : Nat} (h : Cg n (out * x ^ m) T) (hm : m % 2 = 1) : Cg n (out * x % n * (x * x % n) ^ (m / 2)) T := by
  refine Cg.trans ?_ h
  refine (Cg.mul (Cg.mod n _) ((Cg.mod n _).pow _)).trans (Cg.of_eq ?_)
  have e : m = 2 * (m / 2) + 1 := by omega
  generalize m / 2 = k at *
  subst e
  rw [Int.pow_succ, Int.pow_mul, Int.pow_succ, Int.pow_succ, Int.pow_zero, Int.one_mul]
  grind
theorem pow_even {n out x T : Int} {m : Nat} (h : Cg n (out * x ^ m) T) (hm : m % 2 = 0) : Cg n (out * (x * x % n) ^ (m / 2)) T := by
  refine Cg.trans ?_ h
  refine (((Cg.mod n _).pow _).mull out).trans (Cg.of_eq ?_)
  have e : m = 2 * (m / 2) := by omega
  generalize m / 2 = k at *
  subst e
  rw [Int.pow_mul, Int.pow_succ, Int.pow_succ, Int.pow_zero, Int.one_mul]
set_option maxRecDepth 100000 in
theorem ppow_c (w : World) (a n : Int) (k : Nat) (a0 : 0 ≤ a) (a1 : a < n) (n1 : n < 18446744073709551616) (hk : k < 2 ^ 64) :
    Calls Tryd.prog 74 #[.int .u64 a, .int .u64 k, .int .u64 n] w fun e w' => e = .returned (.int .u64 (a ^ k % n)) ∧ w.grownBy w' none := by
  have i0 : Cg n (1 % n * a ^ k) (a ^ k) := ((Cg.mod n 1).mulr _).trans (Cg.of_eq (Int.one_mul _))
  have o0 := Int.emod_nonneg 1 (show n ≠ 0 by omega)
  have o1 := Int.emod_lt_of_pos 1 (show 0 < n by omega)
  have I0 := Lib.hid i0
  have hn0 : n ≠ 0 := by omega
  have HK := Lib.hid hk
  clear i0 hk
  go_enter Tryd.func74, Tryd.ntmps74
  go_wp2
  go_loopw [0, 1, 7] (fun v0 v1 v7 wr => ∃ (m : Nat) (x o : Int), v0 = .int .u64 x ∧ v1 = .int .u64 m ∧ v7 = .int .u64 o ∧ m < 2 ^ 64 ∧ 0 ≤ x ∧ x < n ∧ 0 ≤ o ∧ o < n ∧ Cg n (o * x ^ m) (a ^ k) ∧ w.grownBy wr none) (fun _ v1 _ _ => (intOf v1).toNat)
  case atStart => exact ⟨k, a, 1 % n, rfl, rfl, rfl, HK.out, a0, a1, o0, o1, I0.out, gb_refl _ _⟩
  case round =>
    clear I0 o0 o1 a0 a1
    obtain ⟨m, x, o, rfl, rfl, rfl, hm64, x0, x1, o0, o1, I, G⟩ := hrel
    have HI := Lib.hid I
    have hw : IntKind.u64.wrap ((m : Int) / 2) = ((m / 2 : Nat) : Int) := by rw [IntKind.wrap_u64]; omega
    have HM := Lib.hid hm64
    clear I hm64
    by_cases hm0 : 0 < m
    · have q0 := Int.emod_nonneg (x * x) hn0
      have q1 := Int.emod_lt_of_pos (x * x) (show 0 < n by omega)
      have r0 := Int.emod_nonneg (o * x) hn0
      have r1 := Int.emod_lt_of_pos (o * x) (show 0 < n by omega)
      by_cases hodd : m % 2 = 1
      · have ho : ((m : Int) % 2 == 1) = true := by simp; omega
        have ho2 : (m : Int) % 2 = 1 := by omega
        have st := pow_odd HI.out hodd
        have ST := Lib.hid st
        clear st
        go_wp2_with fail
        refine (pmul_c _ o x n o0 o1 x0 (by omega) n1).mono ?_
        rintro e w1 ⟨rfl, g1⟩
        go_wp2_with fail
        refine (pmul_c _ x x n x0 x1 x0 (by omega) n1).mono ?_
        rintro e w2 ⟨rfl, g2⟩
        go_wp2
        go_roundw
        case rel => exact ⟨m / 2, x * x % n, o * x % n, rfl, rfl, rfl, by have := HM.out; omega, q0, q1, r0, r1, ST.out, gb_trans (gb_trans G g1) g2⟩
        case measure => simp [intOf]; omega
      · have ho : ((m : Int) % 2 == 1) = false := by simp; omega
        have ho2 : (m : Int) % 2 = 0 := by omega
        have st := pow_even HI.out (by omega)
        have ST := Lib.hid st
        clear st
        go_wp2_with fail
        refine (pmul_c _ x x n x0 x1 x0 (by omega) n1).mono ?_
        rintro e w2 ⟨rfl, g2⟩
        go_wp2
        go_roundw
        case rel => exact ⟨m / 2, x * x % n, o, rfl, rfl, rfl, by have := HM.out; omega, q0, q1, o0, o1, ST.out, gb_trans G g2⟩
        case measure => simp [intOf]; omega
    · have fin : o = a ^ k % n := by
        have := HI.out
        rw [show m = 0 by omega, Int.pow_zero, Int.mul_one] at this
        exact this.eq_mod o0 o1
      have FIN := Lib.hid fin
      clear fin hw HM HI
      go_wp2
      go_ret
      exact ⟨by rw [← FIN.out]; rfl, G⟩
set_option maxRecDepth 100000 in
theorem witness_c (w : World) (a n : Int) (d s : Nat) (a0 : 0 ≤ a) (n0 : 1 < n) (n1 : n < 18446744073709551616) (hd : d < 2 ^ 64) (hs0 : 0 < s) (hs : s ≤ 64) :
    Calls Tryd.prog 54 #[.int .u64 a, .int .u64 n, .int .u64 d, .int .i64 s] w fun e w' => e = .returned (.bool (wit (a % n) n d s)) ∧ w.grownBy w' none := by
  have m0 := Int.emod_nonneg a (show n ≠ 0 by omega)
  have m1 := Int.emod_lt_of_pos a (show 0 < n by omega)
  obtain ⟨W, hW⟩ : ∃ W, W = wit (a % n) n d s := ⟨_, rfl⟩
  have x0 := Int.emod_nonneg ((a % n) ^ d) (show n ≠ 0 by omega)
  have x1 := Int.emod_lt_of_pos ((a % n) ^ d) (show 0 < n by omega)
  rw [← hW]
  unfold wit at hW
  have P := fun w => ppow_c w (a % n) n d m0 m1 n1 hd
  obtain ⟨x, hx⟩ : ∃ x, x = (a % n) ^ d % n := ⟨_, rfl⟩
  rw [← hx] at hW x0 x1 P
  have HP := Lib.hid P
  have hn0 : n ≠ 0 := by omega
  obtain ⟨t, ht⟩ : ∃ t, s = t + 1 := ⟨s - 1, by omega⟩
  rw [ht] at hW ⊢
  rw [Nat.add_sub_cancel] at hW
  have et : ((t + 1 : Nat) : Int) - 1 = (t : Int) := by omega
  have ht64 : t < 64 := by omega
  clear hx P hs hs0 ht
  by_cases h1 : x = 0
  · have fin : W = false := by rw [hW, if_pos (Or.inl h1)]
    subst h1
    subst fin
    clear hW
    go_enter Tryd.func54, Tryd.ntmps54
    go_wp2_with fail
    refine (HP.out _).mono ?_
    rintro e w1 ⟨rfl, g1⟩
    go_wp2
    go_ret
    exact ⟨rfl, g1⟩
  · by_cases h2 : x = 1
    · have fin : W = false := by rw [hW, if_pos (Or.inr (Or.inl h2))]
      subst h2
      subst fin
      clear hW
      go_enter Tryd.func54, Tryd.ntmps54
      go_wp2_with fail
      refine (HP.out _).mono ?_
      rintro e w1 ⟨rfl, g1⟩
      go_wp2
      go_ret
      exact ⟨rfl, g1⟩
    · by_cases h3 : x = n - 1
      · have fin : W = false := by rw [hW, if_pos (Or.inr (Or.inr h3))]
        subst fin
        have hb1 : (x == 0) = false := by simpa using h1
        have hb2 : (x == 1) = false := by simpa using h2
        have hb3 : (x == n - 1) = true := by simpa using h3
        clear hW h1 h2 h3
        go_enter Tryd.func54, Tryd.ntmps54
        go_wp2_with fail
        refine (HP.out _).mono ?_
        rintro e w1 ⟨rfl, g1⟩
        go_wp2
        go_ret
        exact ⟨rfl, g1⟩
      · rw [if_neg (by omega)] at hW
        have HW := Lib.hid hW
        have hb1 : (x == 0) = false := by simpa using h1
        have hb2 : (x == 1) = false := by simpa using h2
        have hb3 : (x == n - 1) = false := by simpa using h3
        clear hW m0 m1
        go_enter Tryd.func54, Tryd.ntmps54
        go_wp2_with fail
        refine (HP.out _).mono ?_
        rintro e w1 ⟨rfl, g1⟩
        clear HP
        go_wp2
        clear et
        clear hb1 hb2 hb3
        go_loopw [9, 30] (fun v9 v30 wr => ∃ (i : Nat) (y : Int), v9 = .int .u64 y ∧ v30 = .int .i64 i ∧ i ≤ t ∧ 0 ≤ y ∧ y < n ∧ W = mrL n (t - i) y ∧ w.grownBy wr none) (fun _ v30 _ => t - (intOf v30).toNat)
        case atStart => exact ⟨0, x, rfl, rfl, by omega, x0, x1, HW.out, g1⟩
        case round =>
          clear HW x0 x1 h1 h2 h3 g1
          obtain ⟨i, y, rfl, rfl, hi, y0, y1, hW, G⟩ := hrel
          by_cases hit : i < t
          · obtain ⟨c, hc⟩ : ∃ c, t - i = c + 1 := ⟨t - i - 1, by omega⟩
            rw [hc, mrL] at hW
            have hc2 : c = t - (i + 1) := by omega
            have HC := Lib.hid hc2
            have z0 := Int.emod_nonneg (y * y) hn0
            have z1 := Int.emod_lt_of_pos (y * y) (show 0 < n by omega)
            have P := fun w => pmul_c w y y n y0 y1 y0 (by omega) n1
            obtain ⟨z, hz⟩ : ∃ z, z = y * y % n := ⟨_, rfl⟩
            rw [← hz] at hW z0 z1 P
            have HP := Lib.hid P
            clear hz P hc hc2
            by_cases h3 : z = n - 1
            · rw [if_pos h3] at hW
              subst hW
              have hb3 : (z == n - 1) = true := by simpa using h3
              clear h3
              go_wp2_with fail
              refine (HP.out _).mono ?_
              rintro e w2 ⟨rfl, g2⟩
              go_wp2
              go_ret
              exact ⟨rfl, gb_trans G g2⟩
            · rw [if_neg h3] at hW
              have HW := Lib.hid hW
              have hb3 : (z == n - 1) = false := by simpa using h3
              clear h3 hW
              go_wp2_with fail
              refine (HP.out _).mono ?_
              rintro e w2 ⟨rfl, g2⟩
              go_wp2
              clear hb3
              go_roundw
              case rel => exact ⟨i + 1, z, rfl, by go_num, by omega, z0, z1, by rw [← HC.out]; exact HW.out, gb_trans G g2⟩
              case measure => simp [intOf]; omega
          · obtain rfl : i = t := by omega
            rw [Nat.sub_self, mrL] at hW
            subst hW
            go_wp2
            go_ret
            exact ⟨rfl, G⟩
end Go.Proofs.YtoiclkaecgpbbaaDoor

/- A block's cells, one by one. -/
namespace Go.Proofs.YtoiclkaecgpbbaaDoor
open Go.RowKit

/-- Block g begins with these cells, and none of them is frozen. -/
def Cs (w : World) (g : Nat) (l : List Value) : Prop := ∀ j v, l[j]? = some v → w.cell? ⟨g, j, none⟩ = some v ∧ w.frozen? ⟨g, j, none⟩ = false
theorem Cs.cell {w : World} {g : Nat} {l : List Value} (h : Cs w g l) (j : Nat) {v : Value} (hv : l[j]? = some v) : w.cell? ⟨g, j, none⟩ = some v := (h j v hv).1
theorem Cs.free {w : World} {g : Nat} {l : List Value} (h : Cs w g l) (j : Nat) {v : Value} (hv : l[j]? = some v) : w.frozen? ⟨g, j, none⟩ = false := (h j v hv).2
theorem Cs.drew {w : World} {g : Nat} {l : List Value} (h : Cs w g l) : Cs w.drew g l := h
theorem Cs.set {w : World} {g : Nat} {l : List Value} (h : Cs w g l) (k : Nat) (u : Value) : Cs (w.setCell ⟨g, k, none⟩ u) g (l.set k u) := fun j v hv => by
  rw [World.frozen?_setCell]
  by_cases hjk : k = j
  · subst hjk
    have hk : k < l.length := by
      have := (List.getElem?_eq_some_iff.1 hv).1
      rw [List.length_set] at this; exact this
    rw [List.getElem?_set_self hk] at hv
    obtain rfl := Option.some.inj hv
    have := h k _ (List.getElem?_eq_getElem hk)
    exact ⟨World.cell?_setCell_same _ _ _ this.1, this.2⟩
  · rw [List.getElem?_set_ne hjk] at hv
    have := h j v hv
    exact ⟨(World.cell?_setCell_other _ _ _ _ (fun e => by simp only [Addr.mk.injEq] at e; exact hjk e.2.1)).trans this.1, this.2⟩
theorem Cs.grown {w w' : World} {g : Nat} {l : List Value} {row : Option Nat} (h : Cs w g l) (o : w.grownBy w' row) (hr : some g ≠ row) : Cs w' g l := fun j v hv => by
  have k := h j v hv
  have hb := o.block g (World.block_lt_of_cell? w _ k.1) hr
  exact ⟨(World.cell?_of_block hb).trans k.1, (World.frozen?_of_block hb).trans k.2⟩
theorem Cs.grown0 {w w' : World} {g : Nat} {l : List Value} (h : Cs w g l) (o : w.grownBy w' none) : Cs w' g l := h.grown o (by simp)
theorem cs_new (w : World) (cs : Array Value) (t : TypeId) : Cs (w.alloc (.cells cs t)) w.heap.size cs.toList := fun j v hv => by
  have hn : (w.alloc (.cells cs t)).heap[w.heap.size]? = some (.cells cs t (0, 0)) := heap_alloc_new w _
  constructor
  · unfold World.cell?
    rw [hn]
    rw [Array.getElem?_toList] at hv
    exact hv
  · unfold World.frozen?
    rw [hn]; simp
end Go.Proofs.YtoiclkaecgpbbaaDoor

/- Primes: the test. -/
namespace Go.Proofs.YtoiclkaecgpbbaaDoor
open Go.RowKit

/-- The table that finds the lowest digit stands. -/
def Db (w : World) : Prop := ∀ i, i < 64 → w.cell? ⟨0, i, none⟩ = some (.int .u8 ((db.getD i 0 : Nat) : Int))
theorem Db.grown0 {w w' : World} (h : Db w) (g : w.grownBy w' none) : Db w' := fun i hi => gb_cell0 g (h i hi)
set_option maxRecDepth 100000 in
theorem tz64_c (w : World) (x : Nat) (h0 : 0 < x) (hx : x < 2 ^ 64) (hd : Db w) :
    Calls Tryd.prog 53 #[.int .u64 x] w fun e w' => e = .returned (.int .i64 ((tz x).1 : Nat)) ∧ w' = w := by
  obtain ⟨e1, e2, e3⟩ := tzF_spec 64 x h0 hx
  change x = 2 ^ (tz x).1 * (tz x).2 at e1
  change (tz x).2 % 2 = 1 at e2
  change (tz x).1 < 64 at e3
  obtain ⟨s, hs⟩ : ∃ s, s = (tz x).1 := ⟨_, rfl⟩
  obtain ⟨d, hd'⟩ : ∃ d, d = (tz x).2 := ⟨_, rfl⟩
  rw [← hs, ← hd'] at e1
  rw [← hd'] at e2
  rw [← hs] at e3 ⊢
  obtain ⟨y, hy⟩ : ∃ y, y = 2 ^ 64 - x := ⟨_, rfl⟩
  have hn : IntKind.u64.wrap (-(x : Int)) = (y : Int) := by rw [IntKind.wrap_u64]; omega
  have hl : x &&& y = 2 ^ s := by
    have := low_bit s (d / 2) (by rw [show 2 * (d / 2) + 1 = d by omega, ← e1]; exact hx)
    rw [show 2 * (d / 2) + 1 = d by omega, ← e1, ← hy] at this
    exact this
  obtain ⟨P, hP⟩ : ∃ P, P = 2 ^ s := ⟨_, rfl⟩
  have hb : bits .and .u64 (x : Int) (y : Int) = (P : Int) := by
    rw [bits_and_u64_nat x y (by omega) (by omega), hl, hP]
  obtain ⟨q, hq⟩ : ∃ q, q = P * 285870213051353865 % 18446744073709551616 := ⟨_, rfl⟩
  have hm : IntKind.u64.wrap ((P : Int) * 285870213051353865) = (q : Int) := by rw [IntKind.wrap_u64]; omega
  obtain ⟨t1, t2⟩ := db_at s e3
  rw [← hP, ← hq] at t1 t2
  obtain ⟨i, hi⟩ : ∃ i, i = q / 2 ^ 58 := ⟨_, rfl⟩
  rw [← hi] at t1 t2
  have hsh : (q : Int) / 2 ^ 58 = (i : Int) := by omega
  have hsh2 : (q : Int) / 288230376151711744 = (i : Int) := by omega
  have ci := hd i t1
  rw [t2] at ci
  have hx0 : ((x : Int) == 0) = false := by simp; omega
  have t64 : i < 64 := t1
  clear e1 e2 hs hd' hy hl hP hq hi hd t1 t2
  go_enter Tryd.func53, Tryd.ntmps53
  go_wp2
  go_ret
  exact ⟨rfl, rfl⟩
theorem divB_some {n p : Nat} : ∀ {l : List Nat}, divB n l = some p → p ∈ l ∧ n % p = 0
  | [], h => by cases h
  | q :: l, h => by
    unfold divB at h
    by_cases hq : n % q = 0
    · rw [if_pos hq] at h; obtain rfl := Option.some.inj h; exact ⟨List.mem_cons_self .., hq⟩
    · rw [if_neg hq] at h; obtain ⟨h1, h2⟩ := divB_some h; exact ⟨List.mem_cons_of_mem _ h1, h2⟩
theorem divB_skip {n : Nat} : ∀ {l : List Nat} (i : Nat), (∀ j, j < i → n % l.getD j 1 ≠ 0) → divB n l = divB n (l.drop i)
  | [], i, _ => by rw [List.drop_nil]
  | q :: l, 0, _ => rfl
  | q :: l, i + 1, h => by
    have h0 : n % q ≠ 0 := h 0 (by omega)
    have h1 := divB_skip (l := l) i (fun j hj => h (j + 1) (by omega))
    show divB n (q :: l) = divB n (l.drop i)
    rw [divB, if_neg h0]; exact h1
theorem divB_hit {n i : Nat} (hi : i < 12) (h : ∀ j, j < i → n % smallP.getD j 1 ≠ 0) (k : n % smallP.getD i 1 = 0) : divB n smallP = some (smallP.getD i 1) := by
  rw [divB_skip i h]
  have e : smallP.drop i = smallP.getD i 1 :: smallP.drop (i + 1) := by
    rw [List.drop_eq_getElem_cons (show i < smallP.length from hi), List.getD_eq_getElem?_getD, List.getElem?_eq_getElem (show i < smallP.length from hi)]; rfl
  rw [e, divB, if_pos k]
theorem divB_none {n : Nat} (h : ∀ j, j < 12 → n % smallP.getD j 1 ≠ 0) : divB n smallP = none := by
  rw [divB_skip 12 h]; rfl
theorem all_hit {f : Nat → Bool} {l : List Nat} {i : Nat} (hi : i < l.length) (k : f (l.getD i 1) = false) : l.all f = false := by
  cases e : l.all f with
  | false => rfl
  | true =>
    have := List.all_eq_true.1 e (l.getD i 1) (by rw [List.getD_eq_getElem?_getD, List.getElem?_eq_getElem hi]; exact List.getElem_mem hi)
    rw [k] at this; cases this
theorem all_none {f : Nat → Bool} {l : List Nat} (h : ∀ j, j < l.length → f (l.getD j 1) = true) : l.all f = true := by
  refine List.all_eq_true.2 fun x hx => ?_
  obtain ⟨j, hj, rfl⟩ := List.getElem_of_mem hx
  have := h j hj
  rwa [List.getD_eq_getElem?_getD, List.getElem?_eq_getElem hj] at this
theorem smallP_at (i : Nat) (hi : i < 12) : 2 ≤ smallP.getD i 1 ∧ smallP.getD i 1 ≤ 37 := by
  have : ∀ i : Fin 12, 2 ≤ smallP.getD i.1 1 ∧ smallP.getD i.1 1 ≤ 37 := by decide
  exact this ⟨i, hi⟩
theorem big_of {n : Nat} (h2 : ¬ n < 2) (h : ∀ j, j < 12 → n % smallP.getD j 1 ≠ 0) : 37 < n := by
  by_cases k : 37 < n
  · exact k
  · have : ∀ n : Fin 38, 2 ≤ n.1 → ∃ j : Fin 12, n.1 % smallP.getD j.1 1 = 0 := by decide
    obtain ⟨j, hj⟩ := this ⟨n, by omega⟩ (by show 2 ≤ n; omega)
    exact absurd hj (h j.1 j.2)
theorem tz_facts {n : Nat} (h0 : 2 < n) (h1 : n < 2 ^ 64) (ho : n % 2 ≠ 0) : 0 < (tz (n - 1)).1 ∧ (tz (n - 1)).1 ≤ 64 ∧ (tz (n - 1)).2 < 2 ^ 64 ∧ (n - 1) / 2 ^ (tz (n - 1)).1 = (tz (n - 1)).2 := by
  obtain ⟨e1, e2, e3⟩ := tzF_spec 64 (n - 1) (by omega) (by omega)
  change n - 1 = 2 ^ (tz (n - 1)).1 * (tz (n - 1)).2 at e1
  change (tz (n - 1)).2 % 2 = 1 at e2
  change (tz (n - 1)).1 < 64 at e3
  have hp : 0 < 2 ^ (tz (n - 1)).1 := Nat.pow_pos (by decide)
  refine ⟨?_, by omega, ?_, ?_⟩
  · by_cases k : 0 < (tz (n - 1)).1
    · exact k
    · rw [show (tz (n - 1)).1 = 0 by omega, Nat.pow_zero, Nat.one_mul] at e1; omega
  · have : (tz (n - 1)).2 * 1 ≤ (tz (n - 1)).2 * 2 ^ (tz (n - 1)).1 := Nat.mul_le_mul_left _ hp
    rw [Nat.mul_comm _ (2 ^ _)] at this
    omega
  · exact Nat.div_eq_of_eq_mul_right hp e1
def smallV : Value := .agg #[.int .u64 2, .int .u64 3, .int .u64 5, .int .u64 7, .int .u64 11, .int .u64 13, .int .u64 17, .int .u64 19, .int .u64 23, .int .u64 29, .int .u64 31, .int .u64 37]
set_option maxRecDepth 10000 in
theorem small_ix (w : World) (i : Nat) (hi : i < 12) : (Instr.index 82 (.agg #[.int .u64 2, .int .u64 3, .int .u64 5, .int .u64 7, .int .u64 11, .int .u64 13, .int .u64 17, .int .u64 19, .int .u64 23, .int .u64 29, .int .u64 31, .int .u64 37]) (.int .i64 i)).run Tryd.prog w = .ok (.int .u64 (smallP.getD i 1 : Nat)) w := by
  rcases i with _ | _ | _ | _ | _ | _ | _ | _ | _ | _ | _ | _ | i
  · rfl
  · rfl
  · rfl
  · rfl
  · rfl
  · rfl
  · rfl
  · rfl
  · rfl
  · rfl
  · rfl
  · rfl
  · exact absurd hi (by omega)
set_option maxRecDepth 100000 in
set_option maxHeartbeats 1000000 in
theorem is_c (w : World) (n : Nat) (hn : n < 2 ^ 64) (hd : Db w) :
    Calls Tryd.prog 14 #[.int .u64 n] w fun e w' => e = .returned (.bool (isP n)) ∧ w.grownBy w' none := by
  by_cases h2 : n < 2
  · have fin : isP n = false := by unfold isP; rw [if_pos h2]
    rw [fin]
    clear fin hn hd
    go_enter Tryd.func14, Tryd.ntmps14
    go_wp2
    go_ret
    exact ⟨rfl, gb_refl _ _⟩
  · have hit : ∀ i, i < 12 → (∀ j, j < i → n % smallP.getD j 1 ≠ 0) → n % smallP.getD i 1 = 0 → isP n = (n == smallP.getD i 1) := fun i hi h k => by
      unfold isP; rw [if_neg h2, divB_hit hi h k]
    have non : (∀ j, j < 12 → n % smallP.getD j 1 ≠ 0) → isP n = smallP.all fun p => !wit p n (tz (n - 1)).2 (tz (n - 1)).1 := fun h => by
      unfold isP; rw [if_neg h2, divB_none h]
    have tf : (∀ j, j < 12 → n % smallP.getD j 1 ≠ 0) → 0 < (tz (n - 1)).1 ∧ (tz (n - 1)).1 ≤ 64 ∧ (tz (n - 1)).2 < 2 ^ 64 ∧ (n - 1) / 2 ^ (tz (n - 1)).1 = (tz (n - 1)).2 := fun h =>
      tz_facts (by have := h 0 (by decide); simp [smallP] at this; omega) hn (h 0 (by decide))
    have HIT := Lib.hid hit
    have NON := Lib.hid non
    have TF := Lib.hid tf
    have HN := Lib.hid hn
    have HD := Lib.hid hd
    clear hit non tf hn hd
    have h2' : ¬ (n : Int) < 2 := by omega
    go_enter Tryd.func14, Tryd.ntmps14
    go_wp2
    go_loopw [14] (fun v14 wr => ∃ i : Nat, v14 = .int .i64 i ∧ i ≤ 12 ∧ (∀ j, j < i → n % smallP.getD j 1 ≠ 0) ∧ Cs wr w.heap.size [.int .u64 2, .int .u64 3, .int .u64 5, .int .u64 7, .int .u64 11, .int .u64 13, .int .u64 17, .int .u64 19, .int .u64 23, .int .u64 29, .int .u64 31, .int .u64 37] ∧ w.grownBy wr none) (fun v14 _ => 12 - (intOf v14).toNat)
    case atStart => exact ⟨0, rfl, by omega, fun j hj => by omega, cs_new _ _ _, gb_alloc (gb_refl _ _) _⟩
    case round =>
      obtain ⟨i, rfl, hi, hs, C, G⟩ := hrel
      have HS := Lib.hid hs
      clear hs
      by_cases hi12 : i < 12
      · have ix := fun w => small_ix w i hi12
        obtain ⟨p1, p2⟩ := smallP_at i hi12
        have ht := HIT.out i hi12 HS.out
        have hstep : n % smallP.getD i 1 ≠ 0 → ∀ j, j < i + 1 → n % smallP.getD j 1 ≠ 0 := fun h j hj => by
          by_cases e : j = i
          · rw [e]; exact h
          · exact HS.out j (by omega)
        obtain ⟨p, hp⟩ : ∃ p, p = smallP.getD i 1 := ⟨_, rfl⟩
        rw [← hp] at ix p1 p2 ht hstep
        have HST := Lib.hid hstep
        have HT := Lib.hid ht
        clear hp hstep ht
        have em : (n : Int) % (p : Int) = ((n % p : Nat) : Int) := by rw [Int.natCast_emod]
        by_cases hz : n % p = 0
        · have ht := HT.out hz
          rw [hz] at em
          have hb : (((n : Int) == (p : Int))) = isP n := by
            rw [ht]
            by_cases e : n = p
            · rw [e]; simp
            · have : ¬ (n : Int) = (p : Int) := by omega
              rw [beq_eq_false_iff_ne.2 this, beq_eq_false_iff_ne.2 e]
          obtain ⟨b, hbb⟩ : ∃ b, b = isP n := ⟨_, rfl⟩
          rw [← hbb] at hb
          have HB := Lib.hid hbb
          clear ht hbb
          go_wp2
          go_ret
          exact ⟨by rw [← HB.out]; rfl, G⟩
        · have em0 : ¬ (n : Int) % (p : Int) = 0 := by omega
          have hb : ((n : Int) % (p : Int) == 0) = false := by simpa using em0
          have nx := HST.out hz
          have NX := Lib.hid nx
          clear nx em
          go_wp2
          go_roundw
          case rel => exact ⟨i + 1, by go_num, by omega, NX.out, C, G⟩
          case measure => simp [intOf]; omega
      · obtain rfl : i = 12 := by omega
        have nn := NON.out HS.out
        obtain ⟨t0, t1, t2, t3⟩ := TF.out HS.out
        have n37 := big_of h2 HS.out
        obtain ⟨m, hm⟩ : ∃ m, m = n - 1 := ⟨_, rfl⟩
        have T := fun w (h : Db w) => tz64_c w m (by omega) (by have := HN.out; omega) h
        rw [← hm] at nn t0 t1 t2 t3
        have em : (n : Int) - 1 = (m : Int) := by omega
        obtain ⟨s, hs⟩ : ∃ s, s = (tz m).1 := ⟨_, rfl⟩
        obtain ⟨d, hd⟩ : ∃ d, d = (tz m).2 := ⟨_, rfl⟩
        rw [← hs, ← hd] at nn
        rw [← hs] at t0 t1 t3 T
        rw [← hd] at t2 t3
        have es : (m : Int) / 2 ^ s = (d : Int) := by
          have e : (m : Int) / 2 ^ s = ((m / 2 ^ s : Nat) : Int) := by rw [Int.natCast_ediv, Int.natCast_pow]; rfl
          rw [e, t3]
        have n64 : (n : Int) < 18446744073709551616 := by have := HN.out; omega
        have X := fun w (p : Nat) (h : p ≤ 37) => witness_c w p n d s (by omega) (by omega) n64 t2 t0 t1
        have X2 : ∀ w (p : Nat), p ≤ 37 → Calls Tryd.prog 54 #[.int .u64 p, .int .u64 n, .int .u64 d, .int .i64 s] w fun e w' => e = .returned (.bool (wit p n d s)) ∧ w.grownBy w' none := fun w p h => by
          have := X w p h
          rwa [Int.emod_eq_of_lt (by omega) (by omega)] at this
        have HT := Lib.hid T
        have HX := Lib.hid X2
        have HNN := Lib.hid nn
        have hs64 : s ≤ 64 := t1
        have hm64 : (m : Int) < 18446744073709551616 := by omega
        clear hs hd hm T X X2 nn t0 t1 t2 t3
        have c0 := C.cell 0 rfl
        have c1 := C.cell 1 rfl
        have c2 := C.cell 2 rfl
        have c3 := C.cell 3 rfl
        have c4 := C.cell 4 rfl
        have c5 := C.cell 5 rfl
        have c6 := C.cell 6 rfl
        have c7 := C.cell 7 rfl
        have c8 := C.cell 8 rfl
        have c9 := C.cell 9 rfl
        have c10 := C.cell 10 rfl
        have c11 := C.cell 11 rfl
        clear C
        go_wp2_with fail
        refine (HT.out _ (HD.out.grown0 G)).mono ?_
        rintro e w1 ⟨rfl, rfl⟩
        go_wp2
        clear c0 c1 c2 c3 c4 c5 c6 c7 c8 c9 c10 c11 em es hm64 n64
        obtain ⟨wo, rfl⟩ : ∃ wo : World, wo = w1 := ⟨_, rfl⟩
        go_loopw [34] (fun v34 wr => ∃ i : Nat, v34 = .int .i64 i ∧ i ≤ 12 ∧ (∀ j, j < i → wit (smallP.getD j 1 : Nat) n d s = false) ∧ wo.grownBy wr none) (fun v34 _ => 12 - (intOf v34).toNat)
        case atStart => exact ⟨0, rfl, by omega, fun j hj => by omega, gb_refl _ _⟩
        case round =>
          obtain ⟨i, rfl, hi, hs, R⟩ := hrel
          have HS2 := Lib.hid hs
          clear hs
          by_cases hi12 : i < 12
          · have ix := fun w => small_ix w i hi12
            obtain ⟨p1, p2⟩ := smallP_at i hi12
            have ht : wit (smallP.getD i 1 : Nat) n d s = true → isP n = false := fun h => by
              rw [HNN.out]
              exact all_hit (i := i) hi12 (by rw [h]; rfl)
            have hstep : wit (smallP.getD i 1 : Nat) n d s = false → ∀ j, j < i + 1 → wit (smallP.getD j 1 : Nat) n d s = false := fun h j hj => by
              by_cases e : j = i
              · rw [e]; exact h
              · exact HS2.out j (by omega)
            have X := fun w => HX.out w _ p2
            obtain ⟨p, hp⟩ : ∃ p, p = smallP.getD i 1 := ⟨_, rfl⟩
            rw [← hp] at ix p1 p2 ht hstep X
            obtain ⟨b, hb⟩ : ∃ b, b = wit (p : Nat) n d s := ⟨_, rfl⟩
            rw [← hb] at ht hstep X
            have HST := Lib.hid hstep
            have HT2 := Lib.hid ht
            have HX2 := Lib.hid X
            clear hp hstep ht X hb
            go_wp2_with fail
            refine (HX2.out _).mono ?_
            rintro e w2 ⟨rfl, g2⟩
            cases b with
            | true =>
              have fin := HT2.out rfl
              have FIN := Lib.hid fin
              clear fin
              go_wp2
              go_ret
              exact ⟨by rw [FIN.out]; rfl, gb_trans (gb_trans G R) g2⟩
            | false =>
              have nx := HST.out rfl
              have NX := Lib.hid nx
              clear nx
              go_wp2
              go_roundw
              case rel => exact ⟨i + 1, by go_num, by omega, NX.out, gb_trans R g2⟩
              case measure => simp [intOf]; omega
          · obtain rfl : i = 12 := by omega
            have fin : isP n = true := by
              rw [HNN.out]
              exact all_none (fun j hj => by rw [HS2.out j hj]; rfl)
            have FIN := Lib.hid fin
            clear fin
            go_wp2
            go_ret
            exact ⟨by rw [FIN.out]; rfl, gb_trans G R⟩
end Go.Proofs.YtoiclkaecgpbbaaDoor

/- The table that the rows list: what a walk reads of it; a world that has it. -/
namespace Go.Proofs.YtoiclkaecgpbbaaDoor
open Go.ChangeShapes Go.WideShapes Go.ChangeAt Go.RowKit

theorem gTab : Tryd.prog.globalNamed "math/bits.deBruijn64tab" = some 0 := by kernel_rfl
theorem gTabType : (Tryd.prog.globals[0]?).map (·.type) = some 98 := by kernel_rfl
def tabZ : List Int := db.map fun (n : Nat) => (n : Int)
def laidL : List (String × DataW Unit) := [("math/bits.deBruijn64tab", Rows.laid_math_bits_deBruijn64tab)]
theorem laidL_tab : laidL = [("math/bits.deBruijn64tab", Lib.tabData .u8 tabZ)] := rfl
theorem db_of_laid {W : World} (h : laidMetH Tryd.prog laidL W) : Db W := by
  rw [MakeChecks.laidMetH_plain _ _ _ (by kernel_rfl), laidL_tab] at h
  have ht : Lib.TabIs Tryd.prog W "math/bits.deBruijn64tab" .u8 tabZ := Lib.tabIs_of_head gTab gTabType Tryd.underlying98 Tryd.underlying5 (by kernel_rfl) (by kernel_rfl) h
  intro i hi
  have := ht.cell gTab i (by show i < 64; exact hi)
  rw [this]
  have e : tabZ.getD i 0 = ((db.getD i 0 : Nat) : Int) := by
    unfold tabZ
    rw [List.getD_eq_getElem?_getD, List.getElem?_map, List.getD_eq_getElem?_getD, List.getElem?_eq_getElem (show i < db.length from hi)]; rfl
  rw [e]
theorem door_met (os : Os) (args : Array Value) : laidMetH Tryd.prog laidL ((World.doorLaid Tryd.prog 400 os).forCall (fun _ _ => 0) ⟨#[], args, []⟩).memory :=
  laidMetH_of_parts3 (fuel := 8) (laidMet_of_run' 8 (by kernel_rfl) (by kernel_rfl)) (by kernel_rfl) (by kernel_rfl)
end Go.Proofs.YtoiclkaecgpbbaaDoor

/- The statements' helps. -/
namespace Go.Proofs.YtoiclkaecgpbbaaDoor
open Go.RowKit

theorem Sl.take {w : World} {A : Option Addr} {n c : Nat} {xs : List Int} (h : Sl w (.slice A n c) xs) (k : Nat) (hk : k ≤ n) : Sl w (.slice A k c) (xs.take k) := by
  obtain ⟨A', c', e, h1, h2, h3, h4⟩ := h
  simp only [Value.slice.injEq] at e
  obtain ⟨rfl, rfl, rfl⟩ := e
  have hl : (xs.take k).length = k := by rw [List.length_take]; omega
  refine ⟨A, c, by rw [hl], by omega, h2, ws_take h3 k, fun hn => ?_⟩
  rw [hl] at hn
  obtain ⟨b, o, hA, hc⟩ := h4 (by omega)
  refine ⟨b, o, hA, fun j hj => ?_⟩
  rw [hl] at hj
  rw [hc j (by omega)]
  congr 2
  unfold rd
  rw [List.getD_eq_getElem?_getD, List.getD_eq_getElem?_getD, List.getElem?_take_of_lt hj]
theorem Sl.form {w : World} {v : Value} {xs : List Int} (h : Sl w v xs) : ∃ A c, v = .slice A xs.length c ∧ xs.length ≤ c ∧ c ≤ 9223372036854775807 := by
  obtain ⟨A, c, e, h1, h2, _⟩ := h
  exact ⟨A, c, e, h1, h2⟩
theorem cut_c (w : World) (v : Value) (xs : List Int) (n : Nat) (hn : n ≤ 1000000) (h : Sl w v xs) :
    Calls Tryd.prog 40 #[v, .int .i64 n] w fun e w' => ∃ u, e = .returned u ∧ Sl w u (xs.take n) ∧ w' = w := by
  obtain ⟨A, c, rfl, h1, h2⟩ := h.form
  obtain ⟨m, hm⟩ : ∃ m, m = xs.length := ⟨_, rfl⟩
  rw [← hm] at h1 h
  have H := Lib.hid h
  have HM := Lib.hid hm
  rw [← hm]
  clear h hm
  by_cases hle : n < m
  · have ht := H.out.take n (by omega)
    have HT := Lib.hid ht
    clear ht
    go_enter Tryd.func40, Tryd.ntmps40
    go_wp2
    go_ret
    exact ⟨_, rfl, HT.out, rfl⟩
  · have ht : xs.take n = xs := List.take_of_length_le (by rw [← HM.out]; omega)
    rw [ht]
    clear ht
    go_enter Tryd.func40, Tryd.ntmps40
    go_wp2 <;> (go_ret; exact ⟨_, rfl, H.out, rfl⟩)
theorem same_step {xs ys : List Int} {k : Nat} (h : ∀ j, j < k → rd xs j = rd ys j) (hk : rd xs k = rd ys k) : ∀ j, j < k + 1 → rd xs j = rd ys j := fun j hj => by
  by_cases e : j = k
  · rw [e]; exact hk
  · exact h j (by omega)
theorem rd_ext {xs ys : List Int} (hl : xs.length = ys.length) (h : ∀ j, j < xs.length → rd xs j = rd ys j) : xs = ys := by
  apply List.ext_getElem hl
  intro i h1 h2
  have := h i h1
  simpa [rd, List.getD_eq_getElem?_getD, h1, h2] using this
theorem same_c (w : World) (u v : Value) (xs ys : List Int) (h : Sl w u xs) (k : Sl w v ys) :
    Calls Tryd.prog 29 #[u, v] w fun e w' => e = .returned (.bool (decide (xs = ys))) ∧ w.grownBy w' none := by
  obtain ⟨A, c, rfl, h1, h2, h3, h4⟩ := h
  obtain ⟨B, d, rfl, k1, k2, k3, k4⟩ := k
  obtain ⟨m, hm⟩ : ∃ m, m = xs.length := ⟨_, rfl⟩
  obtain ⟨n, hn⟩ : ∃ n, n = ys.length := ⟨_, rfl⟩
  rw [← hm] at h1 h4 ⊢
  rw [← hn] at k1 k4 ⊢
  have HM := Lib.hid hm
  have HN := Lib.hid hn
  clear hm hn
  by_cases hmn : m = n
  · subst hmn
    obtain ⟨r, hr⟩ : ∃ r, r = decide (xs = ys) := ⟨_, rfl⟩
    rw [← hr]
    have HR := Lib.hid hr
    clear hr
    go_enter Tryd.func29, Tryd.ntmps29
    go_wp2
    go_loopw [5] (fun v5 wr => ∃ i : Nat, v5 = .int .i64 i ∧ i ≤ m ∧ (∀ j, j < i → rd xs j = rd ys j) ∧ w.grownBy wr none) (fun v5 _ => m - (intOf v5).toNat)
    case atStart => exact ⟨0, rfl, by omega, fun j hj => absurd hj (by omega), gb_refl _ _⟩
    case round =>
      obtain ⟨i, rfl, hi, hj, G⟩ := hrel
      have HJ := Lib.hid hj
      clear hj
      by_cases hlt : i < m
      · obtain ⟨b, o, rfl, hc⟩ := h4 (by omega)
        obtain ⟨b', o', rfl, hc'⟩ := k4 (by omega)
        have c1 := gb_cell0 G (hc i hlt)
        have c2 := gb_cell0 G (hc' i hlt)
        by_cases he : rd xs i = rd ys i
        · obtain ⟨z, hz⟩ : ∃ z, z = rd xs i := ⟨_, rfl⟩
          rw [← hz] at c1
          rw [← he, ← hz] at c2
          have HE := Lib.hid he
          clear hc hc' he hz h4 k4
          go_wp2
          refine Canon.region_canon (by kernel_rfl) (by kernel_rfl) ?_
          go_wp2
          refine ⟨by kernel_rfl, ?_⟩
          go_wp2
          go_roundw
          case rel => exact ⟨i + 1, by go_num, by omega, same_step HJ.out HE.out, gb_drew G⟩
          case measure => simp [intOf]; omega
        · have hf : r = false := by
            rw [HR.out, decide_eq_false_iff_not]; intro e; rw [e] at he; exact he rfl
          have HF := Lib.hid hf
          obtain ⟨z, hz⟩ : ∃ z, z = rd xs i := ⟨_, rfl⟩
          obtain ⟨y, hy⟩ : ∃ z, z = rd ys i := ⟨_, rfl⟩
          rw [← hz] at c1 he
          rw [← hy] at c2 he
          clear hc hc' hz hy h4 k4 hf
          go_wp2
          refine Canon.region_canon (by kernel_rfl) (by kernel_rfl) ?_
          go_wp2
          refine ⟨by kernel_rfl, ?_⟩
          go_wp2
          go_ret
          exact ⟨by rw [HF.out]; rfl, gb_drew G⟩
      · obtain rfl : i = m := by omega
        have ht : r = true := by
          rw [HR.out, decide_eq_true_iff]
          exact rd_ext (by rw [← HM.out, ← HN.out]) (fun j hj => HJ.out j (by rw [← HM.out] at hj; exact hj))
        have HT := Lib.hid ht
        clear h4 k4 ht
        go_wp2
        go_ret
        exact ⟨by rw [HT.out]; rfl, G⟩
  · have hf : decide (xs = ys) = false := by
      rw [decide_eq_false_iff_not]; intro e; exact hmn (by rw [HM.out, HN.out, e])
    rw [hf]
    clear hf h4 k4
    have hmn' : ¬ (m : Int) = (n : Int) := by omega
    go_enter Tryd.func29, Tryd.ntmps29
    go_wp2
    go_ret
    exact ⟨rfl, gb_refl _ _⟩
end Go.Proofs.YtoiclkaecgpbbaaDoor

/- Digits: a list of them, lowest first, as a number. Plain, no program in sight. -/
namespace Go.Proofs.YtoiclkaecgpbbaaDoor
open Go.RowKit

def val (B : Nat) : List Int → Nat
  | [] => 0
  | x :: xs => x.toNat + B * val B xs
/-- Without noughts on top. -/
def trimZ : List Int → List Int
  | [] => []
  | x :: xs => if trimZ xs = [] ∧ x = 0 then [] else x :: trimZ xs
/-- Digits below B. -/
def Dg (B : Nat) (xs : List Int) : Prop := ∀ x ∈ xs, 0 ≤ x ∧ x < (B : Int)
/-- No nought on top. -/
def Nz (xs : List Int) : Prop := trimZ xs = xs
theorem Dg.nil (B : Nat) : Dg B [] := fun _ h => by cases h
theorem Dg.head {B : Nat} {x : Int} {xs : List Int} (h : Dg B (x :: xs)) : 0 ≤ x ∧ x < (B : Int) := h x (List.mem_cons_self ..)
theorem Dg.tail {B : Nat} {x : Int} {xs : List Int} (h : Dg B (x :: xs)) : Dg B xs := fun y hy => h y (List.mem_cons_of_mem _ hy)
theorem Dg.cons {B : Nat} {x : Int} {xs : List Int} (h0 : 0 ≤ x) (h1 : x < (B : Int)) (h : Dg B xs) : Dg B (x :: xs) := fun y hy => by
  rcases List.mem_cons.1 hy with rfl | hy
  · exact ⟨h0, h1⟩
  · exact h y hy
theorem Dg.append {B : Nat} {xs ys : List Int} (h : Dg B xs) (k : Dg B ys) : Dg B (xs ++ ys) := fun x hx => (List.mem_append.1 hx).elim (h x) (k x)
theorem Dg.take {B : Nat} {xs : List Int} (h : Dg B xs) (k : Nat) : Dg B (xs.take k) := fun x hx => h x (List.mem_of_mem_take hx)
theorem Dg.drop {B : Nat} {xs : List Int} (h : Dg B xs) (k : Nat) : Dg B (xs.drop k) := fun x hx => h x (List.mem_of_mem_drop hx)
theorem Dg.mono {B C : Nat} {xs : List Int} (h : Dg B xs) (hBC : B ≤ C) : Dg C xs := fun x hx => ⟨(h x hx).1, by have := (h x hx).2; omega⟩
theorem Dg.set {B : Nat} {xs : List Int} (h : Dg B xs) (k : Nat) {y : Int} (h0 : 0 ≤ y) (h1 : y < (B : Int)) : Dg B (xs.set k y) := fun x hx => by
  rcases List.mem_or_eq_of_mem_set hx with hx | rfl
  · exact h x hx
  · exact ⟨h0, h1⟩
theorem Dg.replicate {B : Nat} (hB : 0 < B) (n : Nat) : Dg B (List.replicate n 0) := fun x hx => by
  rw [List.eq_of_mem_replicate hx]; exact ⟨by decide, by omega⟩
theorem Dg.ws {B : Nat} {xs : List Int} (h : Dg B xs) (hB : B ≤ 18446744073709551616) : Ws xs := fun x hx => ⟨(h x hx).1, by have := (h x hx).2; omega⟩
theorem Ws.dg {xs : List Int} (h : Ws xs) : Dg 18446744073709551616 xs := h
theorem Dg.at_ {B : Nat} (hB : 0 < B) {xs : List Int} (h : Dg B xs) (i : Nat) : 0 ≤ rd xs i ∧ rd xs i < (B : Int) := by
  unfold rd
  rw [List.getD_eq_getElem?_getD]
  by_cases hi : i < xs.length
  · rw [List.getElem?_eq_getElem hi]; exact h _ (List.getElem_mem hi)
  · rw [List.getElem?_eq_none (by omega)]; exact ⟨by decide, by simp; omega⟩

theorem trimZ_dg {B : Nat} {xs : List Int} (h : Dg B xs) : Dg B (trimZ xs) := by
  induction xs with
  | nil => exact h
  | cons x xs ih =>
    unfold trimZ
    split
    · exact Dg.nil B
    · exact Dg.cons h.head.1 h.head.2 (ih h.tail)
theorem trimZ_trimZ (xs : List Int) : trimZ (trimZ xs) = trimZ xs := by
  induction xs with
  | nil => rfl
  | cons x xs ih =>
    by_cases h : trimZ xs = [] ∧ x = 0
    · simp only [trimZ, if_pos h]
    · rw [show trimZ (x :: xs) = x :: trimZ xs by simp only [trimZ, if_neg h]]
      simp only [trimZ, ih, if_neg h]
theorem nz_trimZ (xs : List Int) : Nz (trimZ xs) := trimZ_trimZ xs
theorem nz_nil : Nz [] := rfl
theorem Nz.tail {x : Int} {xs : List Int} (h : Nz (x :: xs)) : Nz xs := by
  unfold Nz at h ⊢
  by_cases k : trimZ xs = [] ∧ x = 0
  · simp only [trimZ, if_pos k] at h; cases h
  · simp only [trimZ, if_neg k, List.cons.injEq, true_and] at h; exact h
theorem val_trimZ (B : Nat) (xs : List Int) : val B (trimZ xs) = val B xs := by
  induction xs with
  | nil => rfl
  | cons x xs ih =>
    by_cases k : trimZ xs = [] ∧ x = 0
    · simp only [trimZ, if_pos k, val]
      rw [← ih, k.1, k.2]; simp [val]
    · simp only [trimZ, if_neg k, val, ih]
theorem nz_pos {B : Nat} (hB : 0 < B) {xs : List Int} (h : Dg B xs) (hz : Nz xs) (hne : xs ≠ []) : 0 < val B xs := by
  induction xs with
  | nil => exact absurd rfl hne
  | cons x xs ih =>
    unfold val
    by_cases hx : xs = []
    · subst hx
      have : x ≠ 0 := by
        intro e; subst e
        unfold Nz trimZ at hz
        simp [trimZ] at hz
      have := h.head.1
      simp only [val]; omega
    · have := ih h.tail hz.tail hx
      have := Nat.mul_pos hB this
      omega
/-- Digits are known by their number. -/
theorem dg_ext {B : Nat} (hB : 0 < B) {xs ys : List Int} (hx : Dg B xs) (hy : Dg B ys) (zx : Nz xs) (zy : Nz ys) (h : val B xs = val B ys) : xs = ys := by
  induction xs generalizing ys with
  | nil =>
    by_cases he : ys = []
    · rw [he]
    · have := nz_pos hB hy zy he
      rw [← h] at this; exact absurd this (by simp [val])
  | cons x xs ih =>
    cases ys with
    | nil => have := nz_pos hB hx zx (by simp); rw [h] at this; exact absurd this (by simp [val])
    | cons y ys =>
      simp only [val] at h
      have h1 := hx.head
      have h2 := hy.head
      have e1 : x.toNat = (x.toNat + B * val B xs) % B := by rw [Nat.add_mul_mod_self_left, Nat.mod_eq_of_lt (by omega)]
      have e2 : y.toNat = (y.toNat + B * val B ys) % B := by rw [Nat.add_mul_mod_self_left, Nat.mod_eq_of_lt (by omega)]
      have exy : x.toNat = y.toNat := by rw [e1, e2, h]
      have ev : val B xs = val B ys := by
        rw [exy] at h
        exact Nat.eq_of_mul_eq_mul_left hB (by omega)
      rw [ih hx.tail hy.tail zx.tail zy.tail ev, show x = y by omega]
theorem val_lt {B : Nat} {xs : List Int} (h : Dg B xs) : val B xs < B ^ xs.length := by
  induction xs with
  | nil => simp [val]
  | cons x xs ih =>
    have := ih h.tail
    have h1 := h.head
    simp only [val, List.length_cons, Nat.pow_succ]
    have : B * (val B xs + 1) ≤ B * B ^ xs.length := Nat.mul_le_mul_left _ this
    rw [Nat.mul_comm (B ^ xs.length)]
    rw [Nat.mul_add] at this
    omega
theorem val_append (B : Nat) (xs ys : List Int) : val B (xs ++ ys) = val B xs + B ^ xs.length * val B ys := by
  induction xs with
  | nil => simp [val]
  | cons x xs ih => simp only [List.cons_append, val, ih, List.length_cons, Nat.pow_succ]; grind
theorem val_replicate (B n : Nat) : val B (List.replicate n 0) = 0 := by
  induction n with
  | zero => rfl
  | succ n ih => simp [List.replicate_succ, val, ih]
theorem val_take_drop (B : Nat) (xs : List Int) (k : Nat) (hk : k ≤ xs.length) : val B xs = val B (xs.take k) + B ^ k * val B (xs.drop k) := by
  have h := val_append B (xs.take k) (xs.drop k)
  rw [List.take_append_drop, List.length_take, Nat.min_eq_left hk] at h
  exact h
theorem drop_rd {xs : List Int} {k : Nat} (hk : k < xs.length) : xs.drop k = rd xs k :: xs.drop (k + 1) := by
  rw [List.drop_eq_getElem_cons hk]
  congr 1
  unfold rd
  rw [List.getD_eq_getElem?_getD, List.getElem?_eq_getElem hk]; rfl
theorem take_rd {xs : List Int} {k : Nat} (hk : k < xs.length) : xs.take (k + 1) = xs.take k ++ [rd xs k] := by
  rw [List.take_succ_eq_append_getElem hk]
  congr 2
  unfold rd
  rw [List.getD_eq_getElem?_getD, List.getElem?_eq_getElem hk]; rfl
theorem val_one (B : Nat) (x : Int) : val B [x] = x.toNat := by simp [val]
/-- The value of the lowest digits, one more. -/
theorem val_take_succ (B : Nat) {xs : List Int} {k : Nat} (hk : k < xs.length) : val B (xs.take (k + 1)) = val B (xs.take k) + B ^ k * (rd xs k).toNat := by
  rw [take_rd hk, val_append, val_one, List.length_take, Nat.min_eq_left (by omega)]
theorem val_drop (B : Nat) {xs : List Int} {k : Nat} (hk : k < xs.length) : val B (xs.drop k) = (rd xs k).toNat + B * val B (xs.drop (k + 1)) := by
  rw [drop_rd hk]; rfl
theorem val_set (B : Nat) {xs : List Int} {k : Nat} (hk : k < xs.length) (y : Int) : val B (xs.set k y) + B ^ k * (rd xs k).toNat = val B xs + B ^ k * y.toNat := by
  induction xs generalizing k with
  | nil => simp at hk
  | cons x xs ih =>
    cases k with
    | zero => simp only [List.set_cons_zero, val, Nat.pow_zero, Nat.one_mul]; simp [rd]; omega
    | succ k =>
      have := ih (k := k) (by simpa using hk)
      simp only [List.set_cons_succ, val, Nat.pow_succ]
      have e : rd (x :: xs) (k + 1) = rd xs k := by simp [rd]
      rw [e]
      have := congrArg (B * ·) this
      simp only [Nat.mul_add] at this
      grind
/-- Trimmed by a count. -/
theorem take_trimZ {xs : List Int} {k : Nat} (hk : k ≤ xs.length) (h0 : ∀ j, k ≤ j → rd xs j = 0) (h1 : k = 0 ∨ rd xs (k - 1) ≠ 0) : xs.take k = trimZ xs := by
  induction xs generalizing k with
  | nil => simp [trimZ]
  | cons x xs ih =>
    cases k with
    | zero =>
      have := ih (k := 0) (by omega) (fun j _ => by have := h0 (j + 1) (by omega); simpa [rd] using this) (Or.inl rfl)
      have hx : x = 0 := by have := h0 0 (by omega); simpa [rd] using this
      simp only [List.take_zero] at this ⊢
      simp only [trimZ, ← this, hx, and_self, if_true]
    | succ k =>
      have hk' : k ≤ xs.length := by simpa using hk
      have ht := ih (k := k) hk' (fun j hj => by have := h0 (j + 1) (by omega); simpa [rd] using this) (by
        rcases h1 with h1 | h1
        · omega
        · by_cases hz : k = 0
          · exact Or.inl hz
          · right
            obtain ⟨m, rfl⟩ : ∃ m, k = m + 1 := ⟨k - 1, by omega⟩
            simpa [rd] using h1)
      have hn : ¬ (trimZ xs = [] ∧ x = 0) := by
        rintro ⟨e1, e2⟩
        rw [← ht] at e1
        have : k = 0 := by
          by_cases hz : k = 0
          · exact hz
          · have := congrArg List.length e1
            rw [List.length_take, List.length_nil] at this; omega
        subst this
        rcases h1 with h1 | h1
        · omega
        · exact h1 (by simp [rd, e2])
      rw [List.take_succ_cons, ht]
      simp only [trimZ, if_neg hn]
/-- Three ways of two numbers. -/
def cmpI (m n : Nat) : Int := if m < n then -1 else if n < m then 1 else 0
theorem cmp_top {B : Nat} (hB : 0 < B) {xs ys : List Int} (hx : Dg B xs) (hy : Dg B ys) (hl : xs.length = ys.length) {i : Nat} (hi : i < xs.length)
    (he : ∀ j, i < j → rd xs j = rd ys j) (hlt : rd xs i < rd ys i) : val B xs < val B ys := by
  have hd : xs.drop (i + 1) = ys.drop (i + 1) := by
    apply List.ext_getElem (by rw [List.length_drop, List.length_drop, hl])
    intro j h1 h2
    rw [List.length_drop] at h1 h2
    have := he (i + 1 + j) (by omega)
    simpa [rd, List.getD_eq_getElem?_getD, show i + 1 + j < xs.length by omega, show i + 1 + j < ys.length by omega] using this
  rw [val_take_drop B xs i (by omega), val_take_drop B ys i (by omega), val_drop B hi, val_drop B (show i < ys.length by omega), hd]
  have h1 := val_lt (hx.take i)
  rw [List.length_take, Nat.min_eq_left (by omega)] at h1
  have a := (hx.at_ hB i)
  have b := (hy.at_ hB i)
  have c : (rd xs i).toNat + 1 ≤ (rd ys i).toNat := by omega
  have d := Nat.mul_le_mul_left (B ^ i) c
  simp only [Nat.mul_add] at d ⊢
  omega
theorem cmp_len {B : Nat} (hB : 0 < B) {xs ys : List Int} (hx : Dg B xs) (hy : Dg B ys) (zy : Nz ys) (hl : xs.length < ys.length) : val B xs < val B ys := by
  have h1 := val_lt hx
  have hne : ys.drop (ys.length - 1) ≠ [] := by
    intro e; have := congrArg List.length e; rw [List.length_drop] at this; simp at this; omega
  have h2 : 0 < val B (ys.drop (ys.length - 1)) := nz_pos hB (hy.drop _) (by
    have : ∀ (k : Nat) (l : List Int), Nz l → Nz (l.drop k) := fun k => by
      induction k with
      | zero => intro l h; exact h
      | succ k ih => intro l h; cases l with
        | nil => exact h
        | cons x l => exact ih l h.tail
    exact this _ _ zy) hne
  rw [val_take_drop B ys (ys.length - 1) (by omega)]
  have h3 : B ^ xs.length ≤ B ^ (ys.length - 1) := Nat.pow_le_pow_right hB (by omega)
  have h4 : B ^ (ys.length - 1) * 1 ≤ B ^ (ys.length - 1) * val B (ys.drop (ys.length - 1)) := Nat.mul_le_mul_left _ h2
  omega
end Go.Proofs.YtoiclkaecgpbbaaDoor

/- Appending to a row of the call's own; built rows. -/
namespace Go.Proofs.YtoiclkaecgpbbaaDoor
open Go.RowKit

theorem nums_append (xs ys : List Int) : nums (xs ++ ys) = nums xs ++ nums ys := by simp [nums]
theorem Own.lt {w : World} {base : Nat} {v : Value} {xs : List Int} (h : Own w base v xs) : ∀ k, v.ownBlock = some k → base ≤ k ∧ k < w.heap.size := h.1.lt
theorem Own.gb {w w0 w' : World} {v : Value} {xs : List Int} (h : Own w w0.heap.size v xs) (g : w0.grownBy w none) (k : w.grownBy w' v.ownBlock) : w0.grownBy w' none :=
  gb_new g k (fun i hi => (h.lt i hi).1)
theorem own_append {w : World} {base : Nat} {ops : Array Oper} {rest : List Oper} {o : Oper} {a : Act} {Q : Exit → Act → World → Prop} (t : TypeId) (ht : Tryd.prog.underlying t = some (.slice 22))
    (s x : Operand) (hgd : o.guard = none) (ho : o.op = .call { callee := .builtin .append, args := #[s, x], argTypes := #[t, t] })
    (v : Value) (xs : List Int) (hs : a.eval s = v) (hown : Own w base v xs)
    (ad : Addr) (m c : Nat) (ys : List Int) (hx : a.eval x = .slice (some ad) m c) (hl : ys.length = m) (hy : Ws ys)
    (hc : ∀ j, j < ys.length → w.cell? (ad.add j) = some (.int .u64 (rd ys j))) (hb : xs.length + ys.length ≤ 1000000000000) (hbase : base ≤ w.heap.size)
    (h : ∀ v' w', Own w' base v' (xs ++ ys) → w.grownBy w' v.ownBlock → wpList Tryd.prog ops Q rest (a.put o.dst v') w') : wpList Tryd.prog ops Q (o :: rest) a w := by
  obtain ⟨i, hi, he⟩ := Option.map_eq_some_iff.1 info_u64
  simp only [Prod.mk.injEq] at he
  refine wpList_append_own w hgd s x t ho base 22 i (.int .u64 0) 1 8 ht hi he.1 he.2.1 he.2.2 rfl (by decide) v xs.length (nums xs) hs hown.1 ad m c (nums ys) hx (by rw [nums_length, hl, Nat.mul_one]) (fun j u hu => ?_) (fun u hu => ?_) (by unfold maxLen; omega) (by omega) hbase ?_
  · have hj : j < ys.length := by
      have := (List.getElem?_eq_some_iff.1 hu).1
      rwa [nums_length] at this
    rw [nums_get hj] at hu
    rw [hc j hj]; exact hu
  · unfold nums at hu
    obtain ⟨z, _, rfl⟩ := List.mem_map.1 hu
    rfl
  · intro v' w' h2 h3 _
    refine h v' w' ⟨?_, ws_append hown.2 hy⟩ h3
    rw [List.length_append, nums_append, hl]
    exact h2
theorem make64 (t : TypeId) (ht : Tryd.prog.underlying t = some (.slice 22)) (l c : Nat) (l' c' : Int) (hl : l' = l) (hc : c' = c) (hlc : l ≤ c) (hcm : c ≤ 35184372088832) (W : World) :
    (Instr.makeSlice t (.int .i64 l') (.int .i64 c')).run Tryd.prog W = .ok (.slice (some ⟨W.heap.size, 0, none⟩) l c) (W.alloc (.cells (madeCells #[.int .u64 0] c) 22)) := by
  subst hl hc
  have := run_make64 t ht l c (by omega) (by omega) (by omega) W
  rw [Int.toNat_natCast, Int.toNat_natCast] at this
  exact this
theorem built1 (w : World) (t : TypeId) (x : Int) : ∀ j, j < [x].length → (w.alloc (.cells #[.int .u64 x] t)).cell? ((⟨w.heap.size, 0, none⟩ : Addr).add j) = some (.int .u64 (rd [x] j)) := fun j hj => by
  obtain rfl : j = 0 := by simpa using hj
  exact (cs_new w #[.int .u64 x] t).cell 0 rfl
theorem built2 (w : World) (t : TypeId) (x y : Int) : ∀ j, j < [x, y].length → (w.alloc (.cells #[.int .u64 x, .int .u64 y] t)).cell? ((⟨w.heap.size, 0, none⟩ : Addr).add j) = some (.int .u64 (rd [x, y] j)) := fun j hj => by
  have hj : j < 2 := hj
  rcases j with _ | _ | j
  · exact (cs_new w #[.int .u64 x, .int .u64 y] t).cell 0 rfl
  · exact (cs_new w #[.int .u64 x, .int .u64 y] t).cell 1 rfl
  · omega
theorem Own.alloc {w : World} {base : Nat} {v : Value} {xs : List Int} (h : Own w base v xs) (o : Obj) : Own (w.alloc o) base v xs := h.grown0 (gb_alloc (gb_refl w none) o)
end Go.Proofs.YtoiclkaecgpbbaaDoor

/- Appending a row that is read. -/
namespace Go.Proofs.YtoiclkaecgpbbaaDoor
open Go.RowKit

theorem run_append_none_any {P : Program} (w : World) (base : Nat) (t ty e : TypeId) (i : TypeInfo) (size : Nat) (ht : P.underlying t = some (.slice e)) (hi : P.info? e = some i)
    (v : Value) (n : Nat) (xs : List Value) (hown : w.ownsRow base e size v n xs) (c : Nat) :
    (Builtin.append_ #[t, t] ty #[v, .slice none 0 c]).run P w = .ok v w := by
  rcases hown.2 with ⟨rfl, rfl⟩ | ⟨g, cap, cur, rfl, _, _, hnc, _⟩
  · simp [Builtin.append_, run_underlying ht, sizeOf, typeInfo, hi, Builtin.lenOf, Builtin.firstCells]
  · simp [Builtin.append_, run_underlying ht, sizeOf, typeInfo, hi, Builtin.lenOf, Builtin.firstCells, hnc, storeCells]
theorem own_append_sl {w : World} {base : Nat} {ops : Array Oper} {rest : List Oper} {o : Oper} {a : Act} {Q : Exit → Act → World → Prop} (t : TypeId) (ht : Tryd.prog.underlying t = some (.slice 22))
    (s x : Operand) (hgd : o.guard = none) (ho : o.op = .call { callee := .builtin .append, args := #[s, x], argTypes := #[t, t] })
    (v : Value) (xs : List Int) (hs : a.eval s = v) (hown : Own w base v xs)
    (y : Value) (ys : List Int) (hx : a.eval x = y) (hsl : Sl w y ys) (hb : xs.length + ys.length ≤ 1000000000000) (hbase : base ≤ w.heap.size)
    (h : ∀ v' w', Own w' base v' (xs ++ ys) → w.grownBy w' v.ownBlock → wpList Tryd.prog ops Q rest (a.put o.dst v') w') : wpList Tryd.prog ops Q (o :: rest) a w := by
  obtain ⟨A, c, rfl, h1, h2, h3, h4⟩ := hsl
  cases A with
  | none =>
    have hn : ys.length = 0 := by
      by_cases hk : 0 < ys.length
      · obtain ⟨b, o, e, _⟩ := h4 hk
        simp at e
      · omega
    obtain rfl := List.eq_nil_of_length_eq_zero hn
    obtain ⟨i, hi, he⟩ := Option.map_eq_some_iff.1 info_u64
    have hh := h v w (by rw [List.append_nil]; exact hown) (gb_refl _ _)
    refine wpList_plain hgd fun K hK => ?_
    have hrun := run_append_none_any (P := Tryd.prog) w base t o.type 22 i 1 ht hi v xs.length (nums xs) hown.1 c
    have hx' : a.eval x = .slice none 0 c := hx
    unfold Oper.wp
    simp [execOp, ho, resolve, invoke, builtin, hs, hx', hrun, Result.andThen]
    exact hK _ _ hh
  | some ad =>
    refine own_append t ht s x hgd ho v xs hs hown ad ys.length c ys hx rfl h3 (fun j hj => ?_) hb hbase h
    obtain ⟨b, o, e, hc⟩ := h4 (by omega)
    simp only [Option.some.injEq] at e
    rw [e]
    have e2 : (⟨b, o, none⟩ : Addr).add j = ⟨b, o + j, none⟩ := by unfold Addr.add; split <;> simp_all
    rw [e2]
    exact hc j hj
theorem gb_rowC {a b : World} {g : Nat} (h : a.grownBy b (some g)) (j : Nat) (u : Value) : a.grownBy (b.setCell ⟨g, j, none⟩ u) (some g) :=
  gb_trans h ⟨rfl, rfl, rfl, by simp [World.setCell], fun k _ hk => Below.heap_setCell _ _ _ _ (fun e => hk (by rw [e]))⟩
theorem Cs.other {w : World} {g b : Nat} {l : List Value} (h : Cs w g l) (hr : g ≠ b) (j : Nat) (u : Value) : Cs (w.setCell ⟨b, j, none⟩ u) g l :=
  h.grown (gb_rowC (gb_refl w (some b)) j u) (by simpa using hr)
/-- v is the number n as words, none of nothing on top, in memory of the call's own. -/
def Wo (w : World) (base : Nat) (v : Value) (n : Nat) : Prop := ∃ zs, Own w base v zs ∧ Nz zs ∧ val 18446744073709551616 zs = n
theorem Wo.grown0 {w w' : World} {base : Nat} {v : Value} {n : Nat} (h : Wo w base v n) (g : w.grownBy w' none) : Wo w' base v n := by
  obtain ⟨xs, h1, h2⟩ := h; exact ⟨xs, h1.grown0 g, h2⟩
theorem Wo.mono {w : World} {base base' : Nat} {v : Value} {n : Nat} (h : Wo w base v n) (g : base' ≤ base) : Wo w base' v n := by
  obtain ⟨xs, h1, h2⟩ := h; exact ⟨xs, h1.mono g, h2⟩
end Go.Proofs.YtoiclkaecgpbbaaDoor

/- Rows of words: their length, trimmed, copied. -/
namespace Go.Proofs.YtoiclkaecgpbbaaDoor
open Go.RowKit

theorem trimZ_len (xs : List Int) : (trimZ xs).length ≤ xs.length := by
  induction xs with
  | nil => exact Nat.le_refl _
  | cons x xs ih => unfold trimZ; split <;> simp; exact ih
theorem take_trimZ_len (xs : List Int) : xs.take (trimZ xs).length = trimZ xs := by
  induction xs with
  | nil => rfl
  | cons x xs ih =>
    unfold trimZ
    split
    · rfl
    · rw [List.length_cons, List.take_succ_cons, ih]
set_option maxRecDepth 100000 in
theorem nlen_c (w : World) (v : Value) (xs : List Int) (h : Sl w v xs) :
    Calls Tryd.prog 103 #[v] w fun e w' => e = .returned (.int .i64 (trimZ xs).length) ∧ w' = w := by
  obtain ⟨A, c, rfl, h1, h2, h3, h4⟩ := h
  obtain ⟨n, hn⟩ : ∃ n, n = xs.length := ⟨_, rfl⟩
  have hr0 : ∀ j, n ≤ j → rd xs j = 0 := fun j hj => by
    unfold rd; rw [List.getD_eq_getElem?_getD, List.getElem?_eq_none (by omega)]; rfl
  have ht : ∀ k, k ≤ n → (∀ j, k ≤ j → rd xs j = 0) → (k = 0 ∨ rd xs (k - 1) ≠ 0) → k = (trimZ xs).length := fun k hk h0 h1 => by
    rw [← take_trimZ (by omega) h0 h1, List.length_take]; omega
  obtain ⟨T, hT⟩ : ∃ T, T = (trimZ xs).length := ⟨_, rfl⟩
  rw [← hn] at h1 h4 ⊢
  rw [← hT] at ht ⊢
  have HT := Lib.hid ht
  clear hn hT ht
  go_enter Tryd.func103, Tryd.ntmps103
  go_wp2
  go_loopw [3] (fun v3 wr => ∃ k : Nat, v3 = .int .i64 k ∧ k ≤ n ∧ (∀ j, k ≤ j → rd xs j = 0) ∧ wr = w) (fun v3 _ => (intOf v3).toNat)
  case atStart => exact ⟨n, rfl, Nat.le_refl _, hr0, rfl⟩
  case round =>
    clear hr0
    obtain ⟨k, rfl, hk, hz, rfl⟩ := hrel
    have HZ := Lib.hid hz
    clear hz
    by_cases hk0 : k = 0
    · subst hk0
      have ht := HT.out 0 (by omega) HZ.out (Or.inl rfl)
      subst ht
      clear h4 HT
      go_wp2
      go_ret
      exact ⟨rfl, by trivial⟩
    · obtain ⟨j, rfl⟩ : ∃ j, k = j + 1 := ⟨k - 1, by omega⟩
      obtain ⟨b, o, rfl, hc⟩ := h4 (by omega)
      have hci := hc j (by omega)
      clear hc
      by_cases hx : rd xs j = 0
      · rw [hx] at hci
        go_wp2
        go_roundw
        case rel => exact ⟨j, by go_num, by omega, fun i hi => by
          by_cases e : i = j
          · rw [e]; exact hx
          · exact HZ.out i (by omega), by trivial⟩
        case measure => simp [intOf]
      · have ht := HT.out (j + 1) (by omega) HZ.out (Or.inr hx)
        subst ht
        obtain ⟨z, hz⟩ : ∃ z, z = rd xs j := ⟨_, rfl⟩
        rw [← hz] at hci hx
        clear hz HT
        go_wp2
        go_ret
        exact ⟨by simp, by trivial⟩
theorem ltrim_c (w : World) (A : Option Addr) (n c : Nat) (xs : List Int) (h : Sl w (.slice A n c) xs) :
    Calls Tryd.prog 100 #[.slice A n c] w fun e w' => e = .returned (.slice A (trimZ xs).length c) ∧ w' = w := by
  have hn : n = xs.length := by
    obtain ⟨A', c', e, _⟩ := h
    simp only [Value.slice.injEq] at e
    exact e.2.1
  subst hn
  obtain ⟨h1, h2⟩ : xs.length ≤ c ∧ c ≤ 9223372036854775807 := by
    obtain ⟨A', c', e, h1, h2, _⟩ := h
    simp only [Value.slice.injEq] at e
    obtain ⟨_, _, rfl⟩ := e
    exact ⟨h1, h2⟩
  have ht := trimZ_len xs
  have hc := nlen_c w _ xs h
  obtain ⟨T, hT⟩ : ∃ T, T = (trimZ xs).length := ⟨_, rfl⟩
  obtain ⟨n, hn⟩ : ∃ n, n = xs.length := ⟨_, rfl⟩
  rw [← hn, ← hT] at hc
  rw [← hn] at h1 ht ⊢
  rw [← hT] at ht ⊢
  have HC := Lib.hid hc
  clear hn h hT hc
  go_enter Tryd.func100, Tryd.ntmps100
  go_wp2_with fail
  refine (HC.out).mono ?_
  rintro e w' ⟨rfl, rfl⟩
  clear HC
  go_wp2
  go_ret
  exact ⟨rfl, rfl⟩
theorem lnorm_c (w : World) (v : Value) (xs : List Int) (h : Sl w v xs) (hL : xs.length ≤ 100000000) :
    Calls Tryd.prog 89 #[v] w fun e w' => ∃ x, e = .returned x ∧ Own w' w.heap.size x (trimZ xs) ∧ w.grownBy w' none := by
  obtain ⟨A, c, rfl, _, _⟩ := h.form
  have ht := trimZ_len xs
  have hs := h.take (trimZ xs).length (by omega)
  rw [take_trimZ_len] at hs
  have HS := Lib.hid hs
  have H := Lib.hid h
  have hl : (trimZ xs).length ≤ 100000000 := by omega
  have HL := Lib.hid hl
  clear hs h ht hL hl
  go_enter Tryd.func89, Tryd.ntmps89
  go_wp2_with fail
  refine (ltrim_c _ _ _ _ _ H.out).mono ?_
  rintro e w' ⟨rfl, rfl⟩
  go_wp2_with (at_builtin; refine own_append_sl 74 (by kernel_rfl) (.const (.slice none 0 0)) (.tmp 4) rfl rfl _ [] rfl (own_nil _ _) _ (trimZ xs) rfl HS.out (by have := HL.out; show 0 + _ ≤ _; omega) (Nat.le_refl _) ?_; intro v1 w1 ow1 g1)
  go_ret
  exact ⟨v1, rfl, ow1, g1⟩
end Go.Proofs.YtoiclkaecgpbbaaDoor

/- Digits: doubling, comparing, taking away, bit by bit. Plain. -/
namespace Go.Proofs.YtoiclkaecgpbbaaDoor
open Go.RowKit

theorem rd_beyond {xs : List Int} {j : Nat} (hj : xs.length ≤ j) : rd xs j = 0 := by
  unfold rd; rw [List.getD_eq_getElem?_getD, List.getElem?_eq_none hj]; rfl
theorem rd_set_self {xs : List Int} {k : Nat} (hk : k < xs.length) (y : Int) : rd (xs.set k y) k = y := by
  unfold rd; rw [List.getD_eq_getElem?_getD, List.getElem?_set_self hk]; rfl
theorem rd_set_ne {xs : List Int} {k j : Nat} (h : k ≠ j) (y : Int) : rd (xs.set k y) j = rd xs j := by
  unfold rd; rw [List.getD_eq_getElem?_getD, List.getD_eq_getElem?_getD, List.getElem?_set_ne h]
theorem take_set {xs : List Int} {k : Nat} (hk : k < xs.length) (y : Int) : (xs.set k y).take (k + 1) = xs.take k ++ [y] := by
  rw [take_rd (by rw [List.length_set]; exact hk), rd_set_self hk, List.take_set_of_le (Nat.le_refl _)]
theorem drop_set {xs : List Int} (k : Nat) (y : Int) : (xs.set k y).drop (k + 1) = xs.drop (k + 1) := List.drop_set_of_lt (by omega)
theorem rd_drop {xs ys : List Int} {k : Nat} (h : xs.drop k = ys.drop k) : rd xs k = rd ys k := by
  have e : ∀ l : List Int, rd l k = rd (l.drop k) 0 := fun l => by
    unfold rd; rw [List.getD_eq_getElem?_getD, List.getD_eq_getElem?_getD, List.getElem?_drop]; rfl
  rw [e xs, e ys, h]
theorem drop_succ {xs ys : List Int} {k : Nat} (h : xs.drop k = ys.drop k) : xs.drop (k + 1) = ys.drop (k + 1) := by
  rw [← List.drop_drop, ← List.drop_drop, h]
/-- The lowest digits' value, one more, whether there or not. -/
theorem val_take_any (B : Nat) (xs : List Int) (k : Nat) : val B (xs.take (k + 1)) = val B (xs.take k) + B ^ k * (rd xs k).toNat := by
  by_cases hk : k < xs.length
  · exact val_take_succ B hk
  · rw [List.take_of_length_le (by omega), List.take_of_length_le (by omega), rd_beyond (by omega)]; simp
theorem dbl_arith {V W b P q t d e : Nat} (hv : V + P * e = 2 * W + b) (k : q + 4294967296 * t = 2 * d + e) : V + P * q + P * 4294967296 * t = 2 * (W + P * d) + b := by
  have h := congrArg (P * ·) k
  simp only [Nat.mul_add] at h
  rw [Nat.mul_assoc P 4294967296 t, Nat.mul_add 2 W, Nat.mul_left_comm 2 P d]
  omega
theorem ge_arith {V D R P x y e t : Nat} (hv : V + D = R + P * e) (k : x = e + y + t) : V + P * t + (D + P * y) = R + P * x := by
  have h := congrArg (P * ·) k
  simp only [Nat.mul_add] at h
  omega
theorem lt_arith {V D R P x y e t : Nat} (hv : V + D = R + P * e) (k : x + 4294967296 = e + y + t) : V + P * t + (D + P * y) = R + P * x + P * 4294967296 := by
  have h := congrArg (P * ·) k
  simp only [Nat.mul_add] at h
  omega
/-- Doubling, i digits done, c carried. -/
structure Dbl (B : Nat) (rs zs : List Int) (i : Nat) (c b : Int) : Prop where
  c0 : 0 ≤ c
  c1 : c ≤ 1
  len : zs.length = rs.length
  dg : Dg B zs
  rest : zs.drop i = rs.drop i
  v : val B (zs.take i) + B ^ i * c.toNat = 2 * val B (rs.take i) + b.toNat
theorem Dbl.start {B : Nat} {rs : List Int} {b : Int} (h : Dg B rs) (b0 : 0 ≤ b) (b1 : b ≤ 1) : Dbl B rs rs 0 b b :=
  ⟨b0, b1, rfl, h, rfl, by simp [val]⟩
theorem Dbl.step {rs zs : List Int} {i : Nat} {c b : Int} (h : Dbl 4294967296 rs zs i c b) (hi : i < rs.length) :
    Dbl 4294967296 rs (zs.set i ((2 * rd zs i + c) % 4294967296)) (i + 1) ((2 * rd zs i + c) / 4294967296) b := by
  have hz : i < zs.length := by rw [h.len]; exact hi
  have hd := h.dg.at_ (by decide) i
  have c0 := h.c0
  have c1 := h.c1
  have hd1 : rd zs i < 4294967296 := hd.2
  refine ⟨by omega, by omega, by rw [List.length_set, h.len], h.dg.set i (by omega) (by show _ < ((4294967296 : Nat) : Int); omega), by rw [drop_set, drop_succ h.rest], ?_⟩
  rw [take_set hz, val_append, val_one, List.length_take, Nat.min_eq_left (by omega), val_take_any 4294967296 rs i, ← rd_drop h.rest]
  have hv := h.v
  have k3 : ((2 * rd zs i + c) % 4294967296).toNat + 4294967296 * ((2 * rd zs i + c) / 4294967296).toNat = 2 * (rd zs i).toNat + c.toNat := by omega
  rw [Nat.pow_succ]
  exact dbl_arith hv k3
theorem Dbl.last {B : Nat} {rs zs : List Int} {c b : Int} (h : Dbl B rs zs rs.length c b) (hlt : 2 * val B rs + b.toNat < B ^ rs.length) : val B zs = 2 * val B rs + b.toNat := by
  have hv := h.v
  rw [List.take_of_length_le (by rw [h.len]; exact Nat.le_refl _), List.take_of_length_le (Nat.le_refl _)] at hv
  have : c.toNat = 0 := by
    by_cases k : c.toNat = 0
    · exact k
    · have : B ^ rs.length * 1 ≤ B ^ rs.length * c.toNat := Nat.mul_le_mul_left _ (by omega)
      omega
  rw [this] at hv; omega
/-- Taking away, i digits done, c borrowed. -/
structure Bor (B : Nat) (rs ds zs : List Int) (i : Nat) (c : Int) : Prop where
  c0 : 0 ≤ c
  c1 : c ≤ 1
  len : zs.length = rs.length
  dg : Dg B zs
  rest : zs.drop i = rs.drop i
  v : val B (zs.take i) + val B (ds.take i) = val B (rs.take i) + B ^ i * c.toNat
theorem Bor.start {B : Nat} {rs : List Int} (ds : List Int) (h : Dg B rs) : Bor B rs ds rs 0 0 :=
  ⟨by decide, by decide, rfl, h, rfl, by simp [val]⟩
theorem Bor.ge {rs ds zs : List Int} {i : Nat} {c : Int} (h : Bor 4294967296 rs ds zs i c) (hd : Dg 4294967296 ds) (hi : i < rs.length) (hge : c + rd ds i ≤ rd zs i) :
    Bor 4294967296 rs ds (zs.set i (rd zs i - (c + rd ds i))) (i + 1) 0 := by
  have hz : i < zs.length := by rw [h.len]; exact hi
  have h1 := h.dg.at_ (by decide) i
  have h2 := hd.at_ (by decide) i
  have c0 := h.c0
  refine ⟨by decide, by decide, by rw [List.length_set, h.len], h.dg.set i (by omega) (by omega), by rw [drop_set, drop_succ h.rest], ?_⟩
  rw [take_set hz, val_append, val_one, List.length_take, Nat.min_eq_left (by omega), val_take_any 4294967296 rs i, val_take_any 4294967296 ds i, ← rd_drop h.rest]
  have hv := h.v
  have k : (rd zs i).toNat = c.toNat + (rd ds i).toNat + (rd zs i - (c + rd ds i)).toNat := by omega
  have := ge_arith hv k
  rw [show (0 : Int).toNat = 0 from rfl, Nat.mul_zero, Nat.add_zero]
  exact this
theorem Bor.lt {rs ds zs : List Int} {i : Nat} {c : Int} (h : Bor 4294967296 rs ds zs i c) (hd : Dg 4294967296 ds) (hi : i < rs.length) (hlt : rd zs i < c + rd ds i) :
    Bor 4294967296 rs ds (zs.set i (rd zs i + (4294967296 - (c + rd ds i)))) (i + 1) 1 := by
  have hz : i < zs.length := by rw [h.len]; exact hi
  have h1 := h.dg.at_ (by decide) i
  have h2 := hd.at_ (by decide) i
  have c0 := h.c0
  have c1 := h.c1
  have h22 : rd ds i < 4294967296 := h2.2
  refine ⟨by decide, by decide, by rw [List.length_set, h.len], h.dg.set i (by omega) (by show _ < ((4294967296 : Nat) : Int); omega), by rw [drop_set, drop_succ h.rest], ?_⟩
  rw [take_set hz, val_append, val_one, List.length_take, Nat.min_eq_left (by omega), val_take_any 4294967296 rs i, val_take_any 4294967296 ds i, ← rd_drop h.rest]
  have hv := h.v
  have k : (rd zs i).toNat + 4294967296 = c.toNat + (rd ds i).toNat + (rd zs i + (4294967296 - (c + rd ds i))).toNat := by omega
  have := lt_arith hv k
  rw [show (1 : Int).toNat = 1 from rfl, Nat.mul_one, Nat.pow_succ]
  exact this
theorem Bor.last {B : Nat} {rs ds zs : List Int} {c : Int} (h : Bor B rs ds zs rs.length c) (hdl : ds.length ≤ rs.length) (hle : val B ds ≤ val B rs) : val B zs = val B rs - val B ds := by
  have hv := h.v
  rw [List.take_of_length_le (by rw [h.len]; exact Nat.le_refl _), List.take_of_length_le (Nat.le_refl _), List.take_of_length_le hdl] at hv
  have hz := val_lt h.dg
  rw [h.len] at hz
  have : c.toNat = 0 := by
    by_cases k : c.toNat = 0
    · exact k
    · have : B ^ rs.length * 1 ≤ B ^ rs.length * c.toNat := Nat.mul_le_mul_left _ (by omega)
      omega
  rw [this] at hv; omega
/-- A binary digit. -/
theorem val_bit {xs : List Int} (h : Dg 4294967296 xs) (q t : Nat) (hq : q < xs.length) (ht : t < 32) : val 4294967296 xs / 2 ^ (32 * q + t) % 2 = (rd xs q).toNat / 2 ^ t % 2 := by
  have h1 := val_lt (h.take q)
  rw [List.length_take, Nat.min_eq_left (by omega)] at h1
  have hB : (4294967296 : Nat) ^ q = 2 ^ (32 * q) := by rw [show (4294967296 : Nat) = 2 ^ 32 from rfl, ← Nat.pow_mul]
  rw [val_take_drop 4294967296 xs q (by omega), val_drop 4294967296 hq, Nat.pow_add, ← Nat.div_div_eq_div_mul, ← hB, Nat.add_mul_div_left _ _ (Nat.pow_pos (by decide)), Nat.div_eq_of_lt h1, Nat.zero_add]
  obtain ⟨s, hs⟩ : ∃ s, 32 = t + (s + 1) := ⟨31 - t, by omega⟩
  have e : 4294967296 * val 4294967296 (xs.drop (q + 1)) = 2 ^ t * (2 * (2 ^ s * val 4294967296 (xs.drop (q + 1)))) := by
    rw [show (4294967296 : Nat) = 2 ^ 32 from rfl, hs, Nat.pow_add, Nat.pow_succ]; grind
  rw [e, Nat.add_mul_div_left _ _ (Nat.pow_pos (by decide)), Nat.add_mul_mod_self_left]
/-- The next binary digit down. -/
theorem div_bit (m i : Nat) : m / 2 ^ i = 2 * (m / 2 ^ (i + 1)) + m / 2 ^ i % 2 := by
  rw [Nat.pow_succ, ← Nat.div_div_eq_div_mul]; omega
/-- One step of the division by binary digits. -/
theorem div_step (x n b : Nat) (hn : 0 < n) (hb : b ≤ 1) : (2 * x + b) / n = 2 * (x / n) + (if n ≤ 2 * (x % n) + b then 1 else 0) ∧ (2 * x + b) % n = 2 * (x % n) + b - (if n ≤ 2 * (x % n) + b then n else 0) := by
  have h1 := Nat.div_add_mod x n
  have h2 := Nat.mod_lt x hn
  generalize x / n = q at *
  generalize x % n = r at *
  split
  · have e : 2 * x + b = (2 * r + b - n) + n * (2 * q + 1) := by grind
    rw [e, Nat.add_mul_div_left _ _ hn, Nat.add_mul_mod_self_left, Nat.div_eq_of_lt (by omega), Nat.mod_eq_of_lt (by omega)]
    omega
  · have e : 2 * x + b = (2 * r + b) + n * (2 * q) := by grind
    rw [e, Nat.add_mul_div_left _ _ hn, Nat.add_mul_mod_self_left, Nat.div_eq_of_lt (by omega), Nat.mod_eq_of_lt (by omega)]
    omega
theorem rd_pad (xs : List Int) (k j : Nat) : rd (xs ++ List.replicate k 0) j = rd xs j := by
  unfold rd
  rw [List.getD_eq_getElem?_getD, List.getD_eq_getElem?_getD]
  by_cases h : j < xs.length
  · rw [List.getElem?_append_left h]
  · rw [List.getElem?_append_right (by omega), List.getElem?_eq_none (show xs.length ≤ j by omega), List.getElem?_replicate]
    split <;> rfl
theorem val_pad (B : Nat) (xs : List Int) (k : Nat) : val B (xs ++ List.replicate k 0) = val B xs := by rw [val_append, val_replicate]; omega
theorem cmp_any {xs ys : List Int} (hx : Dg 4294967296 xs) (hy : Dg 4294967296 ys) {i : Nat} (he : ∀ j, i < j → rd xs j = rd ys j) (hlt : rd xs i < rd ys i) : val 4294967296 xs < val 4294967296 ys := by
  have h := cmp_top (B := 4294967296) (by decide) (xs := xs ++ List.replicate (ys.length + i + 1) 0) (ys := ys ++ List.replicate (xs.length + i + 1) 0)
    (hx.append (Dg.replicate (by decide) _)) (hy.append (Dg.replicate (by decide) _)) (by simp; omega) (i := i) (by simp; omega)
    (fun j hj => by rw [rd_pad, rd_pad]; exact he j hj) (by rw [rd_pad, rd_pad]; exact hlt)
  rwa [val_pad, val_pad] at h
theorem val_any {B : Nat} {xs ys : List Int} (he : ∀ j, 0 ≤ j → rd xs j = rd ys j) : val B xs = val B ys := by
  have h : xs ++ List.replicate ys.length 0 = ys ++ List.replicate xs.length 0 := by
    apply List.ext_getElem (by simp; omega)
    intro j h1 h2
    have := he j (by omega)
    rw [← rd_pad xs ys.length, ← rd_pad ys xs.length] at this
    unfold rd at this
    rw [List.getD_eq_getElem?_getD, List.getD_eq_getElem?_getD, List.getElem?_eq_getElem h1, List.getElem?_eq_getElem h2] at this
    exact this
  have := congrArg (val B) h
  rwa [val_pad, val_pad] at this
end Go.Proofs.YtoiclkaecgpbbaaDoor

/- Digits: sums of three words each, carried. Plain. -/
namespace Go.Proofs.YtoiclkaecgpbbaaDoor
open Go.RowKit

def W64 : Nat := 18446744073709551616
def sumT (t : Nat → Nat) : Nat → Nat
  | 0 => 0
  | i + 1 => sumT t i + 18446744073709551616 ^ i * t i
def horT (t : Nat → Nat) : Nat → Nat → Nat
  | 0, _ => 0
  | k + 1, i => t i + 18446744073709551616 * horT t k (i + 1)
theorem sumT_hor (t : Nat → Nat) : ∀ k i, sumT t (i + k) = sumT t i + 18446744073709551616 ^ i * horT t k i
  | 0, i => by simp [horT]
  | k + 1, i => by
    have h := sumT_hor t k (i + 1)
    rw [show i + (k + 1) = i + 1 + k by omega, h, sumT, horT, Nat.mul_add, Nat.pow_succ, Nat.mul_assoc, Nat.add_assoc]
theorem sumT_lt {t : Nat → Nat} (ht : ∀ i, t i < 18446744073709551616 ^ 3) : ∀ i, sumT t i < 2 * 18446744073709551616 ^ (i + 2)
  | 0 => by rw [sumT]; decide
  | i + 1 => by
    have h := sumT_lt ht i
    have h1 : 18446744073709551616 ^ i * t i < 18446744073709551616 ^ i * 18446744073709551616 ^ 3 := Nat.mul_lt_mul_of_pos_left (ht i) (Nat.pow_pos (by decide))
    rw [sumT]
    rw [← Nat.pow_add] at h1
    have e1 : (18446744073709551616 : Nat) ^ (i + 2 + 1) = 18446744073709551616 ^ (i + 2) * 18446744073709551616 := Nat.pow_succ ..
    rw [show i + 3 = i + 2 + 1 by omega] at h1
    rw [show i + 1 + 2 = i + 2 + 1 by omega]
    omega
/-- The i-th three words' value in a flat row. -/
def t3 (xs : List Int) (i : Nat) : Nat := val 18446744073709551616 [rd xs (3 * i), rd xs (3 * i + 1), rd xs (3 * i + 2)]
def ts3 (xs : List Int) (i : Nat) : List Int := [rd xs (3 * i), rd xs (3 * i + 1), rd xs (3 * i + 2)]
theorem ts3_ws {xs : List Int} (h : Ws xs) (i : Nat) : Ws (ts3 xs i) := fun y hy => by
  unfold ts3 at hy
  simp only [List.mem_cons, List.not_mem_nil, or_false] at hy
  rcases hy with rfl | rfl | rfl <;> exact rd_w h _
theorem t3_lt {xs : List Int} (h : Ws xs) (i : Nat) : t3 xs i < 18446744073709551616 ^ 3 := val_lt (ts3_ws h i).dg
structure CaO (xs : List Int) (n i : Nat) (os : List Int) : Prop where
  len : os.length = n + 4
  ws : Ws os
  v : val 18446744073709551616 os = sumT (t3 xs) i
structure CaI (xs : List Int) (n i j : Nat) (c : Int) (os : List Int) : Prop where
  c0 : 0 ≤ c
  c1 : c ≤ 1
  len : os.length = n + 4
  ws : Ws os
  v : val 18446744073709551616 os + 18446744073709551616 ^ (i + j) * c.toNat = sumT (t3 xs) i + 18446744073709551616 ^ i * val 18446744073709551616 ((ts3 xs i).take j)
theorem CaO.start (xs : List Int) (n : Nat) : CaO xs n 0 (List.replicate (n + 4) 0) :=
  ⟨List.length_replicate, ws_replicate _, by rw [val_replicate]; rfl⟩
theorem CaO.inner {xs os : List Int} {n i : Nat} (h : CaO xs n i os) : CaI xs n i 0 0 os :=
  ⟨by decide, by decide, h.len, h.ws, by rw [h.v]; simp [val]⟩
theorem ca_arith {V V' P q t o c x W Y : Nat} (hs : V' + P * o = V + P * q) (hv : V + P * c = W + Y) (k : q + 18446744073709551616 * t = o + x + c) : V' + P * 18446744073709551616 * t = W + (Y + P * x) := by
  have h := congrArg (P * ·) k
  simp only [Nat.mul_add] at h
  rw [Nat.mul_assoc P 18446744073709551616 t]
  omega
/-- A carry beyond the third word: it is the fourth's, at most. -/
theorem CaI.top {xs os : List Int} {n i j : Nat} {c : Int} (h : CaI xs n i j c os) (hx : Ws xs) (hc : 0 < c) : j < 4 := by
  have h1 := sumT_lt (t3_lt hx) i
  have h2 : val 18446744073709551616 ((ts3 xs i).take j) < 18446744073709551616 ^ 3 := by
    have := val_lt (B := 18446744073709551616) ((ts3_ws hx i).dg.take j)
    refine Nat.lt_of_lt_of_le this (Nat.pow_le_pow_right (by decide) ?_)
    rw [List.length_take]
    exact Nat.min_le_right _ _
  have h3 : 18446744073709551616 ^ i * val 18446744073709551616 ((ts3 xs i).take j) < 18446744073709551616 ^ i * 18446744073709551616 ^ 3 := Nat.mul_lt_mul_of_pos_left h2 (Nat.pow_pos (by decide))
  rw [← Nat.pow_add] at h3
  have hv := h.v
  have c1 := h.c1
  have e : c.toNat = 1 := by omega
  rw [e, Nat.mul_one] at hv
  by_cases k : j < 4
  · exact k
  · have h4 : (18446744073709551616 : Nat) ^ (i + 2 + 1 + 1) ≤ 18446744073709551616 ^ (i + j) := Nat.pow_le_pow_right (by decide) (by omega)
    have e1 : (18446744073709551616 : Nat) ^ (i + 2 + 1) = 18446744073709551616 ^ (i + 2) * 18446744073709551616 := Nat.pow_succ ..
    have e2 : (18446744073709551616 : Nat) ^ (i + 2 + 1 + 1) = 18446744073709551616 ^ (i + 2 + 1) * 18446744073709551616 := Nat.pow_succ ..
    rw [show i + 3 = i + 2 + 1 by omega] at h3
    omega
theorem CaI.step {xs os : List Int} {n i j : Nat} {c x s : Int} (h : CaI xs n i j c os) (hx : Ws xs) (hi : i < n) (hj : j < 4) (hxx : x = rd (ts3 xs i) j)
    (hs : s = rd os (i + j) + x + c) : CaI xs n i (j + 1) (s / 18446744073709551616) (os.set (i + j) (s % 18446744073709551616)) := by
  have x0 := rd_w (ts3_ws hx i) j
  rw [← hxx] at x0
  have o0 := rd_w h.ws (i + j)
  have c0 := h.c0
  have c1 := h.c1
  have hk : i + j < os.length := by rw [h.len]; omega
  refine ⟨by omega, by omega, by rw [List.length_set, h.len], ws_set h.ws _ (by omega) (by omega), ?_⟩
  have hv := val_set 18446744073709551616 hk (s % 18446744073709551616)
  have e := val_take_any 18446744073709551616 (ts3 xs i) j
  rw [e, ← hxx, Nat.mul_add, show i + (j + 1) = i + j + 1 by omega, Nat.pow_succ]
  have e2 : 18446744073709551616 ^ i * (18446744073709551616 ^ j * x.toNat) = 18446744073709551616 ^ (i + j) * x.toNat := by rw [Nat.pow_add, Nat.mul_assoc]
  rw [e2]
  exact ca_arith hv h.v (by omega)
theorem CaI.last {xs os : List Int} {n i j : Nat} (h : CaI xs n i j 0 os) (hj : 3 ≤ j) : CaO xs n (i + 1) os := by
  refine ⟨h.len, h.ws, ?_⟩
  have hv := h.v
  rw [List.take_of_length_le (by exact hj)] at hv
  have : (0 : Int).toNat = 0 := rfl
  rw [this, Nat.mul_zero, Nat.add_zero] at hv
  rw [hv]; rfl
end Go.Proofs.YtoiclkaecgpbbaaDoor

/- Sums of three words each: carried. -/
namespace Go.Proofs.YtoiclkaecgpbbaaDoor
open Go.RowKit

set_option maxRecDepth 100000 in
set_option maxHeartbeats 4000000 in
theorem carry_c (w : World) (v : Value) (xs : List Int) (n : Nat) (h : Cells w v n 3 (fun j => .int .u64 (rd xs j))) (hx : Ws xs) (hn : n ≤ 10000000) :
    Calls Tryd.prog 68 #[v] w fun e w' => ∃ x, e = .returned x ∧ Wo w' w.heap.size x (sumT (t3 xs) n) ∧ w.grownBy w' none := by
  obtain ⟨A, c, rfl, h1, h2, h4⟩ := h
  have o0 := CaO.start xs n
  have own0 := own_made w w.heap.size (n + 4) (n + 4) (Nat.le_refl _) (by omega) (by omega)
  have mk := make64 74 (by kernel_rfl) (n + 4) (n + 4) ((n : Int) + 4) ((n : Int) + 4) (by omega) (by omega) (by omega) (by omega)
  have O0 := Lib.hid o0
  have OW0 := Lib.hid own0
  have HX := Lib.hid hx
  clear o0 own0 hx
  go_enter Tryd.func68, Tryd.ntmps68
  go_wp2
  clear mk
  go_loopw [15] (fun v15 wr => ∃ (i : Nat) (os : List Int), v15 = .int .i64 i ∧ i ≤ n ∧ CaO xs n i os ∧ Own wr w.heap.size (.slice (some ⟨w.heap.size, 0, none⟩) (n + 4) (n + 4)) os ∧ w.grownBy wr none) (fun v15 _ => n - (intOf v15).toNat)
  case atStart => exact ⟨0, _, rfl, by omega, O0.out, OW0.out, gb_alloc (gb_refl w none) _⟩
  case round =>
    clear O0 OW0
    obtain ⟨i, os, rfl, hi, M0, ow, G⟩ := hrel
    have MM := Lib.hid M0
    have OW := Lib.hid ow
    have GG := Lib.hid G
    clear M0 ow
    obtain ⟨wo, rfl⟩ : ∃ wo : World, wo = wr := ⟨_, rfl⟩
    by_cases hia : i < n
    · obtain ⟨ba, oa, rfl, hca⟩ := h4 (by omega)
      have d0 : wo.cell? ⟨ba, oa + i * 3, none⟩ = some (.int .u64 (rd xs (3 * i))) := by
        rw [Nat.mul_comm]; exact gb_cell0 G (hca (3 * i) (by omega))
      have d1 : wo.cell? ⟨ba, oa + i * 3 + 1, none⟩ = some (.int .u64 (rd xs (3 * i + 1))) := by
        rw [Nat.mul_comm i]; exact gb_cell0 G (hca (3 * i + 1) (by omega))
      have d2 : wo.cell? ⟨ba, oa + i * 3 + 2, none⟩ = some (.int .u64 (rd xs (3 * i + 2))) := by
        rw [Nat.mul_comm i]; exact gb_cell0 G (hca (3 * i + 2) (by omega))
      obtain ⟨x0, hx0⟩ : ∃ x, x = rd xs (3 * i) := ⟨_, rfl⟩
      obtain ⟨x1, hx1⟩ : ∃ x, x = rd xs (3 * i + 1) := ⟨_, rfl⟩
      obtain ⟨x2, hx2⟩ : ∃ x, x = rd xs (3 * i + 2) := ⟨_, rfl⟩
      rw [← hx0] at d0
      rw [← hx1] at d1
      rw [← hx2] at d2
      have HX0 := Lib.hid hx0
      have HX1 := Lib.hid hx1
      have HX2 := Lib.hid hx2
      clear hx0 hx1 hx2
      clear G hca h4
      have hbs := OW.out.base_le.2
      have c0 : Cs (wo.alloc (Obj.cells #[.int .u64 x0, .int .u64 x1, .int .u64 x2] 34)) wo.heap.size (nums (ts3 xs i)) := by
        have := cs_new wo #[.int .u64 x0, .int .u64 x1, .int .u64 x2] 34
        unfold ts3
        rw [← HX0.out, ← HX1.out, ← HX2.out]
        exact this
      have C0 := Lib.hid c0
      clear c0
      go_wp2
      go_loopw [6, 7] (fun v6 v7 wq => ∃ (j : Nat) (c : Int) (os : List Int), v6 = .int .u64 c ∧ v7 = .int .i64 j ∧ j ≤ 4 ∧ CaI xs n i j c os ∧ Own wq w.heap.size (.slice (some ⟨w.heap.size, 0, none⟩) (n + 4) (n + 4)) os ∧ Cs wq wo.heap.size (nums (ts3 xs i)) ∧ w.grownBy wq none) (fun _ v7 _ => 5 - (intOf v7).toNat)
      case atStart => exact ⟨0, 0, os, rfl, rfl, by omega, MM.out.inner, OW.out.alloc _, C0.out, gb_alloc GG.out _⟩
      case round =>
        clear C0 MM OW GG d0 d1 d2
        obtain ⟨j, c, os, rfl, rfl, hj, M0, ow, cs, G⟩ := hrel
        have c0 := M0.c0
        have c1 := M0.c1
        have hol := M0.len
        have ows := M0.ws
        have MM := Lib.hid M0
        have OW := Lib.hid ow
        have GG := Lib.hid G
        have CS := Lib.hid cs
        have HOL := Lib.hid hol
        have tp := M0.top HX.out
        have TP := Lib.hid tp
        clear M0 ow hol G cs tp
        obtain ⟨q, hq⟩ : ∃ q, q = i + j := ⟨_, rfl⟩
        have eij : (i : Int) + (j : Int) = (q : Int) := by omega
        have ci3 := fun hqn : q < n + 4 => OW.out.cell q (by rw [HOL.out]; exact hqn)
        have fi3 := OW.out.free q
        have oo := rd_w ows q
        have xw := rd_w (ts3_ws HX.out i) j
        have st := fun hj4 : j < 4 => MM.out.step HX.out hia hj4 rfl rfl
        have xc := fun hj3 : j < 3 => CS.out.cell j (nums_get (xs := ts3 xs i) (j := j) hj3)
        have xz := fun hj3 : ¬ j < 3 => rd_beyond (xs := ts3 xs i) (j := j) (by show 3 ≤ j; omega)
        rw [← hq] at st
        obtain ⟨x, hx⟩ : ∃ x, x = rd (ts3 xs i) j := ⟨_, rfl⟩
        obtain ⟨o, ho⟩ : ∃ o, o = rd os q := ⟨_, rfl⟩
        rw [← hx] at st xw xc xz
        rw [← ho] at st ci3 oo
        have o0 := oo.1
        have o1 := oo.2
        have x0 := xw.1
        have x1 := xw.2
        have a1 : ∀ w, (callFunc 88 #[.int .u64 o, .int .u64 x, .int .u64 c]).run Tryd.prog w = .ok (.value (.tuple #[.int .u64 ((o + x + c) % 18446744073709551616), .int .u64 ((o + x + c) / 18446744073709551616)])) w := fun w => add64_run o x c o0 x0 c0 c1 w
        have HQ := Lib.hid hq
        have ST := Lib.hid st
        clear hx ho st xw oo ows hq
        by_cases hj3 : j < 3
        · have xc := xc hj3
          have hqn : q < n + 4 := by have := HQ.out; omega
          have ci3 := ci3 hqn
          clear xz
          have st := ST.out (by omega)
          have S1 := Lib.hid st
          have hne : wo.heap.size ≠ w.heap.size := by omega
          have HNE := Lib.hid hne
          clear st ST TP hne
          go_wp2
          go_roundw
          case rel => exact ⟨j + 1, (o + x + c) / 18446744073709551616, os.set q ((o + x + c) % 18446744073709551616), rfl, by go_num, by omega, S1.out, OW.out.store q (by omega) (by omega), CS.out.other HNE.out _ _, gb_set GG.out (Nat.le_refl _) _⟩
          case measure => simp [intOf]; omega
        · have hx0 := xz hj3
          subst hx0
          clear xz xc
          by_cases hc : 0 < c
          · have hj4 := TP.out hc
            have hqn : q < n + 4 := by have := HQ.out; omega
            have ci3 := ci3 hqn
            have st := ST.out (by omega)
            rw [Int.add_zero] at st
            have S1 := Lib.hid st
            have hne : wo.heap.size ≠ w.heap.size := by omega
            have HNE := Lib.hid hne
            clear st ST TP hne
            go_wp2
            go_roundw
            case rel => exact ⟨j + 1, (o + c) / 18446744073709551616, os.set q ((o + c) % 18446744073709551616), rfl, by go_num, by omega, S1.out, OW.out.store q (by omega) (by omega), CS.out.other HNE.out _ _, gb_set GG.out (Nat.le_refl _) _⟩
            case measure => simp [intOf]; omega
          · obtain rfl : c = 0 := by omega
            have l := MM.out.last (by omega)
            have L1 := Lib.hid l
            clear l ST TP ci3 fi3 a1
            go_wp2
            go_roundw
            case rel => exact ⟨i + 1, os, by go_num, by omega, L1.out, OW.out, GG.out⟩
            case measure => simp [intOf]; omega
    · obtain rfl : i = n := by omega
      have hv := MM.out.v
      have hol := MM.out.len
      have HV := Lib.hid hv
      have HOL := Lib.hid hol
      clear hv hol h4 MM G
      go_wp2_with fail
      refine (lnorm_c _ _ os OW.out.sl (by rw [HOL.out]; omega)).mono ?_
      rintro e w' ⟨x, rfl, hx, g⟩
      go_wp2
      go_ret
      exact ⟨x, rfl, ⟨_, hx.mono GG.out.size, nz_trimZ _, by rw [val_trimZ]; exact HV.out⟩, gb_trans GG.out g⟩
end Go.Proofs.YtoiclkaecgpbbaaDoor
