/- The modulus made. -/
import Derived.Test.YtoiclkaecgpbbaaDoorModw6
import Derived.Test.YtoiclkaecgpbbaaDoorCs
import Derived.Laws.Unary
namespace Go.Proofs.YtoiclkaecgpbbaaDoor
open Go.RowKit

/-- The digits that are right after k of Newton's steps. -/
def nwE (k : Nat) : Nat := if k ≤ 4 then 3 * 2 ^ k else 64
theorem nwE_le (k : Nat) (hk : k < 6) : nwE (k + 1) ≤ 2 * nwE k ∧ nwE (k + 1) ≤ 64 := by
  have : ∀ k : Fin 6, nwE (k + 1) ≤ 2 * nwE k ∧ nwE (k + 1) ≤ 64 := by decide
  exact this ⟨k, hk⟩
theorem ipow_dvd {a b : Nat} (h : a ≤ b) : (2 : Int) ^ a ∣ 2 ^ b := ⟨2 ^ (b - a), by rw [← Int.pow_add]; congr 1; omega⟩
theorem newton_step (p v z : Int) (k : Nat) (hk : k < 6) (h : (p * v - 1) % 2 ^ nwE k = 0) (hz : (z - v * (2 - p * v)) % 18446744073709551616 = 0) : (p * z - 1) % 2 ^ nwE (k + 1) = 0 := by
  obtain ⟨c, hc⟩ := Int.dvd_of_emod_eq_zero h
  obtain ⟨d, hd⟩ := Int.dvd_of_emod_eq_zero hz
  obtain ⟨h1, h2⟩ := nwE_le k hk
  apply Int.emod_eq_zero_of_dvd
  have e : p * z - 1 = 2 ^ nwE k * 2 ^ nwE k * (-(c * c)) + 18446744073709551616 * (p * d) := by grind
  rw [e, ← Int.pow_add]
  refine Int.dvd_add (Int.dvd_trans (ipow_dvd (by omega)) (Int.dvd_mul_right _ _)) (Int.dvd_trans ?_ (Int.dvd_mul_right _ _))
  exact Int.dvd_trans (ipow_dvd h2) ⟨1, by decide⟩
theorem wrap_newton (p v : Int) : (IntKind.u64.wrap (v * IntKind.u64.wrap (2 - IntKind.u64.wrap (p * v))) - v * (2 - p * v)) % 18446744073709551616 = 0 := by
  rw [IntKind.wrap_u64, IntKind.wrap_u64, IntKind.wrap_u64]
  have h : Cg 18446744073709551616 (v * ((2 - p * v % 18446744073709551616) % 18446744073709551616) % 18446744073709551616) (v * (2 - p * v)) :=
    (Cg.mod _ _).trans (((Cg.mod _ _).trans ((Cg.refl _ 2).sub (Cg.mod _ _))).mull v)
  exact Int.emod_eq_emod_iff_emod_sub_eq_zero.1 h
theorem newton_start (p : Int) (h : p % 2 = 1) : (p * p - 1) % 2 ^ nwE 0 = 0 := by
  show (p * p - 1) % 8 = 0
  obtain ⟨m, rfl⟩ : ∃ m, p = 2 * m + 1 := ⟨p / 2, by omega⟩
  have e : (2 * m + 1) * (2 * m + 1) - 1 = 4 * (m * (m + 1)) := by grind
  have e2 : m * (m + 1) % 2 = 0 := by
    rcases Int.emod_two_eq m with hm | hm
    · rw [Int.mul_emod, hm]; simp
    · rw [Int.mul_emod]; have : (m + 1) % 2 = 0 := by omega
      rw [this]; simp
  omega
theorem newton_neg (p v : Int) (h : (p * v - 1) % 2 ^ nwE 6 = 0) : (p * IntKind.u64.wrap (-v) + 1) % 18446744073709551616 = 0 := by
  have h : (p * v - 1) % 18446744073709551616 = 0 := h
  rw [IntKind.wrap_u64]
  obtain ⟨c, hc⟩ := Int.dvd_of_emod_eq_zero h
  have e : p * (-v % 18446744073709551616) + 1 = 18446744073709551616 * (-c - p * (-v / 18446744073709551616)) := by
    have := Int.emod_add_mul_ediv (-v) 18446744073709551616
    grind
  rw [e]; exact Int.mul_emod_right ..
/-- What New answers. -/
def NewRet (w : World) (p : Int) (e : Ending) (w' : World) : Prop :=
  (Pm p → ∃ g, e = .returned (.tuple #[.pointer (some ⟨g, 0, none⟩), .int .i64 0]) ∧ Md w' g p ∧ w.heap.size ≤ g) ∧
  (¬ Pm p → e = .returned (.tuple #[.pointer none, .int .i64 3]))
set_option maxRecDepth 100000 in
theorem modNew_ok (w : World) (p : Int) (h : Pm p) :
    Calls Tryd.prog 57 #[.int .u64 p] w fun e w' => ∃ g, e = .returned (.tuple #[.pointer (some ⟨g, 0, none⟩), .int .i64 0]) ∧ Md w' g p ∧ w.heap.size ≤ g ∧ w.grownBy w' none := by
  have h0 := h.lo
  have h1 := h.hi
  have h2 := h.odd
  have hs := newton_start p h2
  have HS := Lib.hid hs
  have o0 := Int.emod_nonneg 18446744073709551616 (show p ≠ 0 by omega)
  have o1 := Int.emod_lt_of_pos 18446744073709551616 (show 0 < p by omega)
  clear hs
  go_enter Tryd.func57, Tryd.ntmps57
  go_wp2
  go_loopw [4, 18] (fun v4 v18 wr => ∃ (k : Nat) (v : Int), v4 = .int .u64 v ∧ v18 = .int .i64 k ∧ k ≤ 6 ∧ (p * v - 1) % 2 ^ nwE k = 0 ∧ wr = w) (fun _ v18 _ => 6 - (intOf v18).toNat)
  case atStart => exact ⟨0, p, rfl, rfl, by omega, HS.out, rfl⟩
  case round =>
    clear HS
    obtain ⟨k, v, rfl, rfl, hk, hv, rfl⟩ := hrel
    have HV := Lib.hid hv
    clear hv
    by_cases hlt : k < 6
    · go_wp2
      go_roundw
      case rel => exact ⟨k + 1, _, rfl, by go_num, by omega, newton_step p v _ k hlt HV.out (wrap_newton p v), by trivial⟩
      case measure => simp [intOf]; omega
    · obtain rfl : k = 6 := by omega
      have hn := newton_neg p v HV.out
      obtain ⟨n, hN⟩ : ∃ n, n = IntKind.u64.wrap (-v) := ⟨_, rfl⟩
      rw [← hN] at hn
      have n0 : 0 ≤ n ∧ n < 18446744073709551616 := by rw [hN, IntKind.wrap_u64]; omega
      have HN := Lib.hid hn
      have HN0 := Lib.hid n0
      clear hn n0 hlt
      replace hN := hN.symm
      go_wp2_with fail
      refine (div64_c 1 0 p (by decide) (by decide) (by decide) (by omega) (by omega) _).mono ?_
      rintro e w1 ⟨rfl, g1⟩
      have dz : ((1 : Int) * 18446744073709551616 + 0) = 18446744073709551616 := by decide
      rw [dz]
      have C := (cs_new wr #[.int .u64 p, .int .u64 n, .int .u64 0, .int .u64 0] 87).grown0 g1
      have GB := gb_trans (gb_alloc (gb_refl wr none) (.cells #[.int .u64 p, .int .u64 n, .int .u64 0, .int .u64 0] 87)) g1
      clear g1
      obtain ⟨g, hg⟩ : ∃ g, g = wr.heap.size := ⟨_, rfl⟩
      rw [← hg] at C ⊢
      have hgl : wr.heap.size ≤ g := by omega
      clear hg
      have c2 := C.cell 2 rfl
      have f2 := C.free 2 rfl
      obtain ⟨o, ho⟩ : ∃ o, o = 18446744073709551616 % p := ⟨_, rfl⟩
      rw [← ho] at o0 o1 ⊢
      have HO := Lib.hid ho
      clear ho
      go_wp2
      have C2 : Cs _ g [.int .u64 p, .int .u64 n, .int .u64 o, .int .u64 0] := C.set 2 (.int .u64 o)
      have GB2 := gb_set (p := ⟨g, 2, none⟩) GB hgl (.int .u64 o)
      obtain ⟨w2, hw2⟩ : ∃ w2, w2 = w1.setCell ⟨g, 2, none⟩ (.int .u64 o) := ⟨_, rfl⟩
      rw [← hw2] at C2 GB2 ⊢
      clear c2 f2 C GB hw2
      have c2 := C2.cell 2 rfl
      refine Canon.region_canon (by kernel_rfl) (by kernel_rfl) ?_
      go_wp2_with fail
      refine (mmul_core w2.drew g p o o h (C2.cell 0 rfl) o0 o1 o0 (by omega)).mono ?_
      rintro e w3 ⟨rfl, g3⟩
      have GB3 := gb_trans (gb_drew GB2) g3
      have C3 := (Cs.drew C2).grown0 g3
      have c3 := C3.cell 3 rfl
      have f3 := C3.free 3 rfl
      obtain ⟨t, ht⟩ : ∃ t, t = o * o % p := ⟨_, rfl⟩
      rw [← ht]
      have HT := Lib.hid ht
      clear g3 C2 GB2 c2 ht
      go_wp2
      refine ⟨by kernel_rfl, ?_⟩
      go_wp2
      have C4 : Cs _ g [.int .u64 p, .int .u64 n, .int .u64 o, .int .u64 t] := C3.set 3 (.int .u64 t)
      have GB4 := gb_set (p := ⟨g, 3, none⟩) GB3 hgl (.int .u64 t)
      go_ret2
      have et : t = 18446744073709551616 * 18446744073709551616 % p := by rw [HT.out, HO.out, ← Int.mul_emod]
      exact ⟨g, rfl, ⟨h, C4.cell 0 rfl, ⟨n, C4.cell 1 rfl, HN0.out.1, HN0.out.2, HN.out⟩, by rw [← HO.out]; exact C4.cell 2 rfl, by rw [← et]; exact C4.cell 3 rfl⟩, hgl, GB4⟩
theorem modNew_no (w : World) (p : Int) (_p0 : 0 ≤ p) (h : ¬ Pm p) :
    Calls Tryd.prog 57 #[.int .u64 p] w fun e w' => e = .returned (.tuple #[.pointer none, .int .i64 3]) ∧ w.grownBy w' none := by
  by_cases h1 : p < 3
  · clear h
    go_enter Tryd.func57, Tryd.ntmps57
    go_wp2
    go_ret2
    exact ⟨rfl, gb_refl _ _⟩
  · by_cases h2 : 4611686018427387904 ≤ p
    · clear h
      by_cases h3 : p % 2 = 0
      · go_enter Tryd.func57, Tryd.ntmps57
        go_wp2
        go_ret2
        exact ⟨rfl, gb_refl _ _⟩
      · go_enter Tryd.func57, Tryd.ntmps57
        go_wp2
        go_ret2
        exact ⟨rfl, gb_refl _ _⟩
    · have h3 : p % 2 = 0 := by
        by_cases k : p % 2 = 0
        · exact k
        · exact absurd ⟨by omega, by omega, by omega⟩ h
      clear h
      go_enter Tryd.func57, Tryd.ntmps57
      go_wp2
      go_ret2
      exact ⟨rfl, gb_refl _ _⟩
theorem may_c (w : World) (p : Int) (p0 : 0 ≤ p) :
    Calls Tryd.prog 18 #[.int .u64 p] w fun e w' => (Pm p → e = .returned (.bool true)) ∧ (¬ Pm p → e = .returned (.bool false)) ∧ w' = w := by
  by_cases h : Pm p
  · have h0 := h.lo
    have h1 := h.hi
    have h2 := h.odd
    have H := Lib.hid h
    clear h
    go_enter Tryd.func18, Tryd.ntmps18
    go_wp2
    go_ret
    exact ⟨fun _ => rfl, fun k => absurd H.out k, rfl⟩
  · have H := Lib.hid h
    by_cases h1 : p % 2 = 1
    · by_cases h2 : 3 ≤ p
      · have h3 : ¬ p < 4611686018427387904 := fun k => h ⟨h2, k, h1⟩
        clear h
        go_enter Tryd.func18, Tryd.ntmps18
        go_wp2
        go_ret
        exact ⟨fun k => absurd k H.out, fun _ => rfl, rfl⟩
      · clear h
        go_enter Tryd.func18, Tryd.ntmps18
        go_wp2
        go_ret
        exact ⟨fun k => absurd k H.out, fun _ => rfl, rfl⟩
    · clear h
      go_enter Tryd.func18, Tryd.ntmps18
      go_wp2
      go_ret
      exact ⟨fun k => absurd k H.out, fun _ => rfl, rfl⟩
end Go.Proofs.YtoiclkaecgpbbaaDoor
