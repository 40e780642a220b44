/- Contracts of the program's functions, and plain laws (Modw7, Meter, Ntt3, Rev, Ntt5, Ntt6, Ntt7, Ntt12, Ntt13, Crt, Conv2, Conv3), for every input that their premises let in. -/
import Derived.Test.YtoiclkaecgpbbaaDoorV3
import Derived.Test.YtoiclkaecgpbbaaDoorV2
import Derived.Laws.Unary
import Derived.Test.YtoiclkaecgpbbaaDoorV1
import Derived.Deep.CutBlock
import Derived.LoopN
import Derived.Laws.Rows
/- The modulus made. -/
namespace Go.Proofs.YtoiclkaecgpbbaaDoor
open Go.RowKit

/-- The digits that are right after k of Newton's steps. -/
def nwE (k : Nat) : Nat := if k ≤ 4 then 3 * 2 ^ k else 64
theorem nwE_le (k : Nat) (hk : k < 6) : nwE (k + 1) ≤ 2 * nwE k ∧ nwE (k + 1) ≤ 64 := by
  have : ∀ k : Fin 6, nwE (k + 1) ≤ 2 * nwE k ∧ nwE (k + 1) ≤ 64 := by decide
  exact this ⟨k, hk⟩
theorem ipow_dvd {a b : Nat} (h : a ≤ b) : (2 : Int) ^ a ∣ 2 ^ b := ⟨2 ^ (b - a), by rw [← Int.pow_add]; congr 1; omega⟩
theorem newton_step (p v z : Int) (k : Nat) (hk : k < 6) (h : (p * v - 1) % 2 ^ nwE k = 0) (hz : (z - v * (2 - p * v)) % 18446744073709551616 = 0) : (p * z - 1) % 2 ^ nwE (k + 1) = 0 := by
  obtain ⟨c, hc⟩ := Int.dvd_of_emod_eq_zero h
  obtain ⟨d, hd⟩ := Int.dvd_of_emod_eq_zero hz
  obtain ⟨h1, h2⟩ := nwE_le k hk
  apply Int.emod_eq_zero_of_dvd
  have e : p * z - 1 = 2 ^ nwE k * 2 ^ nwE k * (-(c * c)) + 18446744073709551616 * (p * d) := by grind
  rw [e, ← Int.pow_add]
  refine Int.dvd_add (Int.dvd_trans (ipow_dvd (by omega)) (Int.dvd_mul_right _ _)) (Int.dvd_trans ?_ (Int.dvd_mul_right _ _))
  exact Int.dvd_trans (ipow_dvd h2) ⟨1, by decide⟩
theorem wrap_newton (p v : Int) : (IntKind.u64.wrap (v * IntKind.u64.wrap (2 - IntKind.u64.wrap (p * v))) - v * (2 - p * v)) % 18446744073709551616 = 0 := by
  rw [IntKind.wrap_u64, IntKind.wrap_u64, IntKind.wrap_u64]
  have h : Cg 18446744073709551616 (v * ((2 - p * v % 18446744073709551616) % 18446744073709551616) % 18446744073709551616) (v * (2 - p * v)) :=
    (Cg.mod _ _).trans (((Cg.mod _ _).trans ((Cg.refl _ 2).sub (Cg.mod _ _))).mull v)
  exact Int.emod_eq_emod_iff_emod_sub_eq_zero.1 h
theorem newton_start (p : Int) (h : p % 2 = 1) : (p * p - 1) % 2 ^ nwE 0 = 0 := by
  show (p * p - 1) % 8 = 0
  obtain ⟨m, rfl⟩ : ∃ m, p = 2 * m + 1 := ⟨p / 2, by omega⟩
  have e : (2 * m + 1) * (2 * m + 1) - 1 = 4 * (m * (m + 1)) := by grind
  have e2 : m * (m + 1) % 2 = 0 := by
    rcases Int.emod_two_eq m with hm | hm
    · rw [Int.mul_emod, hm]; simp
    · rw [Int.mul_emod]; have : (m + 1) % 2 = 0 := by omega
      rw [this]; simp
  omega
theorem newton_neg (p v : Int) (h : (p * v - 1) % 2 ^ nwE 6 = 0) : (p * IntKind.u64.wrap (-v) + 1) % 18446744073709551616 = 0 := by
  have h : (p * v - 1) % 18446744073709551616 = 0 := h
  rw [IntKind.wrap_u64]
  obtain ⟨c, hc⟩ := Int.dvd_of_emod_eq_zero h
  have e : p * (-v % 18446744073709551616) + 1 = 18446744073709551616 * (-c - p * (-v / 18446744073709551616)) := by
    have := Int.emod_add_mul_ediv (-v) 18446744073709551616
    grind
  rw [e]; exact Int.mul_emod_right ..
/-- What New answers. -/
def NewRet (w : World) (p : Int) (e : Ending) (w' : World) : Prop :=
  (Pm p → ∃ g, e = .returned (.tuple #[.pointer (some ⟨g, 0, none⟩), .int .i64 0]) ∧ Md w' g p ∧ w.heap.size ≤ g) ∧
  (¬ Pm p → e = .returned (.tuple #[.pointer none, .int .i64 3]))
set_option maxRecDepth 100000 in
theorem modNew_ok (w : World) (p : Int) (h : Pm p) :
    Calls Tryd.prog 57 #[.int .u64 p] w fun e w' => ∃ g, e = .returned (.tuple #[.pointer (some ⟨g, 0, none⟩), .int .i64 0]) ∧ Md w' g p ∧ w.heap.size ≤ g ∧ w.grownBy w' none := by
  have h0 := h.lo
  have h1 := h.hi
  have h2 := h.odd
  have hs := newton_start p h2
  have HS := Lib.hid hs
  have o0 := Int.emod_nonneg 18446744073709551616 (show p ≠ 0 by omega)
  have o1 := Int.emod_lt_of_pos 18446744073709551616 (show 0 < p by omega)
  clear hs
  go_enter Tryd.func57, Tryd.ntmps57
  go_wp2
  go_loopw [4, 18] (fun v4 v18 wr => ∃ (k : Nat) (v : Int), v4 = .int .u64 v ∧ v18 = .int .i64 k ∧ k ≤ 6 ∧ (p * v - 1) % 2 ^ nwE k = 0 ∧ wr = w) (fun _ v18 _ => 6 - (intOf v18).toNat)
  case atStart => exact ⟨0, p, rfl, rfl, by omega, HS.out, rfl⟩
  case round =>
    clear HS
    obtain ⟨k, v, rfl, rfl, hk, hv, rfl⟩ := hrel
    have HV := Lib.hid hv
    clear hv
    by_cases hlt : k < 6
    · go_wp2
      go_roundw
      case rel => exact ⟨k + 1, _, rfl, by go_num, by omega, newton_step p v _ k hlt HV.out (wrap_newton p v), by trivial⟩
      case measure => simp [intOf]; omega
    · obtain rfl : k = 6 := by omega
      have hn := newton_neg p v HV.out
      obtain ⟨n, hN⟩ : ∃ n, n = IntKind.u64.wrap (-v) := ⟨_, rfl⟩
      rw [← hN] at hn
      have n0 : 0 ≤ n ∧ n < 18446744073709551616 := by rw [hN, IntKind.wrap_u64]; omega
      have HN := Lib.hid hn
      have HN0 := Lib.hid n0
      clear hn n0 hlt
      replace hN := hN.symm
      go_wp2_with fail
      refine (div64_c 1 0 p (by decide) (by decide) (by decide) (by omega) (by omega) _).mono ?_
      rintro e w1 ⟨rfl, g1⟩
      have dz : ((1 : Int) * 18446744073709551616 + 0) = 18446744073709551616 := by decide
      rw [dz]
      have C := (cs_new wr #[.int .u64 p, .int .u64 n, .int .u64 0, .int .u64 0] 87).grown0 g1
      have GB := gb_trans (gb_alloc (gb_refl wr none) (.cells #[.int .u64 p, .int .u64 n, .int .u64 0, .int .u64 0] 87)) g1
      clear g1
      obtain ⟨g, hg⟩ : ∃ g, g = wr.heap.size := ⟨_, rfl⟩
      rw [← hg] at C ⊢
      have hgl : wr.heap.size ≤ g := by omega
      clear hg
      have c2 := C.cell 2 rfl
      have f2 := C.free 2 rfl
      obtain ⟨o, ho⟩ : ∃ o, o = 18446744073709551616 % p := ⟨_, rfl⟩
      rw [← ho] at o0 o1 ⊢
      have HO := Lib.hid ho
      clear ho
      go_wp2
      have C2 : Cs _ g [.int .u64 p, .int .u64 n, .int .u64 o, .int .u64 0] := C.set 2 (.int .u64 o)
      have GB2 := gb_set (p := ⟨g, 2, none⟩) GB hgl (.int .u64 o)
      obtain ⟨w2, hw2⟩ : ∃ w2, w2 = w1.setCell ⟨g, 2, none⟩ (.int .u64 o) := ⟨_, rfl⟩
      rw [← hw2] at C2 GB2 ⊢
      clear c2 f2 C GB hw2
      have c2 := C2.cell 2 rfl
      refine Canon.region_canon (by kernel_rfl) (by kernel_rfl) ?_
      go_wp2_with fail
      refine (mmul_core w2.drew g p o o h (C2.cell 0 rfl) o0 o1 o0 (by omega)).mono ?_
      rintro e w3 ⟨rfl, g3⟩
      have GB3 := gb_trans (gb_drew GB2) g3
      have C3 := (Cs.drew C2).grown0 g3
      have c3 := C3.cell 3 rfl
      have f3 := C3.free 3 rfl
      obtain ⟨t, ht⟩ : ∃ t, t = o * o % p := ⟨_, rfl⟩
      rw [← ht]
      have HT := Lib.hid ht
      clear g3 C2 GB2 c2 ht
      go_wp2
      refine ⟨by kernel_rfl, ?_⟩
      go_wp2
      have C4 : Cs _ g [.int .u64 p, .int .u64 n, .int .u64 o, .int .u64 t] := C3.set 3 (.int .u64 t)
      have GB4 := gb_set (p := ⟨g, 3, none⟩) GB3 hgl (.int .u64 t)
      go_ret2
      have et : t = 18446744073709551616 * 18446744073709551616 % p := by rw [HT.out, HO.out, ← Int.mul_emod]
      exact ⟨g, rfl, ⟨h, C4.cell 0 rfl, ⟨n, C4.cell 1 rfl, HN0.out.1, HN0.out.2, HN.out⟩, by rw [← HO.out]; exact C4.cell 2 rfl, by rw [← et]; exact C4.cell 3 rfl⟩, hgl, GB4⟩
theorem modNew_no (w : World) (p : Int) (_p0 : 0 ≤ p) (h : ¬ Pm p) :
    Calls Tryd.prog 57 #[.int .u64 p] w fun e w' => e = .returned (.tuple #[.pointer none, .int .i64 3]) ∧ w.grownBy w' none := by
  by_cases h1 : p < 3
  · clear h
    go_enter Tryd.func57, Tryd.ntmps57
    go_wp2
    go_ret2
    exact ⟨rfl, gb_refl _ _⟩
  · by_cases h2 : 4611686018427387904 ≤ p
    · clear h
      by_cases h3 : p % 2 = 0
      · go_enter Tryd.func57, Tryd.ntmps57
        go_wp2
        go_ret2
        exact ⟨rfl, gb_refl _ _⟩
      · go_enter Tryd.func57, Tryd.ntmps57
        go_wp2
        go_ret2
        exact ⟨rfl, gb_refl _ _⟩
    · have h3 : p % 2 = 0 := by
        by_cases k : p % 2 = 0
        · exact k
        · exact absurd ⟨by omega, by omega, by omega⟩ h
      clear h
      go_enter Tryd.func57, Tryd.ntmps57
      go_wp2
      go_ret2
      exact ⟨rfl, gb_refl _ _⟩
theorem may_c (w : World) (p : Int) (p0 : 0 ≤ p) :
    Calls Tryd.prog 18 #[.int .u64 p] w fun e w' => (Pm p → e = .returned (.bool true)) ∧ (¬ Pm p → e = .returned (.bool false)) ∧ w' = w := by
  by_cases h : Pm p
  · have h0 := h.lo
    have h1 := h.hi
    have h2 := h.odd
    have H := Lib.hid h
    clear h
    go_enter Tryd.func18, Tryd.ntmps18
    go_wp2
    go_ret
    exact ⟨fun _ => rfl, fun k => absurd H.out k, rfl⟩
  · have H := Lib.hid h
    by_cases h1 : p % 2 = 1
    · by_cases h2 : 3 ≤ p
      · have h3 : ¬ p < 4611686018427387904 := fun k => h ⟨h2, k, h1⟩
        clear h
        go_enter Tryd.func18, Tryd.ntmps18
        go_wp2
        go_ret
        exact ⟨fun k => absurd k H.out, fun _ => rfl, rfl⟩
      · clear h
        go_enter Tryd.func18, Tryd.ntmps18
        go_wp2
        go_ret
        exact ⟨fun k => absurd k H.out, fun _ => rfl, rfl⟩
    · clear h
      go_enter Tryd.func18, Tryd.ntmps18
      go_wp2
      go_ret
      exact ⟨fun k => absurd k H.out, fun _ => rfl, rfl⟩
end Go.Proofs.YtoiclkaecgpbbaaDoor

/- The meter's methods. -/
namespace Go.Proofs.YtoiclkaecgpbbaaDoor
open Go.RowKit

/-- The greatest level, and what lies behind the meter in its block. -/
structure Mc where
  v : Int
  T : Nat → Option Value
instance : OfNat Mc 0 := ⟨⟨0, fun _ => none⟩⟩
def Mc.up (c : Mc) (b : Int) : Mc := ⟨if b > c.v then b else c.v, c.T⟩
/-- Block g begins with a meter. -/
structure Mt (w : World) (g : Nat) (a b : Int) (c : Mc) : Prop where
  c0 : w.cell? ⟨g, 0, none⟩ = some (.int .i64 a)
  c1 : w.cell? ⟨g, 1, none⟩ = some (.int .i64 b)
  c2 : w.cell? ⟨g, 2, none⟩ = some (.int .i64 c.v)
  f0 : w.frozen? ⟨g, 0, none⟩ = false
  f1 : w.frozen? ⟨g, 1, none⟩ = false
  f2 : w.frozen? ⟨g, 2, none⟩ = false
  a0 : 0 ≤ a
  b0 : 0 ≤ b
  c0' : 0 ≤ c.v
  rest : ∀ j, 3 ≤ j → w.cell? ⟨g, j, none⟩ = c.T j
/-- Only the meter of block g may have changed. -/
structure MtOnly (w w' : World) (g : Nat) : Prop where
  gb : w.grownBy w' (some g)
  size : w'.heap.size = w.heap.size
  rest : ∀ j, 3 ≤ j → w'.cell? ⟨g, j, none⟩ = w.cell? ⟨g, j, none⟩
theorem MtOnly.refl (w : World) (g : Nat) : MtOnly w w g := ⟨gb_refl _ _, rfl, fun _ _ => rfl⟩
theorem MtOnly.trans {a b c : World} {g : Nat} (h : MtOnly a b g) (k : MtOnly b c g) : MtOnly a c g :=
  ⟨gb_trans h.gb k.gb, k.size.trans h.size, fun j hj => (k.rest j hj).trans (h.rest j hj)⟩
theorem MtOnly.drew {a b : World} {g : Nat} (h : MtOnly a b g) : MtOnly a b.drew g := ⟨gb_drew h.gb, h.size, h.rest⟩
theorem MtOnly.set {a b : World} {g : Nat} (h : MtOnly a b g) (j : Nat) (hj : j < 3) (u : Value) : MtOnly a (b.setCell ⟨g, j, none⟩ u) g := by
  refine h.trans ⟨⟨rfl, rfl, rfl, by simp [World.setCell], fun k _ hk => Below.heap_setCell _ _ _ _ (fun e => hk (by rw [e]))⟩, by simp [World.setCell], fun i hi => ?_⟩
  exact World.cell?_setCell_other _ _ _ _ (fun e => by simp only [Addr.mk.injEq] at e; omega)
theorem cell_ne (w : World) (g i j : Nat) (u : Value) (h : i ≠ j) : (w.setCell ⟨g, i, none⟩ u).cell? ⟨g, j, none⟩ = w.cell? ⟨g, j, none⟩ :=
  World.cell?_setCell_other _ _ _ _ (fun e => by simp only [Addr.mk.injEq] at e; exact h e.2.1)
theorem Mt.set0 {w : World} {g : Nat} {a b x : Int} {c : Mc} (h : Mt w g a b c) (hx : 0 ≤ x) : Mt (w.setCell ⟨g, 0, none⟩ (.int .i64 x)) g x b c :=
  ⟨World.cell?_setCell_same _ _ _ h.c0, (cell_ne _ _ _ _ _ (by decide)).trans h.c1, (cell_ne _ _ _ _ _ (by decide)).trans h.c2, by rw [World.frozen?_setCell]; exact h.f0, by rw [World.frozen?_setCell]; exact h.f1, by rw [World.frozen?_setCell]; exact h.f2, hx, h.b0, h.c0', fun j hj => (cell_ne _ _ _ _ _ (by omega)).trans (h.rest j hj)⟩
theorem Mt.set1 {w : World} {g : Nat} {a b x : Int} {c : Mc} (h : Mt w g a b c) (hx : 0 ≤ x) : Mt (w.setCell ⟨g, 1, none⟩ (.int .i64 x)) g a x c :=
  ⟨(cell_ne _ _ _ _ _ (by decide)).trans h.c0, World.cell?_setCell_same _ _ _ h.c1, (cell_ne _ _ _ _ _ (by decide)).trans h.c2, by rw [World.frozen?_setCell]; exact h.f0, by rw [World.frozen?_setCell]; exact h.f1, by rw [World.frozen?_setCell]; exact h.f2, h.a0, hx, h.c0', fun j hj => (cell_ne _ _ _ _ _ (by omega)).trans (h.rest j hj)⟩
theorem Mt.set2 {w : World} {g : Nat} {a b x : Int} {c : Mc} (h : Mt w g a b c) (hx : 0 ≤ x) : Mt (w.setCell ⟨g, 2, none⟩ (.int .i64 x)) g a b ⟨x, c.T⟩ :=
  ⟨(cell_ne _ _ _ _ _ (by decide)).trans h.c0, (cell_ne _ _ _ _ _ (by decide)).trans h.c1, World.cell?_setCell_same _ _ _ h.c2, by rw [World.frozen?_setCell]; exact h.f0, by rw [World.frozen?_setCell]; exact h.f1, by rw [World.frozen?_setCell]; exact h.f2, h.a0, h.b0, hx, fun j hj => (cell_ne _ _ _ _ _ (by omega)).trans (h.rest j hj)⟩
theorem Mt.other {w w' : World} {g h : Nat} {a b : Int} {c : Mc} (m : Mt w g a b c) (o : MtOnly w w' h) (hne : g ≠ h) : Mt w' g a b c := by
  have hb := o.gb.block g (World.block_lt_of_cell? w _ m.c0) (fun e => hne (Option.some.inj e))
  have e : ∀ j, w'.cell? ⟨g, j, none⟩ = w.cell? ⟨g, j, none⟩ := fun j => World.cell?_of_block hb
  have f : ∀ j, w'.frozen? ⟨g, j, none⟩ = w.frozen? ⟨g, j, none⟩ := fun j => World.frozen?_of_block hb
  exact ⟨(e 0).trans m.c0, (e 1).trans m.c1, (e 2).trans m.c2, (f 0).trans m.f0, (f 1).trans m.f1, (f 2).trans m.f2, m.a0, m.b0, m.c0', fun j hj => (e j).trans (m.rest j hj)⟩
theorem Mt.grown {w w' : World} {g : Nat} {a b : Int} {c : Mc} (m : Mt w g a b c) (o : w.grownBy w' none) : Mt w' g a b c := by
  have hb := o.block g (World.block_lt_of_cell? w _ m.c0) (by simp)
  have e : ∀ j, w'.cell? ⟨g, j, none⟩ = w.cell? ⟨g, j, none⟩ := fun j => World.cell?_of_block hb
  have f : ∀ j, w'.frozen? ⟨g, j, none⟩ = w.frozen? ⟨g, j, none⟩ := fun j => World.frozen?_of_block hb
  exact ⟨(e 0).trans m.c0, (e 1).trans m.c1, (e 2).trans m.c2, (f 0).trans m.f0, (f 1).trans m.f1, (f 2).trans m.f2, m.a0, m.b0, m.c0', fun j hj => (e j).trans (m.rest j hj)⟩
theorem Mt.drew {w : World} {g : Nat} {a b : Int} {c : Mc} (h : Mt w g a b c) : Mt w.drew g a b c := ⟨h.c0, h.c1, h.c2, h.f0, h.f1, h.f2, h.a0, h.b0, h.c0', h.rest⟩

theorem muls_c (w : World) (g : Nat) (a b : Int) (c : Mc) (h : Mt w g a b c) :
    Calls Tryd.prog 31 #[.pointer (some ⟨g, 0, none⟩)] w fun e w' => e = .returned (.int .i64 a) ∧ w' = w := by
  have h0 := h.c0
  go_enter Tryd.func31, Tryd.ntmps31
  go_wp2
  go_ret
  exact ⟨rfl, rfl⟩
theorem spend_c (w : World) (g : Nat) (a b : Int) (c : Mc) (n : Int) (h : Mt w g a b c) (ha : a ≤ 4000000000000000000) (hn : n ≤ 4000000000000000000) :
    Calls Tryd.prog 83 #[.pointer (some ⟨g, 0, none⟩), .int .i64 n] w fun e w' => e = .returned (.int .i64 (if n > 0 then a + n else a)) ∧ Mt w' g (if n > 0 then a + n else a) b c ∧ MtOnly w w' g := by
  have h0 := h.a0
  have k1 := h.c0
  have f1 := h.f0
  by_cases hc : 0 < n
  · rw [if_pos hc]
    go_enter Tryd.func83, Tryd.ntmps83
    go_wp2
    go_ret
    exact ⟨rfl, h.set0 (by omega), (MtOnly.refl w g).set 0 (by decide) _⟩
  · rw [if_neg hc]
    have hc' : n ≤ 0 := by omega
    clear hc
    go_enter Tryd.func83, Tryd.ntmps83
    go_wp2
    go_ret
    exact ⟨rfl, h, MtOnly.refl w g⟩
theorem tmod_gt (v n : Int) (h : 0 < n) : -n < v.tmod n := by
  rcases Int.lt_or_le v 0 with hv | hv
  · have := Int.tmod_lt_of_pos (-v) h
    rw [Int.neg_tmod] at this; omega
  · have := Int.tmod_nonneg n hv; omega
theorem within_c (v n : Int) (h1 : 1 ≤ n) (hn : n ≤ 4000000000000000000) (w : World) :
    Calls Tryd.prog 23 #[.int .i64 v, .int .i64 n] w fun e w' => e = .returned (.int .i64 (v % n)) ∧ w' = w := by
  have e1 : v % n = if v.tmod n < 0 then v.tmod n + n else v.tmod n := by
    have ht := Int.tmod_add_mul_tdiv v n
    have hl := Int.tmod_lt_of_pos v (show 0 < n by omega)
    have hg : -n < v.tmod n := tmod_gt v n (by omega)
    have hdiv : ∀ r : Int, r = v.tmod n → (v % n = (r + n * v.tdiv n) % n) := fun r hr => by rw [hr, ht]
    rw [hdiv _ rfl, Int.add_mul_emod_self_left]
    split
    · rename_i h
      rw [← Int.add_emod_right, Int.emod_eq_of_lt (by omega) (by omega)]
    · exact Int.emod_eq_of_lt (by omega) hl
  have hl := Int.tmod_lt_of_pos v (show 0 < n by omega)
  have hg : -n < v.tmod n := tmod_gt v n (by omega)
  rw [e1]
  by_cases hc : v.tmod n < 0
  · rw [if_pos hc]
    clear e1
    go_enter Tryd.func23, Tryd.ntmps23
    go_wp2
    go_ret
    exact ⟨rfl, rfl⟩
  · rw [if_neg hc]
    have hc' : 0 ≤ v.tmod n := by omega
    clear hc e1
    go_enter Tryd.func23, Tryd.ntmps23
    go_wp2
    go_ret
    exact ⟨rfl, rfl⟩
end Go.Proofs.YtoiclkaecgpbbaaDoor

/- Transforms: the plan. -/
namespace Go.Proofs.YtoiclkaecgpbbaaDoor
open Go.RowKit

/-- The powers of r, and what Shoup says of each. -/
def Pws (w : World) (gm : Nat) (v vs : Value) (p r : Int) (n : Nat) : Prop := ∃ b bs, v = .slice (some ⟨b, 0, none⟩) n n ∧ vs = .slice (some ⟨bs, 0, none⟩) n n ∧ b ≠ gm ∧ bs ≠ gm ∧
  (∀ i, i < n → w.cell? ⟨b, i, none⟩ = some (.int .u64 (r ^ i % p))) ∧ (∀ i, i < n → w.cell? ⟨bs, i, none⟩ = some (.int .u64 (r ^ i % p * 18446744073709551616 / p)))
theorem Pws.grown {w w' : World} {gm : Nat} {v vs : Value} {p r : Int} {n : Nat} (h : Pws w gm v vs p r n) (g : w.grownBy w' (some gm)) : Pws w' gm v vs p r n := by
  obtain ⟨b, bs, h1, h2, h3, h4, h5, h6⟩ := h
  exact ⟨b, bs, h1, h2, h3, h4, fun i hi => gb_cell g (h5 i hi) (by simpa using h3), fun i hi => gb_cell g (h6 i hi) (by simpa using h4)⟩
theorem Pws.two {w w' : World} {gm t : Nat} {v vs : Value} {p r : Int} {n : Nat} (h : Pws w gm v vs p r n) (h2 : Pws w t v vs p r n) (g : w.grownBy w' (some t)) : Pws w' gm v vs p r n := by
  obtain ⟨b, bs, rfl, rfl, h3, h4, h5, h6⟩ := h
  obtain ⟨b', bs', e1, e2, k3, k4, _⟩ := h2
  simp only [Value.slice.injEq, Option.some.injEq, Addr.mk.injEq, and_true] at e1 e2
  subst e1 e2
  exact ⟨b, bs, rfl, rfl, h3, h4, fun i hi => gb_cell g (h5 i hi) (by simpa using k3), fun i hi => gb_cell g (h6 i hi) (by simpa using k4)⟩
theorem Pws.grown0 {w w' : World} {gm : Nat} {v vs : Value} {p r : Int} {n : Nat} (h : Pws w gm v vs p r n) (g : w.grownBy w' none) : Pws w' gm v vs p r n := h.grown (gb_none g _)
/-- Block t is a plan. -/
structure Pl (w : World) (t gm : Nat) (p r z : Int) (L : Nat) : Prop where
  gd : ∃ g, w.cell? ⟨t, 0, none⟩ = some (.pointer (some ⟨g, 0, none⟩)) ∧ Md w g p ∧ g ≠ gm
  c1 : w.cell? ⟨t, 1, none⟩ = some (.pointer (some ⟨gm, 0, none⟩))
  c2 : w.cell? ⟨t, 2, none⟩ = some (.int .i64 L)
  up : ∃ v vs, w.cell? ⟨t, 3, none⟩ = some v ∧ w.cell? ⟨t, 5, none⟩ = some vs ∧ Pws w gm v vs p r (2 ^ L / 2)
  dn : ∃ v vs, w.cell? ⟨t, 4, none⟩ = some v ∧ w.cell? ⟨t, 6, none⟩ = some vs ∧ Pws w gm v vs p z (2 ^ L / 2)
  c7 : ∃ u, w.cell? ⟨t, 7, none⟩ = some (.int .u64 u) ∧ 0 ≤ u ∧ u < p ∧ Cg p (u * ((2 ^ L : Nat) : Int)) 1
  tm : t ≠ gm
  L10 : L ≤ 10
  r0 : 0 ≤ r ∧ r < p
  z0 : 0 ≤ z ∧ z < p
  inv : Cg p (z * r) 1
  neg : L ≠ 0 → Cg p (r ^ 2 ^ (L - 1)) (-1)
theorem Pl.grown {w w' : World} {t gm : Nat} {p r z : Int} {L : Nat} (h : Pl w t gm p r z L) (k : w.grownBy w' (some gm)) : Pl w' t gm p r z L := by
  obtain ⟨⟨g, h1, h2, h3⟩, c1, c2, ⟨v, vs, u1, u2, u3⟩, ⟨y, ys, d1, d2, d3⟩, ⟨u, s1, s2⟩, tm, l, r0, z0, i, n⟩ := h
  have ht : some t ≠ some gm := by simpa using tm
  exact ⟨⟨g, gb_cell k h1 ht, h2.grown k (by simpa using h3), h3⟩, gb_cell k c1 ht, gb_cell k c2 ht, ⟨v, vs, gb_cell k u1 ht, gb_cell k u2 ht, u3.grown k⟩, ⟨y, ys, gb_cell k d1 ht, gb_cell k d2 ht, d3.grown k⟩, ⟨u, gb_cell k s1 ht, s2⟩, tm, l, r0, z0, i, n⟩
theorem size_c (w : World) (t gm : Nat) (p r z : Int) (L : Nat) (h : Pl w t gm p r z L) :
    Calls Tryd.prog 37 #[.pointer (some ⟨t, 0, none⟩)] w fun e w' => e = .returned (.int .i64 ((2 ^ L : Nat) : Int)) ∧ w' = w := by
  have c2 := h.c2
  have hL := h.L10
  obtain ⟨q, hq⟩ : ∃ q, q = 2 ^ L := ⟨_, rfl⟩
  have hq10 : q ≤ 2 ^ 10 := by rw [hq]; exact Nat.pow_le_pow_right (by decide) hL
  have eq : (2 : Int) ^ L = (q : Int) := by rw [hq, Int.natCast_pow]; rfl
  have hw : IntKind.i64.wrap (2 ^ L) = (q : Int) := by rw [eq, IntKind.wrap_i64]; omega
  have hw2 : IntKind.i64.wrap (1 * 2 ^ L) = (q : Int) := by rw [Int.one_mul]; exact hw
  rw [← hq]
  clear hq eq hq10 h
  go_enter Tryd.func37, Tryd.ntmps37
  go_wp2
  go_ret
  exact ⟨rfl, rfl⟩
end Go.Proofs.YtoiclkaecgpbbaaDoor

/- Digits turned round. -/
namespace Go.Proofs.YtoiclkaecgpbbaaDoor
open Go.RowKit

def swp (k m x : Nat) : Nat := ((x >>> k) &&& m) ||| (((x &&& m) <<< k) % 18446744073709551616)
def rby (x : Nat) : Nat :=
  let y := swp 8 71777214294589695 x
  let z := swp 16 281470681808895 y
  (z >>> 32) ||| ((z <<< 32) % 18446744073709551616)
def rev64 (x : Nat) : Nat := rby (swp 4 1085102592571150095 (swp 2 3689348814741910323 (swp 1 6148914691236517205 x)))
def revOk (n : Nat) : Bool := (List.range n).all fun i => (List.range 11).all fun L => decide (2 ^ L ≤ i) || decide (rev64 i / 2 ^ (64 - L) = rv L i)
theorem rev_ok : revOk 1024 = true := by decide +kernel
theorem rev64_rv {i L : Nat} (hL : L ≤ 10) (hi : i < 2 ^ L) : rev64 i / 2 ^ (64 - L) = rv L i := by
  have h10 : 2 ^ L ≤ 2 ^ 10 := Nat.pow_le_pow_right (by decide) hL
  have h1 := List.all_eq_true.1 rev_ok i (List.mem_range.2 (by omega))
  have h2 := List.all_eq_true.1 h1 L (List.mem_range.2 (by omega))
  simp only [Bool.or_eq_true, decide_eq_true_eq] at h2
  rcases h2 with h2 | h2
  · omega
  · exact h2
theorem swp_lt {k m x : Nat} (hm : m < 18446744073709551616) : swp k m x < 18446744073709551616 := by
  unfold swp
  have h1 : (x >>> k) &&& m < 2 ^ 64 := Nat.lt_of_le_of_lt Nat.and_le_right hm
  exact Nat.or_lt_two_pow h1 (Nat.mod_lt _ (by decide))
theorem rby_lt (x : Nat) : rby x < 18446744073709551616 := by
  unfold rby
  have h1 : swp 16 281470681808895 (swp 8 71777214294589695 x) < 2 ^ 64 := swp_lt (by decide)
  refine Nat.or_lt_two_pow (n := 64) ?_ (Nat.mod_lt _ (by decide))
  rw [Nat.shiftRight_eq_div_pow]
  exact Nat.lt_of_le_of_lt (Nat.div_le_self _ _) h1
/-- One swap, as the walk says it. -/
theorem swp_int (k m x : Nat) (hx : x < 18446744073709551616) (hm : m < 18446744073709551616) :
    bits .and .u64 ((x : Int) / 2 ^ k) m = ((((x >>> k) &&& m : Nat)) : Int) ∧ bits .and .u64 (x : Int) m = ((x &&& m : Nat) : Int) ∧ IntKind.u64.wrap (((x &&& m : Nat) : Int) * 2 ^ k) = ((((x &&& m) <<< k) % 18446744073709551616 : Nat) : Int) ∧
      bits .or .u64 ((((x >>> k) &&& m : Nat)) : Int) ((((x &&& m) <<< k) % 18446744073709551616 : Nat) : Int) = (swp k m x : Int) := by
  have e1 : (x : Int) / 2 ^ k = ((x >>> k : Nat) : Int) := by rw [Nat.shiftRight_eq_div_pow, Int.natCast_ediv, Int.natCast_pow]; rfl
  have h1 : x >>> k < 18446744073709551616 := by rw [Nat.shiftRight_eq_div_pow]; exact Nat.lt_of_le_of_lt (Nat.div_le_self _ _) hx
  refine ⟨?_, ?_, ?_, ?_⟩
  · rw [e1]; exact bits_and_u64_nat _ _ h1 hm
  · exact bits_and_u64_nat _ _ hx hm
  · have e2 : (((x &&& m : Nat) : Int) * 2 ^ k) = (((x &&& m) <<< k : Nat) : Int) := by rw [Nat.shiftLeft_eq, Int.natCast_mul, Int.natCast_pow]; rfl
    rw [e2, IntKind.wrap_u64]; omega
  · exact bits_or_u64_nat _ _ (Nat.lt_of_le_of_lt Nat.and_le_right hm) (Nat.mod_lt _ (by decide))
set_option maxRecDepth 100000 in
theorem rby_c (w : World) (x : Nat) (hx : x < 18446744073709551616) : Calls Tryd.prog 101 #[.int .u64 x] w fun e w' => e = .returned (.int .u64 (rby x : Nat)) ∧ w' = w := by
  obtain ⟨a1, a2, a3, a4⟩ := swp_int 8 71777214294589695 x hx (by decide)
  have hy : swp 8 71777214294589695 x < 18446744073709551616 := swp_lt (by decide)
  obtain ⟨Ax, eAx⟩ : ∃ A, A = (x >>> 8) &&& 71777214294589695 := ⟨_, rfl⟩
  obtain ⟨Bx, eBx⟩ : ∃ A, A = x &&& 71777214294589695 := ⟨_, rfl⟩
  rw [← eBx] at a2 a3 a4
  obtain ⟨Cx, eCx⟩ : ∃ A, A = (Bx <<< 8) % 18446744073709551616 := ⟨_, rfl⟩
  obtain ⟨y, ey⟩ : ∃ A, A = swp 8 71777214294589695 x := ⟨_, rfl⟩
  rw [← eAx] at a1 a4
  rw [← eCx] at a3 a4
  rw [← ey] at a4 hy
  have fx1 : bits .and .u64 ((x : Int) / 2 ^ 8) 71777214294589695 = (Ax : Int) := a1
  have fx2 : bits .and .u64 ((x : Int) / 256) 71777214294589695 = (Ax : Int) := a1
  have fx3 : bits .and .u64 (x : Int) 71777214294589695 = (Bx : Int) := a2
  have fx4 : IntKind.u64.wrap ((Bx : Int) * 2 ^ 8) = (Cx : Int) := a3
  have fx5 : IntKind.u64.wrap ((Bx : Int) * 256) = (Cx : Int) := a3
  have fx6 : bits .or .u64 (Ax : Int) (Cx : Int) = (y : Int) := a4
  clear a1 a2 a3 a4 eAx eBx eCx
  obtain ⟨a1, a2, a3, a4⟩ := swp_int 16 281470681808895 y hy (by decide)
  have hz : swp 16 281470681808895 y < 18446744073709551616 := swp_lt (by decide)
  obtain ⟨Ay, eAy⟩ : ∃ A, A = (y >>> 16) &&& 281470681808895 := ⟨_, rfl⟩
  obtain ⟨By, eBy⟩ : ∃ A, A = y &&& 281470681808895 := ⟨_, rfl⟩
  rw [← eBy] at a2 a3 a4
  obtain ⟨Cy, eCy⟩ : ∃ A, A = (By <<< 16) % 18446744073709551616 := ⟨_, rfl⟩
  obtain ⟨z, ez⟩ : ∃ A, A = swp 16 281470681808895 y := ⟨_, rfl⟩
  rw [← eAy] at a1 a4
  rw [← eCy] at a3 a4
  rw [← ez] at a4 hz
  have fy1 : bits .and .u64 ((y : Int) / 2 ^ 16) 281470681808895 = (Ay : Int) := a1
  have fy2 : bits .and .u64 ((y : Int) / 65536) 281470681808895 = (Ay : Int) := a1
  have fy3 : bits .and .u64 (y : Int) 281470681808895 = (By : Int) := a2
  have fy4 : IntKind.u64.wrap ((By : Int) * 2 ^ 16) = (Cy : Int) := a3
  have fy5 : IntKind.u64.wrap ((By : Int) * 65536) = (Cy : Int) := a3
  have fy6 : bits .or .u64 (Ay : Int) (Cy : Int) = (z : Int) := a4
  clear a1 a2 a3 a4 eAy eBy eCy
  have er : rby x = (z >>> 32) ||| ((z <<< 32) % 18446744073709551616) := by rw [ez, ey]; rfl
  rw [er]
  obtain ⟨A, eA⟩ : ∃ A, A = z >>> 32 := ⟨_, rfl⟩
  obtain ⟨C, eC⟩ : ∃ A, A = (z <<< 32) % 18446744073709551616 := ⟨_, rfl⟩
  rw [← eA, ← eC]
  have g1 : (z : Int) / 4294967296 = (A : Int) := by rw [eA, Nat.shiftRight_eq_div_pow]; omega
  have g1' : (z : Int) / 2 ^ 32 = (A : Int) := g1
  have g2 : IntKind.u64.wrap ((z : Int) * 4294967296) = (C : Int) := by rw [eC, Nat.shiftLeft_eq, IntKind.wrap_u64]; omega
  have g2' : IntKind.u64.wrap ((z : Int) * 2 ^ 32) = (C : Int) := g2
  have g3 : bits .or .u64 (A : Int) (C : Int) = ((A ||| C : Nat) : Int) := bits_or_u64_nat _ _ (by rw [eA, Nat.shiftRight_eq_div_pow]; exact Nat.lt_of_le_of_lt (Nat.div_le_self _ _) hz) (by rw [eC]; exact Nat.mod_lt _ (by decide))
  obtain ⟨R, eR⟩ : ∃ R, R = A ||| C := ⟨_, rfl⟩
  rw [← eR] at g3 ⊢
  clear er eA eC ey ez eR hx hy hz
  go_enter Tryd.func101, Tryd.ntmps101
  go_wp2
  go_ret
  exact ⟨rfl, rfl⟩
set_option maxRecDepth 100000 in
theorem rev64_c (w : World) (x : Nat) (hx : x < 18446744073709551616) : Calls Tryd.prog 96 #[.int .u64 x] w fun e w' => e = .returned (.int .u64 (rev64 x : Nat)) ∧ w' = w := by
  obtain ⟨a1, a2, a3, a4⟩ := swp_int 1 6148914691236517205 x hx (by decide)
  have hy : swp 1 6148914691236517205 x < 18446744073709551616 := swp_lt (by decide)
  obtain ⟨Ax, eAx⟩ : ∃ A, A = (x >>> 1) &&& 6148914691236517205 := ⟨_, rfl⟩
  obtain ⟨Bx, eBx⟩ : ∃ A, A = x &&& 6148914691236517205 := ⟨_, rfl⟩
  rw [← eBx] at a2 a3 a4
  obtain ⟨Cx, eCx⟩ : ∃ A, A = (Bx <<< 1) % 18446744073709551616 := ⟨_, rfl⟩
  obtain ⟨y, ey⟩ : ∃ A, A = swp 1 6148914691236517205 x := ⟨_, rfl⟩
  rw [← eAx] at a1 a4
  rw [← eCx] at a3 a4
  rw [← ey] at a4 hy
  have fx1 : bits .and .u64 ((x : Int) / 2 ^ 1) 6148914691236517205 = (Ax : Int) := a1
  have fx2 : bits .and .u64 ((x : Int) / 2) 6148914691236517205 = (Ax : Int) := a1
  have fx3 : bits .and .u64 (x : Int) 6148914691236517205 = (Bx : Int) := a2
  have fx4 : IntKind.u64.wrap ((Bx : Int) * 2 ^ 1) = (Cx : Int) := a3
  have fx5 : IntKind.u64.wrap ((Bx : Int) * 2) = (Cx : Int) := a3
  have fx6 : bits .or .u64 (Ax : Int) (Cx : Int) = (y : Int) := a4
  clear a1 a2 a3 a4 eAx eBx eCx
  obtain ⟨a1, a2, a3, a4⟩ := swp_int 2 3689348814741910323 y hy (by decide)
  have hz : swp 2 3689348814741910323 y < 18446744073709551616 := swp_lt (by decide)
  obtain ⟨Ay, eAy⟩ : ∃ A, A = (y >>> 2) &&& 3689348814741910323 := ⟨_, rfl⟩
  obtain ⟨By, eBy⟩ : ∃ A, A = y &&& 3689348814741910323 := ⟨_, rfl⟩
  rw [← eBy] at a2 a3 a4
  obtain ⟨Cy, eCy⟩ : ∃ A, A = (By <<< 2) % 18446744073709551616 := ⟨_, rfl⟩
  obtain ⟨z, ez⟩ : ∃ A, A = swp 2 3689348814741910323 y := ⟨_, rfl⟩
  rw [← eAy] at a1 a4
  rw [← eCy] at a3 a4
  rw [← ez] at a4 hz
  have fy1 : bits .and .u64 ((y : Int) / 2 ^ 2) 3689348814741910323 = (Ay : Int) := a1
  have fy2 : bits .and .u64 ((y : Int) / 4) 3689348814741910323 = (Ay : Int) := a1
  have fy3 : bits .and .u64 (y : Int) 3689348814741910323 = (By : Int) := a2
  have fy4 : IntKind.u64.wrap ((By : Int) * 2 ^ 2) = (Cy : Int) := a3
  have fy5 : IntKind.u64.wrap ((By : Int) * 4) = (Cy : Int) := a3
  have fy6 : bits .or .u64 (Ay : Int) (Cy : Int) = (z : Int) := a4
  clear a1 a2 a3 a4 eAy eBy eCy
  obtain ⟨a1, a2, a3, a4⟩ := swp_int 4 1085102592571150095 z hz (by decide)
  have hv : swp 4 1085102592571150095 z < 18446744073709551616 := swp_lt (by decide)
  obtain ⟨Az, eAz⟩ : ∃ A, A = (z >>> 4) &&& 1085102592571150095 := ⟨_, rfl⟩
  obtain ⟨Bz, eBz⟩ : ∃ A, A = z &&& 1085102592571150095 := ⟨_, rfl⟩
  rw [← eBz] at a2 a3 a4
  obtain ⟨Cz, eCz⟩ : ∃ A, A = (Bz <<< 4) % 18446744073709551616 := ⟨_, rfl⟩
  obtain ⟨v, ev⟩ : ∃ A, A = swp 4 1085102592571150095 z := ⟨_, rfl⟩
  rw [← eAz] at a1 a4
  rw [← eCz] at a3 a4
  rw [← ev] at a4 hv
  have fz1 : bits .and .u64 ((z : Int) / 2 ^ 4) 1085102592571150095 = (Az : Int) := a1
  have fz2 : bits .and .u64 ((z : Int) / 16) 1085102592571150095 = (Az : Int) := a1
  have fz3 : bits .and .u64 (z : Int) 1085102592571150095 = (Bz : Int) := a2
  have fz4 : IntKind.u64.wrap ((Bz : Int) * 2 ^ 4) = (Cz : Int) := a3
  have fz5 : IntKind.u64.wrap ((Bz : Int) * 16) = (Cz : Int) := a3
  have fz6 : bits .or .u64 (Az : Int) (Cz : Int) = (v : Int) := a4
  clear a1 a2 a3 a4 eAz eBz eCz
  have er : rev64 x = rby v := by rw [ev, ez, ey]; rfl
  have T := rby_c w v hv
  rw [er]
  have HT := Lib.hid T
  clear er ey ez ev hx hy hz hv T
  go_enter Tryd.func96, Tryd.ntmps96
  go_wp2_with fail
  refine (HT.out).mono ?_
  rintro e w' ⟨rfl, rfl⟩
  go_wp2
  go_ret
  exact ⟨rfl, rfl⟩
end Go.Proofs.YtoiclkaecgpbbaaDoor

/- Transforms: turned. -/
namespace Go.Proofs.YtoiclkaecgpbbaaDoor
open Go.RowKit

theorem Tu.rest {p : Int} {xs os : List Int} {L i j : Nat} (h : Tu p xs L i os) (hx : xs.length ≤ i) (hij : i ≤ j) : Tu p xs L j os :=
  ⟨h.len, fun q hq => by
    rw [h.v q hq]
    by_cases k : rv L q < i
    · rw [if_pos k, if_pos (by omega)]
    · rw [if_neg k]
      split
      · rw [rd_beyond (by omega)]; exact (Int.zero_emod _).symm
      · rfl⟩
set_option maxRecDepth 100000 in
set_option maxHeartbeats 2000000 in
theorem turned_c (w : World) (t gm : Nat) (p r z : Int) (L : Nat) (v : Value) (xs : List Int) (h : Pl w t gm p r z L) (hv : Sl w v xs) (hl : xs.length ≤ 2 ^ L) :
    Calls Tryd.prog 81 #[.pointer (some ⟨t, 0, none⟩), v] w fun e w' => ∃ g os, e = .returned (.slice (some ⟨g, 0, none⟩) (2 ^ L) (2 ^ L)) ∧ Own w' w.heap.size (.slice (some ⟨g, 0, none⟩) (2 ^ L) (2 ^ L)) os ∧ Tu p xs L (2 ^ L) os ∧ w.heap.size ≤ g ∧ w.grownBy w' none := by
  have S := size_c w t gm p r z L h
  have hL := h.L10
  obtain ⟨g, h0, md, _⟩ := h.gd
  have c2 := h.c2
  obtain ⟨A, c, rfl, a1, a2, _, a4⟩ := hv
  have XW : Ws xs := by assumption
  have tlt : t < w.heap.size := World.block_lt_of_cell? w _ c2
  have u0 := Tu.start p xs L
  have us : ∀ i os, Tu p xs L i os → i < 2 ^ L → Tu p xs L (i + 1) (os.set (rv L i) (rd xs i % p)) := fun i os h hi => h.step hi
  have rvl : ∀ i, i < 2 ^ L → rv L i < 2 ^ L := fun i _ => rv_lt L i
  have rve : ∀ i, i < 2 ^ L → rev64 i / 2 ^ (64 - L) = rv L i := fun i hi => rev64_rv hL hi
  have own0 := own_made w w.heap.size (2 ^ L) (2 ^ L) (Nat.le_refl _) (Nat.le_refl _) (by have : 2 ^ L ≤ 2 ^ 10 := Nat.pow_le_pow_right (by decide) hL; omega)
  obtain ⟨N, hN⟩ : ∃ N, N = 2 ^ L := ⟨_, rfl⟩
  have hN10 : N ≤ 1024 := by rw [hN]; exact Nat.pow_le_pow_right (by decide) hL
  rw [← hN] at S u0 us rvl rve own0 hl ⊢
  obtain ⟨n, hn⟩ : ∃ n, n = xs.length := ⟨_, rfl⟩
  rw [← hn] at a1 a4 hl ⊢
  have HNN := Lib.hid hn
  clear hn
  have mk := make64 36 (by kernel_rfl) N N (N : Int) (N : Int) rfl rfl (Nat.le_refl _) (by omega)
  obtain ⟨K, hK⟩ : ∃ K, K = 64 - L := ⟨_, rfl⟩
  have eK : (64 : Int) - (L : Int) = (K : Int) := by omega
  have hK64 : K ≤ 64 := by omega
  rw [← hK] at rve
  have hp0 : 0 < p := by have := md.pm.lo; omega
  have hp1 : p < 4611686018427387904 := md.pm.hi
  have HS := Lib.hid S
  have U0 := Lib.hid u0
  have US := Lib.hid us
  have RVL := Lib.hid rvl
  have RVE := Lib.hid rve
  have OW0 := Lib.hid own0
  have MD := Lib.hid md
  have C2 := Lib.hid c2
  have C0 := Lib.hid h0
  have XD := Lib.hid XW
  have TL := Lib.hid tlt
  have HN := Lib.hid hN
  clear S u0 us rvl rve own0 md c2 h0 XW hN hK h tlt
  go_enter Tryd.func81, Tryd.ntmps81
  go_wp2_with fail
  refine (HS.out).mono ?_
  rintro e w' ⟨rfl, rfl⟩
  obtain ⟨w, rfl⟩ : ∃ w, w = w' := ⟨_, rfl⟩
  go_wp2
  clear mk HS
  have EK := Lib.hid eK
  clear eK
  go_loopw [13] (fun v13 wr => ∃ (i : Nat) (os : List Int), v13 = .int .i64 i ∧ i ≤ n ∧ Tu p xs L i os ∧ Own wr w.heap.size (.slice (some ⟨w.heap.size, 0, none⟩) N N) os ∧ w.grownBy wr none) (fun v13 _ => n - (intOf v13).toNat)
  case atStart => exact ⟨0, _, rfl, by omega, U0.out, OW0.out, gb_alloc (gb_refl w none) _⟩
  case round =>
    clear U0 OW0
    obtain ⟨i, os, rfl, hi, T0, ow, G⟩ := hrel
    have TT := Lib.hid T0
    have OW := Lib.hid ow
    have GG := Lib.hid G
    have hol := T0.len
    clear T0 ow
    by_cases hin : i < n
    · obtain ⟨ba, oa, rfl, hca⟩ := a4 (by omega)
      have ci := gb_cell0 G (hca i hin)
      have xw := rd_w XD.out i
      have st := US.out i os TT.out (by omega)
      have vl := RVL.out i (by omega)
      have ve := RVE.out i (by omega)
      obtain ⟨x, hx⟩ : ∃ x, x = rd xs i := ⟨_, rfl⟩
      obtain ⟨V, hV⟩ : ∃ V, V = rv L i := ⟨_, rfl⟩
      obtain ⟨R, hR⟩ : ∃ R, R = rev64 i := ⟨_, rfl⟩
      rw [← hx] at ci xw st
      rw [← hV] at st vl ve
      have RC := fun w => rev64_c w i (by omega)
      rw [← hR] at RC ve
      have eV : (R : Int) / 2 ^ K = (V : Int) := by
        have e : (R : Int) / 2 ^ K = ((R / 2 ^ K : Nat) : Int) := by rw [Int.natCast_ediv, Int.natCast_pow]; rfl
        rw [e, ve]
      have hF : Canon.SF [(⟨t, 2, none⟩, .int .i64 L), (⟨t, 0, none⟩, .pointer (some ⟨g, 0, none⟩))] wr := Canon.sf_cons (gb_cell0 G C2.out) (Canon.sf_cons (gb_cell0 G C0.out) (Canon.sf_nil _))
      have x0 := xw.1
      have HF := Lib.hid hF
      have ST := Lib.hid st
      have HRC := Lib.hid RC
      have EV := Lib.hid eV
      clear hx hV hR st ve RC hF G hca a4 xw eV
      go_wp2
      clear ci
      refine Canon.region_held [25, 32] _ (by kernel_rfl) (by kernel_rfl) HF.out ?_
      refine Canon.segs_at 3 _ _ _ (by kernel_rfl) ?_
      simp only [List.take_succ_cons, List.take_zero, List.drop_succ_cons, List.drop_zero]
      go_wp2_with fail
      refine (HRC.out _).mono ?_
      rintro e wa ⟨rfl, hwa⟩
      subst hwa
      have d2 := gb_cell0 (gb_drew GG.out) C2.out
      have d0 := gb_cell0 (gb_drew GG.out) C0.out
      go_wp2
      refine ⟨HF.out.drew, ?_⟩
      refine Canon.segs_at 12 _ _ _ (by kernel_rfl) ?_
      simp only [List.take_succ_cons, List.take_zero, List.drop_succ_cons, List.drop_zero]
      have eK := EK.out
      have eV := EV.out
      go_wp2_with fail
      refine (modRed_c _ g p x (MD.out.grown0 (gb_drew GG.out)) x0).mono ?_
      rintro e wb ⟨rfl, hwb⟩
      subst hwb
      clear d2 d0
      have f3 := OW.out.drew.free V
      have c3 := OW.out.drew.cell V (by rw [TT.out.len, ← HN.out]; exact vl)
      have m0 := Int.emod_nonneg x (show p ≠ 0 by omega)
      have m1 := Int.emod_lt_of_pos x hp0
      obtain ⟨y, hy⟩ : ∃ y, y = x % p := ⟨_, rfl⟩
      rw [← hy] at m0 m1 ⊢
      have HY := Lib.hid hy
      clear hy hol
      go_wp2
      have TL2 : t < wr.heap.size := by have := GG.out.size; have := TL.out; omega
      refine ⟨HF.out.drew, ?_⟩
      refine Canon.segs_at 1 _ _ _ (by kernel_rfl) ?_
      simp only [List.take_succ_cons, List.take_zero, List.drop_succ_cons, List.drop_zero]
      go_wp2
      have hS : Canon.SF [(⟨t, 2, none⟩, .int .i64 L), (⟨t, 0, none⟩, .pointer (some ⟨g, 0, none⟩))] (wr.drew.setCell ⟨w.heap.size, V, none⟩ (.int .u64 y)) := Canon.sf_grown HF.out.drew (gb_rowC (gb_refl _ (some w.heap.size)) V _) (fun q hq => by
        have := TL.out
        simp at hq
        rcases hq with rfl | rfl <;> (simp; omega))
      refine ⟨hS, ?_⟩
      clear hS
      refine Canon.segs_end _ _ _ (by kernel_rfl) ?_
      go_wp2
      refine ⟨by kernel_rfl, by kernel_rfl, by kernel_rfl, ?_⟩
      clear eK eV f3 c3
      go_wp2
      go_roundw
      case rel => exact ⟨i + 1, os.set V y, by go_num, by omega, by rw [HY.out]; exact ST.out, OW.out.drew.store V m0 (by omega), gb_set (gb_drew GG.out) (Nat.le_refl _) _⟩
      case measure => simp [intOf]; omega
    · obtain rfl : i = n := by omega
      clear a4 hol
      go_wp2
      go_ret
      exact ⟨_, os, rfl, OW.out, TT.out.rest (by rw [← HNN.out]; exact Nat.le_refl _) hl, Nat.le_refl _, GG.out⟩
end Go.Proofs.YtoiclkaecgpbbaaDoor

/- Transforms: level by level. -/
namespace Go.Proofs.YtoiclkaecgpbbaaDoor
open Go.RowKit

theorem tf_idx {N B S q j : Nat} (hN : N = 2 * B * S) (hq : q < S) (hj : j < B) : 2 * B * q + B + j < N ∧ 2 * B * q + j < N ∧ 2 * B * q + 2 * B ≤ N ∧ j * S < N / 2 := by
  have h1 : 2 * B * (q + 1) ≤ 2 * B * S := Nat.mul_le_mul_left _ hq
  rw [Nat.mul_add, Nat.mul_one, ← hN] at h1
  refine ⟨by omega, by omega, h1, ?_⟩
  have h2 : N / 2 = B * S := by rw [hN, Nat.mul_assoc, Nat.mul_div_cancel_left _ (by decide)]
  rw [h2]
  exact Nat.mul_lt_mul_of_pos_right hj (by omega)
theorem Mt.row {w w' : World} {g h : Nat} {a b : Int} {c : Mc} (m : Mt w g a b c) (o : w.grownBy w' (some h)) (hne : g ≠ h) : Mt w' g a b c := by
  have hb := o.block g (World.block_lt_of_cell? w _ m.c0) (by simpa using hne)
  have e : ∀ j, w'.cell? ⟨g, j, none⟩ = w.cell? ⟨g, j, none⟩ := fun j => World.cell?_of_block hb
  have f : ∀ j, w'.frozen? ⟨g, j, none⟩ = w.frozen? ⟨g, j, none⟩ := fun j => World.frozen?_of_block hb
  exact ⟨(e 0).trans m.c0, (e 1).trans m.c1, (e 2).trans m.c2, (f 0).trans m.f0, (f 1).trans m.f1, (f 2).trans m.f2, m.a0, m.b0, m.c0', fun j hj => (e j).trans (m.rest j hj)⟩
def BS (s B L : Nat) : Prop := B = 2 ^ s ∧ s ≤ L
def FQ (F B S q : Nat) : Prop := F = 2 * B * q ∧ q ≤ S
/-- A level's numbers. -/
theorem bs_facts {s B L N : Nat} (h : BS s B L) (hN : N = 2 ^ L) (hlt : B < N) : ∃ m S, L = s + m + 1 ∧ S = 2 ^ m ∧ N = 2 * B * S ∧ 0 < B ∧ 0 < S ∧ 2 ^ m * B = 2 ^ (L - 1) := by
  obtain ⟨hB, hs⟩ := h
  have hsL : s < L := by
    by_cases k : s < L
    · exact k
    · rw [show s = L by omega] at hB; omega
  refine ⟨L - s - 1, 2 ^ (L - s - 1), by omega, rfl, ?_, ?_, Nat.pow_pos (by decide), ?_⟩
  · rw [hN, hB, show L = (s + (L - s - 1)) + 1 by omega, Nat.pow_succ, Nat.pow_add]
    rw [show s + (L - s - 1) + 1 - s - 1 = L - s - 1 by omega]
    grind
  · rw [hB]; exact Nat.pow_pos (by decide)
  · rw [hB, ← Nat.pow_add]; congr 1; omega
set_option maxRecDepth 100000 in
set_option maxHeartbeats 16000000 in
theorem transform_c (W0 w : World) (t gm : Nat) (p r z rr a b : Int) (c : Mc) (L g cp : Nat) (v vs : Value) (f : Nat → Int) (xs : List Int) (G : W0.grownBy w (some gm)) (h : Pl W0 t gm p r z L) (hm : Mt w gm a b c) (hmw : gm < W0.heap.size) (ha : a ≤ 1000000000000000000)
    (hp : Pws W0 gm v vs p rr (2 ^ L / 2)) (_hr : 0 ≤ rr) (hn : L ≠ 0 → Cg p (rr ^ 2 ^ (L - 1)) (-1)) (ow : Own w W0.heap.size (.slice (some ⟨g, 0, none⟩) (2 ^ L) cp) xs) (lv : Lv p f rr L 0 xs) (_hcp : 2 ^ L ≤ cp) :
    Calls Tryd.prog 82 #[.pointer (some ⟨t, 0, none⟩), .slice (some ⟨g, 0, none⟩) (2 ^ L) cp, v, vs] w fun e w' => e = .returned (.tuple #[]) ∧ ∃ ys, Own w' W0.heap.size (.slice (some ⟨g, 0, none⟩) (2 ^ L) cp) ys ∧ Lv p f rr L L ys ∧
      Mt w' gm (a + ((2 ^ L / 2 * L : Nat) : Int)) b c ∧ W0.grownBy w' (some gm) := by
  have hL := h.L10
  obtain ⟨g0, h0, md, gne⟩ := h.gd
  have tne := h.tm
  obtain ⟨k1, k2, rfl, rfl, n1, n2, d1, d2⟩ := hp
  have hgb := ow.base_le
  obtain ⟨N, hN⟩ : ∃ N, N = 2 ^ L := ⟨_, rfl⟩
  have hN10 : N ≤ 1024 := by rw [hN]; exact Nat.pow_le_pow_right (by decide) hL
  rw [← hN] at ow d1 d2 ⊢
  have hp3 := md.pm.lo
  have hp' := md.pm.hi
  have C1 := Lib.hid h.c1
  have C2 := Lib.hid h.c2
  have C0 := Lib.hid h0
  have MD := Lib.hid md
  have D1 := Lib.hid d1
  have D2 := Lib.hid d2
  have LV := Lib.hid lv
  have OW := Lib.hid ow
  have GG := Lib.hid G
  have HM := Lib.hid hm
  have HN := Lib.hid hN
  have HNEG := Lib.hid hn
  have NE := Lib.hid (And.intro gne (And.intro tne (And.intro n1 n2)))
  have GB := Lib.hid hgb
  have c0 := gb_cell G h0 (by simpa using tne)
  clear lv ow G hm hN hn n1 n2 d1 d2 md h0 h gne tne
  go_enter Tryd.func82, Tryd.ntmps82
  go_wp2_with fail
  refine (modP_c _ g0 p (MD.out.grown GG.out (by have := NE.out.1; simpa using this))).mono ?_
  rintro e w' ⟨rfl, hw'⟩
  subst hw'
  clear c0
  go_wp2
  have BS0 : Hid (BS 0 1 L) := Lib.hid ⟨rfl, by omega⟩
  obtain ⟨w, rfl⟩ : ∃ w, w = w' := ⟨_, rfl⟩
  go_loopw [9] (fun v9 wr => ∃ (s B : Nat) (xs : List Int), v9 = .int .i64 B ∧ BS s B L ∧ Own wr W0.heap.size (.slice (some ⟨g, 0, none⟩) N cp) xs ∧ Lv p f rr L s xs ∧ Mt wr gm a b c ∧ W0.grownBy wr (some gm)) (fun v9 _ => N - (intOf v9).toNat)
  case atStart => exact ⟨0, 1, xs, rfl, BS0.out, OW.out, LV.out, HM.out, GG.out⟩
  case round =>
    clear BS0 OW LV HM GG
    obtain ⟨s, B, xs, rfl, bs, ow, lv, hm, G⟩ := hrel
    have OW := Lib.hid ow
    have LV := Lib.hid lv
    have HM := Lib.hid hm
    have GG := Lib.hid G
    have BSH := Lib.hid bs
    clear ow lv hm bs
    by_cases hlt : B < N
    · obtain ⟨m, S, e1, e2, e3, B0, S0, e4⟩ := bs_facts BSH.out HN.out hlt
      have eS : (N : Int) / (2 * (B : Int)) = (S : Int) := by
        have h1 : N / (2 * B) = S := by rw [e3]; exact Nat.mul_div_cancel_left _ (by omega)
        have h2 : (2 * (B : Int)) = ((2 * B : Nat) : Int) := by rw [Int.natCast_mul]; rfl
        rw [h2, ← Int.natCast_ediv, h1]
      have hB10 : B ≤ 1024 := by omega
      have hS10 : S ≤ 1024 := by
        have : 1 * S ≤ 2 * B * S := Nat.mul_le_mul_right _ (by omega)
        omega
      have hw : Cg p (rr ^ (2 ^ m * B)) (-1) := by rw [e4]; exact HNEG.out (by omega)
      have T0 := LV.out.tf e1
      rw [← HN.out, ← BSH.out.1] at T0
      have TF0 := Lib.hid T0
      have HW := Lib.hid hw
      have E1 := Lib.hid e1
      have E2 := Lib.hid e2
      have E3 := Lib.hid e3
      have FQ0 : Hid (FQ 0 B S 0) := Lib.hid ⟨by simp, by omega⟩
      have ES := Lib.hid eS
      have n2B : (2 * (B : Int)) ≠ 0 := by omega
      clear T0 hw e1 e2 e3 e4 LV G
      go_wp2
      clear eS n2B
      obtain ⟨wo, rfl⟩ : ∃ wo : World, wo = wr := ⟨_, rfl⟩
      go_loopw [11] (fun v11 wr => ∃ (q F : Nat) (xs : List Int), v11 = .int .i64 F ∧ FQ F B S q ∧ Own wr W0.heap.size (.slice (some ⟨g, 0, none⟩) N cp) xs ∧ Tf p f rr N B m q 0 xs ∧ Mt wr gm a b c ∧ W0.grownBy wr (some gm)) (fun v11 _ => N - (intOf v11).toNat)
      case atStart => exact ⟨0, 0, xs, rfl, FQ0.out, OW.out, TF0.out, HM.out, GG.out⟩
      case round =>
        clear FQ0 OW TF0 HM GG
        obtain ⟨q, F, xs, rfl, fq, ow, tf, hm, G⟩ := hrel
        have OW := Lib.hid ow
        have TF := Lib.hid tf
        have HM := Lib.hid hm
        have GG := Lib.hid G
        have FQH := Lib.hid fq
        clear ow tf hm fq
        by_cases hF : F < N
        · have hq : q < S := by
            obtain ⟨f1, f2⟩ := FQH.out
            by_cases k : q < S
            · exact k
            · rw [show q = S by omega, ← E3.out] at f1; omega
          have HQ := Lib.hid hq
          clear hq G
          go_wp2
          obtain ⟨wp, rfl⟩ : ∃ wp : World, wp = wr := ⟨_, rfl⟩
          go_loopw [12] (fun v12 wr => ∃ (j : Nat) (xs : List Int), v12 = .int .i64 j ∧ j ≤ B ∧ Own wr W0.heap.size (.slice (some ⟨g, 0, none⟩) N cp) xs ∧ Tf p f rr N B m q j xs ∧ Mt wr gm a b c ∧ W0.grownBy wr (some gm)) (fun v12 _ => B - (intOf v12).toNat)
          case atStart => exact ⟨0, xs, rfl, by omega, OW.out, TF.out, HM.out, GG.out⟩
          case round =>
            clear OW TF HM GG
            obtain ⟨j, xs, rfl, hj, ow, tf, hm, G⟩ := hrel
            have OW := Lib.hid ow
            have TF := Lib.hid tf
            have HM := Lib.hid hm
            have GG := Lib.hid G
            clear ow tf hm
            by_cases hjB : j < B
            · obtain ⟨f1, f2⟩ := FQH.out
              obtain ⟨x1, x2, x3, x4⟩ := tf_idx E3.out HQ.out hjB
              obtain ⟨I0, eI0⟩ : ∃ I, I = 2 * B * q + j := ⟨_, rfl⟩
              obtain ⟨I1, eI1⟩ : ∃ I, I = 2 * B * q + B + j := ⟨_, rfl⟩
              obtain ⟨J, eJ⟩ : ∃ J, J = j * S := ⟨_, rfl⟩
              rw [← eI0] at x2
              rw [← eI1] at x1
              rw [← eJ] at x4
              have i0 : (F : Int) + (j : Int) = (I0 : Int) := by rw [eI0, f1]; omega
              have i1 : (F : Int) + (B : Int) + (j : Int) = (I1 : Int) := by rw [eI1, f1]; omega
              have ij : (j : Int) * (S : Int) = (J : Int) := by rw [eJ, Int.natCast_mul]
              have len := TF.out.len
              have b0 := TF.out.bd I0
              have b1 := TF.out.bd I1
              have cx := OW.out.cell I0 (by rw [len]; exact x2)
              have cy := OW.out.cell I1 (by rw [len]; exact x1)
              have fx := OW.out.free I0
              have fy := OW.out.free I1
              have ct := gb_cell GG.out (D1.out J x4) (by have := NE.out.2.2.1; simpa using this)
              have cs := gb_cell GG.out (D2.out J x4) (by have := NE.out.2.2.2; simpa using this)
              have c0 := gb_cell GG.out C0.out (by have := NE.out.2.1; simpa using this)
              have t0 := Int.emod_nonneg (rr ^ J) (show p ≠ 0 by omega)
              have t1 := Int.emod_lt_of_pos (rr ^ J) (show 0 < p by omega)
              have stp := fun y u vv => TF.out.step hjB (by rw [← eI1]; exact x1) HW.out (y := y) (u := u) (v := vv)
              rw [← eI0, ← eI1, ← E2.out, Nat.mul_comm S j, ← eJ] at stp
              obtain ⟨x, hx⟩ : ∃ x, x = rd xs I0 := ⟨_, rfl⟩
              obtain ⟨y1, hy1⟩ : ∃ y, y = rd xs I1 := ⟨_, rfl⟩
              obtain ⟨tw, htw⟩ : ∃ y, y = rr ^ J % p := ⟨_, rfl⟩
              obtain ⟨sh, hsh⟩ : ∃ y, y = tw * 18446744073709551616 / p := ⟨_, rfl⟩
              rw [← hx] at cx b0 stp
              rw [← hy1] at cy b1 stp
              rw [← htw] at ct cs t0 t1
              rw [← hsh] at cs
              have SM := fun w (h : Md w g0 p) => modShoupMul_c w g0 p y1 tw sh h b1.1 t0 (by rw [hsh, Int.emod_eq_of_lt t0 t1])
              have y0' := Int.emod_nonneg (y1 * tw) (show p ≠ 0 by omega)
              have y1' := Int.emod_lt_of_pos (y1 * tw) (show 0 < p by omega)
              have yc : Cg p (y1 * tw % p) (y1 * rr ^ J) := (Cg.mod p _).trans (by rw [htw]; exact (Cg.mod p _).mull y1)
              obtain ⟨y, hy⟩ : ∃ y, y = y1 * tw % p := ⟨_, rfl⟩
              rw [← hy] at SM y0' y1' yc
              have stp2 := fun u vv => stp y u vv yc
              have HSM := Lib.hid SM
              have STP := Lib.hid stp2
              have x0 := b0.1
              have xl := b0.2
              have HI := Lib.hid (And.intro x1 x2)
              clear eI0 eI1 eJ len b0 b1 stp stp2 hx hy1 htw hsh SM yc hy f1 f2 x3 t0 t1 G
              go_wp2
              clear cx
              refine Canon.region_canon (by kernel_rfl) (by kernel_rfl) ?_
              go_wp2_with fail
              refine (HSM.out _ (MD.out.grown (gb_drew GG.out) (by have := NE.out.1; simpa using this))).mono ?_
              rintro e wa ⟨rfl, ga⟩
              have GA := gb_trans (gb_drew GG.out) (gb_none ga _)
              have OA := Lib.hid (OW.out.drew.grown0 ga)
              have MA := Lib.hid (HM.out.drew.grown ga)
              clear cy ct cs c0 fx fy HSM ga
              have fx := OA.out.free I0
              have fy := OA.out.free I1
              have cx := OA.out.cell I0 (by rw [TF.out.len]; exact HI.out.2)
              have cy := OA.out.cell I1 (by rw [TF.out.len]; exact HI.out.1)
              go_wp2
              refine ⟨by kernel_rfl, ?_⟩
              have hne : I0 ≠ I1 := by omega
              by_cases h1 : p ≤ x + y
              · by_cases h2 : x < y
                · have st := STP.out (x + y - p) (x + p - y) ⟨by omega, by omega⟩ ⟨by omega, by omega⟩ (by have := Cg.add_mult p (x + y) (-1); rw [show x + y + p * -1 = x + y - p by omega] at this; exact this) (by have := Cg.add_mult p (x - y) 1; rw [show x - y + p * 1 = x + p - y by omega] at this; exact this)
                  have ST := Lib.hid st
                  have k1 := OA.out.store I0 (x := (x + y - p)) (by omega) (by omega)
                  have k2 := k1.store I1 (x := (x + p - y)) (by omega) (by omega)
                  have g2 := gb_set (p := ⟨g, I1, none⟩) (gb_set (p := ⟨g, I0, none⟩) GA GB.out.1 (.int .u64 (x + y - p))) GB.out.1 (.int .u64 (x + p - y))
                  have m2 := (MA.out.row (gb_rowC (gb_refl _ (some g)) I0 (.int .u64 (x + y - p))) (by have := GB.out.1; omega)).row (gb_rowC (gb_refl _ (some g)) I1 (.int .u64 (x + p - y))) (by have := GB.out.1; omega)
                  have K := Lib.hid (And.intro k2 (And.intro g2 m2))
                  clear st k1 k2 g2 m2 GA
                  go_wp2
                  clear i0 i1 ij
                  go_roundw
                  case rel => exact ⟨j + 1, _, by go_num, by omega, K.out.1, ST.out, K.out.2.2, K.out.2.1⟩
                  case measure => simp [intOf]; omega
                · have st := STP.out (x + y - p) (x - y) ⟨by omega, by omega⟩ ⟨by omega, by omega⟩ (by have := Cg.add_mult p (x + y) (-1); rw [show x + y + p * -1 = x + y - p by omega] at this; exact this) (Cg.refl _ _)
                  have ST := Lib.hid st
                  have k1 := OA.out.store I0 (x := (x + y - p)) (by omega) (by omega)
                  have k2 := k1.store I1 (x := (x - y)) (by omega) (by omega)
                  have g2 := gb_set (p := ⟨g, I1, none⟩) (gb_set (p := ⟨g, I0, none⟩) GA GB.out.1 (.int .u64 (x + y - p))) GB.out.1 (.int .u64 (x - y))
                  have m2 := (MA.out.row (gb_rowC (gb_refl _ (some g)) I0 (.int .u64 (x + y - p))) (by have := GB.out.1; omega)).row (gb_rowC (gb_refl _ (some g)) I1 (.int .u64 (x - y))) (by have := GB.out.1; omega)
                  have K := Lib.hid (And.intro k2 (And.intro g2 m2))
                  clear st k1 k2 g2 m2 GA
                  go_wp2
                  clear i0 i1 ij
                  go_roundw
                  case rel => exact ⟨j + 1, _, by go_num, by omega, K.out.1, ST.out, K.out.2.2, K.out.2.1⟩
                  case measure => simp [intOf]; omega
              · by_cases h2 : x < y
                · have st := STP.out (x + y) (x + p - y) ⟨by omega, by omega⟩ ⟨by omega, by omega⟩ (Cg.refl _ _) (by have := Cg.add_mult p (x - y) 1; rw [show x - y + p * 1 = x + p - y by omega] at this; exact this)
                  have ST := Lib.hid st
                  have k1 := OA.out.store I0 (x := (x + y)) (by omega) (by omega)
                  have k2 := k1.store I1 (x := (x + p - y)) (by omega) (by omega)
                  have g2 := gb_set (p := ⟨g, I1, none⟩) (gb_set (p := ⟨g, I0, none⟩) GA GB.out.1 (.int .u64 (x + y))) GB.out.1 (.int .u64 (x + p - y))
                  have m2 := (MA.out.row (gb_rowC (gb_refl _ (some g)) I0 (.int .u64 (x + y))) (by have := GB.out.1; omega)).row (gb_rowC (gb_refl _ (some g)) I1 (.int .u64 (x + p - y))) (by have := GB.out.1; omega)
                  have K := Lib.hid (And.intro k2 (And.intro g2 m2))
                  clear st k1 k2 g2 m2 GA
                  go_wp2
                  clear i0 i1 ij
                  go_roundw
                  case rel => exact ⟨j + 1, _, by go_num, by omega, K.out.1, ST.out, K.out.2.2, K.out.2.1⟩
                  case measure => simp [intOf]; omega
                · have st := STP.out (x + y) (x - y) ⟨by omega, by omega⟩ ⟨by omega, by omega⟩ (Cg.refl _ _) (Cg.refl _ _)
                  have ST := Lib.hid st
                  have k1 := OA.out.store I0 (x := (x + y)) (by omega) (by omega)
                  have k2 := k1.store I1 (x := (x - y)) (by omega) (by omega)
                  have g2 := gb_set (p := ⟨g, I1, none⟩) (gb_set (p := ⟨g, I0, none⟩) GA GB.out.1 (.int .u64 (x + y))) GB.out.1 (.int .u64 (x - y))
                  have m2 := (MA.out.row (gb_rowC (gb_refl _ (some g)) I0 (.int .u64 (x + y))) (by have := GB.out.1; omega)).row (gb_rowC (gb_refl _ (some g)) I1 (.int .u64 (x - y))) (by have := GB.out.1; omega)
                  have K := Lib.hid (And.intro k2 (And.intro g2 m2))
                  clear st k1 k2 g2 m2 GA
                  go_wp2
                  clear i0 i1 ij
                  go_roundw
                  case rel => exact ⟨j + 1, _, by go_num, by omega, K.out.1, ST.out, K.out.2.2, K.out.2.1⟩
                  case measure => simp [intOf]; omega
            · obtain rfl : j = B := by omega
              have nx := TF.out.next (by omega)
              have fq : FQ (F + 2 * j) j S (q + 1) := by
                obtain ⟨f1, f2⟩ := FQH.out
                have := HQ.out
                exact ⟨by rw [f1, Nat.mul_add, Nat.mul_one], by omega⟩
              have NX := Lib.hid nx
              have FQN := Lib.hid fq
              clear nx fq G
              go_wp2
              go_roundw
              case rel => exact ⟨q + 1, F + 2 * j, xs, by go_num, FQN.out, OW.out, NX.out, HM.out, GG.out⟩
              case measure => simp [intOf]; omega
        · have hq : S ≤ q := by
            obtain ⟨f1, f2⟩ := FQH.out
            by_cases k : S ≤ q
            · exact k
            · have := Nat.mul_lt_mul_of_pos_left (show q < S by omega) (show 0 < 2 * B by omega)
              rw [← E3.out] at this; omega
          have nx : Lv p f rr L (s + 1) xs := by
            have h1 := TF.out
            rw [HN.out, BSH.out.1] at h1
            exact h1.lv E1.out (by rw [← E2.out]; exact hq)
          have bs : BS (s + 1) (2 * B) L := by
            have := BSH.out.1
            have := E1.out
            exact ⟨by rw [Nat.pow_succ, ← BSH.out.1, Nat.mul_comm], by omega⟩
          have NX := Lib.hid nx
          have BSN := Lib.hid bs
          clear nx bs hq G
          go_wp2
          go_roundw
          case rel => exact ⟨s + 1, 2 * B, xs, by go_num, BSN.out, OW.out, NX.out, HM.out, GG.out⟩
          case measure => simp [intOf]; omega
    · have hs : s = L := by
        obtain ⟨b1, b2⟩ := BSH.out
        by_cases k : s = L
        · exact k
        · have h1 : 2 ^ s < 2 ^ L := Nat.pow_lt_pow_right (by decide) (by omega)
          rw [← b1, ← HN.out] at h1; omega
      have lvl : Lv p f rr L L xs := by
        have := LV.out
        rw [hs] at this; exact this
      have LVL := Lib.hid lvl
      obtain ⟨H, hH⟩ : ∃ H, H = N / 2 := ⟨_, rfl⟩
      obtain ⟨Q, hQ⟩ : ∃ Q, Q = H * L := ⟨_, rfl⟩
      have eH : (N : Int) / 2 = (H : Int) := by omega
      have eQ : (H : Int) * (L : Int) = (Q : Int) := by rw [hQ, Int.natCast_mul]
      have hQ1 : Q ≤ 20480 := by
        rw [hQ]
        have := Nat.mul_le_mul (show H ≤ 1024 by omega) hL
        omega
      have c1 := gb_cell GG.out C1.out (by have := NE.out.2.1; simpa using this)
      have c2 := gb_cell GG.out C2.out (by have := NE.out.2.1; simpa using this)
      have HQ1 := Lib.hid hQ1
      have HQQ := Lib.hid hQ
      have HHH := Lib.hid hH
      clear lvl hs hH hQ G
      go_wp2
      refine Canon.region_canon (by kernel_rfl) (by kernel_rfl) ?_
      go_wp2_with fail
      refine (spend_c _ gm a b c (Q : Int) HM.out.drew (by omega) (by have := HQ1.out; omega)).mono ?_
      rintro e wa ⟨rfl, hm2, mo⟩
      have GF := gb_trans (gb_drew GG.out) mo.gb
      have OF := OW.out.drew.grown mo.gb (.inr (by have := GB.out.1; simp [Value.ownBlock]; omega))
      have ea : (if (Q : Int) > 0 then a + (Q : Int) else a) = a + (Q : Int) := by split <;> omega
      rw [ea] at hm2 ⊢
      clear c1 c2 eH eQ mo
      go_wp2
      refine ⟨by kernel_rfl, ?_⟩
      go_wp2
      go_end0
      exact ⟨rfl, xs, OF, LVL.out, by rw [← HHH.out, ← HQQ.out]; exact hm2, GF⟩
end Go.Proofs.YtoiclkaecgpbbaaDoor

/- Transforms: forward, inverse. -/
namespace Go.Proofs.YtoiclkaecgpbbaaDoor
open Go.RowKit

set_option maxRecDepth 100000 in
theorem forward_c (w : World) (t gm : Nat) (p r z a b : Int) (c : Mc) (L : Nat) (v : Value) (xs : List Int) (h : Pl w t gm p r z L) (hm : Mt w gm a b c) (ha : a ≤ 1000000000000000000) (hv : Sl w v xs) (hl : xs.length ≤ 2 ^ L) :
    Calls Tryd.prog 61 #[.pointer (some ⟨t, 0, none⟩), v] w fun e w' => ∃ g os, e = .returned (.slice (some ⟨g, 0, none⟩) (2 ^ L) (2 ^ L)) ∧ Own w' w.heap.size (.slice (some ⟨g, 0, none⟩) (2 ^ L) (2 ^ L)) os ∧ Lv p (rd xs) r L L os ∧
      Mt w' gm (a + ((2 ^ L / 2 * L : Nat) : Int)) b c ∧ w.heap.size ≤ g ∧ w.grownBy w' (some gm) := by
  have hgm : gm < w.heap.size := World.block_lt_of_cell? w _ hm.c0
  obtain ⟨v1, v2, u1, u2, u3⟩ := h.up
  have hp0 : 0 < p := by obtain ⟨_, _, md, _⟩ := h.gd; have := md.pm.lo; omega
  have H := Lib.hid h
  have HM := Lib.hid hm
  have HV := Lib.hid hv
  have HL := Lib.hid hl
  have U1 := Lib.hid u1
  have U2 := Lib.hid u2
  have U3 := Lib.hid u3
  clear h hm hv hl u1 u2 u3
  go_enter Tryd.func61, Tryd.ntmps61
  go_wp2_with fail
  refine (turned_c _ t gm p r z L v xs H.out HV.out HL.out).mono ?_
  rintro e w1 ⟨g, os, rfl, ow, tu, hg, g1⟩
  have OW := Lib.hid ow
  have TU := Lib.hid tu
  have G1 := Lib.hid g1
  have k1 := gb_cell0 g1 U1.out
  have k2 := gb_cell0 g1 U2.out
  clear ow tu g1
  go_wp2
  refine Canon.region_canon (by kernel_rfl) (by kernel_rfl) ?_
  go_wp2_with fail
  refine (transform_c w _ t gm p r z r a b c L g (2 ^ L) v1 v2 (rd xs) os (gb_drew (gb_none G1.out _)) H.out (HM.out.grown G1.out).drew hgm ha U3.out H.out.r0.1 H.out.neg OW.out.drew (TU.out.lv hp0 (Nat.le_refl _) r) (Nat.le_refl _)).mono ?_
  rintro e w2 ⟨rfl, ys, oy, ly, my, gy⟩
  clear k1 k2
  go_wp2
  refine ⟨by kernel_rfl, ?_⟩
  go_wp2
  go_ret
  exact ⟨g, ys, rfl, oy, ly, my, hg, gy⟩
set_option maxRecDepth 100000 in
theorem forwardT_c (w : World) (t gm : Nat) (p r z a b : Int) (c : Mc) (L : Nat) (v : Value) (xs : List Int) (h : Pl w t gm p r z L) (hm : Mt w gm a b c) (ha : a ≤ 1000000000000000000) (hv : Sl w v xs) (hl : xs.length = 2 ^ L) :
    Calls Tryd.prog 27 #[.pointer (some ⟨t, 0, none⟩), v] w fun e w' => ∃ g os, e = .returned (.tuple #[.slice (some ⟨g, 0, none⟩) (2 ^ L) (2 ^ L), .bool true]) ∧ Own w' w.heap.size (.slice (some ⟨g, 0, none⟩) (2 ^ L) (2 ^ L)) os ∧ Lv p (rd xs) r L L os ∧
      Mt w' gm (a + ((2 ^ L / 2 * L : Nat) : Int)) b c ∧ w.heap.size ≤ g ∧ w.grownBy w' (some gm) := by
  have S := size_c w t gm p r z L h
  have F := forward_c w t gm p r z a b c L v xs h hm ha hv (by omega)
  obtain ⟨A, cc, rfl, _, _⟩ := hv.form
  rw [hl] at F ⊢
  obtain ⟨N, hN⟩ : ∃ N, N = 2 ^ L := ⟨_, rfl⟩
  rw [← hN] at S F ⊢
  have HS := Lib.hid S
  have HF := Lib.hid F
  clear S F h hm hv hl hN
  go_enter Tryd.func27, Tryd.ntmps27
  go_wp2_with fail
  refine (HS.out).mono ?_
  rintro e w1 ⟨rfl, hw1⟩
  subst hw1
  go_wp2_with fail
  refine (HF.out).mono ?_
  rintro e w2 ⟨g, os, rfl, k⟩
  go_wp2
  go_ret2
  exact ⟨g, os, rfl, k⟩
theorem forwardF_c (w : World) (t gm : Nat) (p r z : Int) (L : Nat) (v : Value) (xs : List Int) (h : Pl w t gm p r z L) (hv : Sl w v xs) (hl : xs.length ≠ 2 ^ L) :
    Calls Tryd.prog 27 #[.pointer (some ⟨t, 0, none⟩), v] w fun e w' => e = .returned (.tuple #[.slice none 0 0, .bool false]) ∧ w' = w := by
  have S := size_c w t gm p r z L h
  obtain ⟨A, cc, rfl, _, _⟩ := hv.form
  obtain ⟨n, hn⟩ : ∃ n, n = xs.length := ⟨_, rfl⟩
  obtain ⟨N, hN⟩ : ∃ N, N = 2 ^ L := ⟨_, rfl⟩
  rw [← hN] at S hl
  rw [← hn] at hl ⊢
  have hne : ((n : Int) == (N : Int)) = false := by
    have : ¬ (n : Int) = (N : Int) := by omega
    simpa using this
  have HS := Lib.hid S
  clear S h hv hl hN hn
  go_enter Tryd.func27, Tryd.ntmps27
  go_wp2_with fail
  refine (HS.out).mono ?_
  rintro e w1 ⟨rfl, hw1⟩
  subst hw1
  go_wp2
  go_ret2
  exact ⟨rfl, rfl⟩
/-- What an inverse transform yields. -/
structure Iv (p : Int) (f : Nat → Int) (z : Int) (L : Nat) (os : List Int) : Prop where
  len : os.length = 2 ^ L
  bd : ∀ i, i < 2 ^ L → 0 ≤ rd os i ∧ rd os i < p
  v : ∀ i, i < 2 ^ L → Cg p (rd os i * ((2 ^ L : Nat) : Int)) (ft f z (2 ^ L) i)
structure IvI (p u : Int) (N i : Nat) (xs os : List Int) : Prop where
  len : os.length = N
  d : ∀ k, k < i → rd os k = rd xs k * u % p
  r : ∀ k, i ≤ k → rd os k = rd xs k
theorem IvI.step {p u : Int} {N i : Nat} {xs os : List Int} (h : IvI p u N i xs os) (hi : i < N) {y : Int} (hy : y = rd xs i * u % p) : IvI p u N (i + 1) xs (os.set i y) := by
  refine ⟨by rw [List.length_set, h.len], fun k hk => ?_, fun k hk => ?_⟩
  · by_cases e : i = k
    · subst e; rw [rd_set_self (by rw [h.len]; exact hi), hy]
    · rw [rd_set_ne e]; exact h.d k (by omega)
  · rw [rd_set_ne (by omega)]; exact h.r k (by omega)
theorem IvI.iv {p u z : Int} {f : Nat → Int} {L : Nat} {xs os : List Int} (h : IvI p u (2 ^ L) (2 ^ L) xs os) (lv : Lv p f z L L xs) (hp : 0 < p) (hu : Cg p (u * ((2 ^ L : Nat) : Int)) 1) : Iv p f z L os := by
  refine ⟨h.len, fun i hi => ?_, fun i hi => ?_⟩
  · rw [h.d i hi]; exact ⟨Int.emod_nonneg _ (by omega), Int.emod_lt_of_pos _ hp⟩
  · rw [h.d i hi]
    have h1 := (Cg.mod p (rd xs i * u)).mulr ((2 ^ L : Nat) : Int)
    rw [Int.mul_assoc] at h1
    have h2 := hu.mull (rd xs i)
    rw [Int.mul_one] at h2
    exact (h1.trans h2).trans (lv.ft i hi)
set_option maxRecDepth 100000 in
set_option maxHeartbeats 2000000 in
theorem inverse_c (w : World) (t gm : Nat) (p r z a b : Int) (c : Mc) (L : Nat) (v : Value) (xs : List Int) (h : Pl w t gm p r z L) (hm : Mt w gm a b c) (ha : a ≤ 100000000000000000) (hv : Sl w v xs) (hl : xs.length ≤ 2 ^ L) :
    Calls Tryd.prog 63 #[.pointer (some ⟨t, 0, none⟩), v] w fun e w' => ∃ g os, e = .returned (.slice (some ⟨g, 0, none⟩) (2 ^ L) (2 ^ L)) ∧ Own w' w.heap.size (.slice (some ⟨g, 0, none⟩) (2 ^ L) (2 ^ L)) os ∧ Iv p (rd xs) z L os ∧
      Mt w' gm (a + ((2 ^ L / 2 * L : Nat) : Int) + ((2 ^ L : Nat) : Int)) b c ∧ w.heap.size ≤ g ∧ w.grownBy w' (some gm) := by
  have hgm : gm < w.heap.size := World.block_lt_of_cell? w _ hm.c0
  obtain ⟨v1, v2, u1, u2, u3⟩ := h.dn
  obtain ⟨g0, m0, md, gne⟩ := h.gd
  obtain ⟨u, c7, un0, un1, uc⟩ := h.c7
  have hp0 : 0 < p := by have := md.pm.lo; omega
  have hp1 := md.pm.hi
  have zneg : L ≠ 0 → Cg p (z ^ 2 ^ (L - 1)) (-1) := fun k => inv_neg (w := r) ((Cg.of_eq (Int.mul_comm r z)).trans h.inv) (h.neg k)
  have H := Lib.hid h
  have HM := Lib.hid hm
  have HV := Lib.hid hv
  have HL := Lib.hid hl
  have U1 := Lib.hid u1
  have U2 := Lib.hid u2
  have U3 := Lib.hid u3
  have MD := Lib.hid md
  have M0 := Lib.hid m0
  have C7 := Lib.hid c7
  have UC := Lib.hid uc
  have ZN := Lib.hid zneg
  have tne := h.tm
  have NE := Lib.hid (And.intro gne tne)
  clear h hm hv hl u1 u2 u3 md m0 c7 uc zneg gne tne
  go_enter Tryd.func63, Tryd.ntmps63
  go_wp2_with fail
  refine (turned_c _ t gm p r z L v xs H.out HV.out HL.out).mono ?_
  rintro e w1 ⟨g, os, rfl, ow, tu, hg, g1⟩
  have OW := Lib.hid ow
  have TU := Lib.hid tu
  have G1 := Lib.hid g1
  have k1 := gb_cell0 g1 U1.out
  have k2 := gb_cell0 g1 U2.out
  clear ow tu g1
  go_wp2
  refine Canon.region_canon (by kernel_rfl) (by kernel_rfl) ?_
  go_wp2_with fail
  refine (transform_c w _ t gm p r z z a b c L g (2 ^ L) v1 v2 (rd xs) os (gb_drew (gb_none G1.out _)) H.out (HM.out.grown G1.out).drew hgm (by omega) U3.out H.out.z0.1 ZN.out OW.out.drew (TU.out.lv hp0 (Nat.le_refl _) z) (Nat.le_refl _)).mono ?_
  rintro e w2 ⟨rfl, ys, oy, ly, my, gy⟩
  clear k1 k2
  go_wp2
  refine ⟨by kernel_rfl, ?_⟩
  have ll := ly.len
  obtain ⟨N, hN⟩ : ∃ N, N = 2 ^ L := ⟨_, rfl⟩
  have hN10 : N ≤ 1024 := by rw [hN]; exact Nat.pow_le_pow_right (by decide) H.out.L10
  rw [← hN] at oy ll ⊢
  have HN := Lib.hid hN
  have OY := Lib.hid oy
  have LY := Lib.hid ly
  have MY := Lib.hid my
  have GY := Lib.hid gy
  have II : Hid (IvI p u N 0 ys ys) := Lib.hid ⟨ll, fun k hk => by omega, fun k _ => rfl⟩
  clear oy ly my gy ll hN
  go_wp2
  go_loopw [24] (fun v24 wr => ∃ (i : Nat) (zs : List Int), v24 = .int .i64 i ∧ i ≤ N ∧ IvI p u N i ys zs ∧ Own wr w.heap.size (.slice (some ⟨g, 0, none⟩) N N) zs ∧ Mt wr gm (a + ((2 ^ L / 2 * L : Nat) : Int)) b c ∧ w.grownBy wr (some gm)) (fun v24 _ => N - (intOf v24).toNat)
  case atStart => exact ⟨0, ys, rfl, by omega, II.out, OY.out, MY.out, GY.out⟩
  case round =>
    clear II OY MY GY
    obtain ⟨i, zs, rfl, hi, ii, oz, mz, G⟩ := hrel
    have II := Lib.hid ii
    have OZ := Lib.hid oz
    have MZ := Lib.hid mz
    have GG := Lib.hid G
    clear ii oz mz G
    by_cases hin : i < N
    · have cx := OZ.out.cell i (by rw [II.out.len]; exact hin)
      have hx := II.out.r i (Nat.le_refl _)
      have bx := LY.out.bd i
      rw [hx] at cx
      obtain ⟨x, ex⟩ : ∃ x, x = rd ys i := ⟨_, rfl⟩
      have st := II.out.step hin (y := x * u % p) (by rw [ex])
      rw [← ex] at cx bx
      have c0 := gb_cell GG.out M0.out (by have := NE.out.2; simpa using this)
      have c7 := gb_cell GG.out C7.out (by have := NE.out.2; simpa using this)
      have x0 := bx.1
      have ST := Lib.hid st
      clear hx bx ex st
      go_wp2
      refine Canon.region_canon (by kernel_rfl) (by kernel_rfl) ?_
      go_wp2_with fail
      refine (modMul_c _ g0 p x u (MD.out.grown (gb_drew GG.out) (by have := NE.out.1; simpa using this)) x0 un0).mono ?_
      rintro e wa ⟨rfl, ga⟩
      have y0 := Int.emod_nonneg (x * u) (show p ≠ 0 by omega)
      have y1 := Int.emod_lt_of_pos (x * u) hp0
      obtain ⟨y, ey⟩ : ∃ y, y = x * u % p := ⟨_, rfl⟩
      rw [← ey] at y0 y1 ⊢
      have EY := Lib.hid ey
      have OA := Lib.hid (OZ.out.drew.grown0 ga)
      have MA := Lib.hid (MZ.out.drew.grown ga)
      have GA := Lib.hid (gb_trans (gb_drew GG.out) (gb_none ga _))
      clear cx c0 c7 ey ga
      have fy := OA.out.free i
      have cy := OA.out.cell i (by rw [II.out.len]; exact hin)
      go_wp2
      refine ⟨by kernel_rfl, ?_⟩
      clear fy cy
      go_wp2
      go_roundw
      case rel => exact ⟨i + 1, zs.set i y, by go_num, by omega, by rw [EY.out]; exact ST.out, OA.out.store i y0 (by omega), MA.out.row (gb_rowC (gb_refl _ (some g)) i (.int .u64 y)) (by omega), gb_set (p := ⟨g, i, none⟩) GA.out hg _⟩
      case measure => simp [intOf]; omega
    · obtain rfl : i = N := by omega
      have iv : Iv p (rd xs) z L zs := by
        have h1 := II.out
        rw [HN.out] at h1
        exact h1.iv LY.out hp0 UC.out
      have IV := Lib.hid iv
      have c1 := gb_cell GG.out H.out.c1 (by have := NE.out.2; simpa using this)
      obtain ⟨a', ea⟩ : ∃ a', a' = a + ((2 ^ L / 2 * L : Nat) : Int) := ⟨_, rfl⟩
      have ha' : a' ≤ 1000000000000000000 := by
        have h1 := Nat.mul_le_mul (show i / 2 ≤ 1024 by omega) H.out.L10
        rw [HN.out] at h1
        rw [ea]; omega
      have mz := MZ.out
      rw [← ea] at mz
      have MZ2 := Lib.hid mz
      have EA := Lib.hid ea
      clear iv mz MZ ea
      go_wp2_with fail
      refine (spend_c _ gm a' b c (i : Int) MZ2.out (by omega) (by omega)).mono ?_
      rintro e wa ⟨rfl, hm2, mo⟩
      have GF := gb_trans GG.out mo.gb
      have OF := OZ.out.grown mo.gb (.inr (by simp [Value.ownBlock]; omega))
      have e2 : (if (i : Int) > 0 then a' + (i : Int) else a') = a' + (i : Int) := by split <;> omega
      rw [e2] at hm2 ⊢
      clear c1 mo
      go_wp2
      go_ret
      exact ⟨g, zs, by rw [← HN.out]; rfl, by rw [← HN.out]; exact OF, IV.out, by rw [← EA.out, ← HN.out]; exact hm2, hg, GF⟩
set_option maxRecDepth 100000 in
theorem inverseT_c (w : World) (t gm : Nat) (p r z a b : Int) (c : Mc) (L : Nat) (v : Value) (xs : List Int) (h : Pl w t gm p r z L) (hm : Mt w gm a b c) (ha : a ≤ 100000000000000000) (hv : Sl w v xs) (hl : xs.length = 2 ^ L) :
    Calls Tryd.prog 38 #[.pointer (some ⟨t, 0, none⟩), v] w fun e w' => ∃ g os, e = .returned (.tuple #[.slice (some ⟨g, 0, none⟩) (2 ^ L) (2 ^ L), .bool true]) ∧ Own w' w.heap.size (.slice (some ⟨g, 0, none⟩) (2 ^ L) (2 ^ L)) os ∧ Iv p (rd xs) z L os ∧
      Mt w' gm (a + ((2 ^ L / 2 * L : Nat) : Int) + ((2 ^ L : Nat) : Int)) b c ∧ w.heap.size ≤ g ∧ w.grownBy w' (some gm) := by
  have S := size_c w t gm p r z L h
  have F := inverse_c w t gm p r z a b c L v xs h hm ha hv (by omega)
  obtain ⟨A, cc, rfl, _, _⟩ := hv.form
  rw [hl] at F ⊢
  obtain ⟨N, hN⟩ : ∃ N, N = 2 ^ L := ⟨_, rfl⟩
  rw [← hN] at S F ⊢
  have HS := Lib.hid S
  have HF := Lib.hid F
  clear S F h hm hv hl hN
  go_enter Tryd.func38, Tryd.ntmps38
  go_wp2_with fail
  refine (HS.out).mono ?_
  rintro e w1 ⟨rfl, hw1⟩
  subst hw1
  go_wp2_with fail
  refine (HF.out).mono ?_
  rintro e w2 ⟨g, os, rfl, k⟩
  go_wp2
  go_ret2
  exact ⟨g, os, rfl, k⟩
end Go.Proofs.YtoiclkaecgpbbaaDoor

/- Transforms: sums of products. Plain. -/
namespace Go.Proofs.YtoiclkaecgpbbaaDoor
open Go.RowKit

theorem sumI_tail {f : Nat → Int} {n : Nat} : ∀ m, n ≤ m → (∀ t, n ≤ t → t < m → f t = 0) → sumI f m = sumI f n
  | 0, h, _ => by obtain rfl : n = 0 := by omega
                  rfl
  | m + 1, h, k => by
    by_cases e : n = m + 1
    · rw [e]
    · rw [sumI, sumI_tail m (by omega) (fun t a b => k t a (by omega)), k m (by omega) (by omega), Int.add_zero]
theorem sumI_mulr (c : Int) (f : Nat → Int) (n : Nat) : sumI f n * c = sumI (fun k => f k * c) n := by
  rw [Int.mul_comm, ← sumI_mul]
  exact sumI_congr _ fun k _ => Int.mul_comm _ _
theorem sumI_tri (g : Nat → Nat → Int) : ∀ M, sumI (fun i => sumI (fun t => g t (i - t)) (i + 1)) M = sumI (fun s => sumI (fun t => g s t) (M - s)) M
  | 0 => rfl
  | M + 1 => by
    have h0 : sumI (fun i => sumI (fun t => g t (i - t)) (i + 1)) (M + 1) = sumI (fun i => sumI (fun t => g t (i - t)) (i + 1)) M + sumI (fun t => g t (M - t)) (M + 1) := rfl
    rw [h0, sumI_tri g M]
    have h1 : sumI (fun s => sumI (fun t => g s t) (M + 1 - s)) (M + 1) = sumI (fun s => sumI (fun t => g s t) (M - s) + g s (M - s)) (M + 1) := by
      refine sumI_congr _ fun s hs => ?_
      rw [show M + 1 - s = (M - s) + 1 by omega, sumI]
    have h2 : sumI (fun s => sumI (fun t => g s t) (M - s)) (M + 1) = sumI (fun s => sumI (fun t => g s t) (M - s)) M := by
      show sumI (fun s => sumI (fun t => g s t) (M - s)) M + sumI (fun t => g M t) (M - M) = _
      rw [Nat.sub_self]
      exact Int.add_zero _
    rw [h1, sumI_add, h2]
/-- The k-th sum of products. -/
def cv (a b : Nat → Int) (k : Nat) : Int := sumI (fun t => a t * b (k - t)) (k + 1)
theorem ft_mul {a b : Nat → Int} {r : Int} {N : Nat} (h : ∀ s t, N ≤ s + t → a s * b t = 0) (k : Nat) : ft a r N k * ft b r N k = ft (cv a b) r N k := by
  have h1 : ft a r N k * ft b r N k = sumI (fun s => sumI (fun t => a s * r ^ (k * s) * (b t * r ^ (k * t))) N) N := by
    unfold ft
    rw [sumI_mulr]
    exact sumI_congr _ fun s _ => by rw [sumI_mul]
  have h2 : sumI (fun s => sumI (fun t => a s * r ^ (k * s) * (b t * r ^ (k * t))) N) N = sumI (fun s => sumI (fun t => a s * r ^ (k * s) * (b t * r ^ (k * t))) (N - s)) N := by
    refine sumI_congr _ fun s hs => ?_
    refine sumI_tail N (by omega) fun t h1 h2 => ?_
    have := h s t (by omega)
    calc a s * r ^ (k * s) * (b t * r ^ (k * t)) = (a s * b t) * (r ^ (k * s) * r ^ (k * t)) := by grind
      _ = 0 := by rw [this, Int.zero_mul]
  rw [h1, h2, ← sumI_tri (fun s t => a s * r ^ (k * s) * (b t * r ^ (k * t))) N]
  unfold ft cv
  refine sumI_congr _ fun i hi => ?_
  rw [sumI_mulr]
  refine sumI_congr _ fun t ht => ?_
  have e : r ^ (k * i) = r ^ (k * t) * r ^ (k * (i - t)) := by
    rw [← Int.pow_add, ← Nat.mul_add, show t + (i - t) = i by omega]
  rw [e]; grind
/-- What cyclic yields. -/
def Cy (p r z : Int) (L : Nat) (a b : Nat → Int) (cs : List Int) : Prop := ∃ xs ys ps, Lv p a r L L xs ∧ Lv p b r L L ys ∧ (∀ i, i < 2 ^ L → rd ps i = rd xs i * rd ys i % p) ∧ Iv p (rd ps) z L cs
theorem Cy.len {p r z : Int} {L : Nat} {a b : Nat → Int} {cs : List Int} (h : Cy p r z L a b cs) : cs.length = 2 ^ L := by
  obtain ⟨_, _, _, _, _, _, h⟩ := h; exact h.len
theorem Cy.is {p r z : Int} {L : Nat} {a b : Nat → Int} {cs : List Int} (po : p % 2 = 1) (p0 : 0 < p) (hi : Cg p (z * r) 1) (hn : L ≠ 0 → Cg p (r ^ 2 ^ (L - 1)) (-1)) (hz : ∀ s t, 2 ^ L ≤ s + t → a s * b t = 0) (h : Cy p r z L a b cs) (j : Nat) (hj : j < 2 ^ L) : rd cs j = cv a b j % p := by
  obtain ⟨xs, ys, ps, hx, hy, hp, iv⟩ := h
  have b := iv.bd j hj
  have e1 := ft_back (cv a _) (rd ps) (w := r) (z := z) ((Cg.of_eq (Int.mul_comm r z)).trans hi) hn (fun k hk => by
    rw [hp k hk]
    refine (Cg.mod p _).trans (((hx.ft k hk).mul (hy.ft k hk)).trans (Cg.of_eq (ft_mul hz k)))) j hj
  have e2 := (iv.v j hj).trans (e1.trans (Cg.of_eq (Int.mul_comm _ _)))
  rw [Int.natCast_pow] at e2
  exact (Cg.cancel po p0 L e2).eq_mod b.1 b.2
theorem rd_zero {al bs : List Int} {N : Nat} (h : al.length + bs.length ≤ N + 1) (s t : Nat) (hst : N ≤ s + t) : rd al s * rd bs t = 0 := by
  by_cases h1 : s < al.length
  · rw [rd_beyond (xs := bs) (by omega), Int.mul_zero]
  · rw [rd_beyond (xs := al) (by omega), Int.zero_mul]
structure PrI (p : Int) (xs ys : List Int) (N i : Nat) (os : List Int) : Prop where
  len : os.length = N
  lo : ∀ k, k < i → rd os k = rd xs k * rd ys k % p
  hi : ∀ k, i ≤ k → rd os k = rd xs k
theorem PrI.step {p : Int} {xs ys os : List Int} {N i : Nat} (h : PrI p xs ys N i os) (hi : i < N) {y : Int} (hy : y = rd xs i * rd ys i % p) : PrI p xs ys N (i + 1) (os.set i y) :=
  ⟨by rw [List.length_set, h.len], fun k hk => by
    by_cases e : k = i
    · subst e; rw [rd_set_self (by rw [h.len]; exact hi), hy]
    · rw [rd_set_ne (by omega)]; exact h.lo k (by omega), fun k hk => by rw [rd_set_ne (by omega)]; exact h.hi k (by omega)⟩
end Go.Proofs.YtoiclkaecgpbbaaDoor

/- Transforms: sums of products. -/
namespace Go.Proofs.YtoiclkaecgpbbaaDoor
open Go.RowKit

theorem forwardL_c (w : World) (t gm : Nat) (p r z a b : Int) (c : Mc) (L N : Nat) (hN : N = 2 ^ L) (v : Value) (xs : List Int) (h : Pl w t gm p r z L) (hm : Mt w gm a b c) (ha : a ≤ 1000000000000000000) (hv : Sl w v xs) (hl : xs.length ≤ N) :
    Calls Tryd.prog 61 #[.pointer (some ⟨t, 0, none⟩), v] w fun e w' => ∃ g os, e = .returned (.slice (some ⟨g, 0, none⟩) N N) ∧ Own w' w.heap.size (.slice (some ⟨g, 0, none⟩) N N) os ∧ Lv p (rd xs) r L L os ∧
      Mt w' gm (a + ((N / 2 * L : Nat) : Int)) b c ∧ w.heap.size ≤ g ∧ w.grownBy w' (some gm) := by
  subst hN
  exact forward_c w t gm p r z a b c L v xs h hm ha hv hl
theorem inverseL_c (w : World) (t gm : Nat) (p r z a b : Int) (c : Mc) (L N : Nat) (hN : N = 2 ^ L) (v : Value) (xs : List Int) (h : Pl w t gm p r z L) (hm : Mt w gm a b c) (ha : a ≤ 100000000000000000) (hv : Sl w v xs) (hl : xs.length ≤ N) :
    Calls Tryd.prog 63 #[.pointer (some ⟨t, 0, none⟩), v] w fun e w' => ∃ g os, e = .returned (.slice (some ⟨g, 0, none⟩) N N) ∧ Own w' w.heap.size (.slice (some ⟨g, 0, none⟩) N N) os ∧ Iv p (rd xs) z L os ∧
      Mt w' gm (a + ((N / 2 * L : Nat) : Int) + (N : Int)) b c ∧ w.heap.size ≤ g ∧ w.grownBy w' (some gm) := by
  subst hN
  exact inverse_c w t gm p r z a b c L v xs h hm ha hv hl
theorem half_le {N L : Nat} (hN : N = 2 ^ L) (hL : L ≤ 10) : N ≤ 1024 ∧ N / 2 * L ≤ 5120 := by
  have h1 : 2 ^ L ≤ 2 ^ 10 := Nat.pow_le_pow_right (by decide) hL
  have h2 : N / 2 * L ≤ 512 * 10 := Nat.mul_le_mul (by omega) hL
  omega
set_option maxRecDepth 100000 in
set_option maxHeartbeats 4000000 in
theorem cyclic_c (w : World) (t gm : Nat) (p r z a b : Int) (c : Mc) (L N : Nat) (hN : N = 2 ^ L) (va vb : Value) (al bs : List Int) (h : Pl w t gm p r z L) (hm : Mt w gm a b c) (ha : a ≤ 10000000000000000) (hva : Sl w va al) (hvb : Sl w vb bs) (hla : al.length ≤ N) (hlb : bs.length ≤ N) (hnb : ∀ b, vb.ownBlock = some b → b ≠ gm) :
    Calls Tryd.prog 87 #[.pointer (some ⟨t, 0, none⟩), va, vb] w fun e w' => ∃ g cs, e = .returned (.slice (some ⟨g, 0, none⟩) N N) ∧ Own w' w.heap.size (.slice (some ⟨g, 0, none⟩) N N) cs ∧ Cy p r z L (rd al) (rd bs) cs ∧
      Mt w' gm (a + ((3 * (N / 2 * L) + 2 * N : Nat) : Int)) b c ∧ w.heap.size ≤ g ∧ w.grownBy w' (some gm) := by
  have hgm : gm < w.heap.size := World.block_lt_of_cell? w _ hm.c0
  obtain ⟨hN10, hh⟩ := half_le hN h.L10
  obtain ⟨g0, m0, md, gne⟩ := h.gd
  have p3 := md.pm.lo
  have p62 := md.pm.hi
  obtain ⟨q, hq⟩ : ∃ q, q = N / 2 * L := ⟨_, rfl⟩
  have PL := Lib.hid h
  have MT := Lib.hid hm
  have HVA := Lib.hid hva
  have HVB := Lib.hid hvb
  have HN := Lib.hid hN
  have HQ := Lib.hid hq
  have LA := Lib.hid hla
  have LB := Lib.hid hlb
  have NB := Lib.hid hnb
  have NE := Lib.hid (And.intro gne h.tm)
  have MD := Lib.hid md
  have C0 := Lib.hid m0
  have C1 := Lib.hid h.c1
  have HGM := Lib.hid hgm
  rw [← hq]
  rw [← hq] at hh
  have a0 := hm.a0
  clear hva hvb hN hq hla hlb hnb h hm gne md m0 hgm
  go_enter Tryd.func87, Tryd.ntmps87
  go_wp2_with fail
  refine (forwardL_c w t gm p r z a b c L N HN.out va al PL.out MT.out (by omega) HVA.out LA.out).mono ?_
  rintro e w1 ⟨gx, xs, rfl, ox, lx, m1, hx, g1⟩
  have OX := Lib.hid ox
  have LX := Lib.hid lx
  have M1 := Lib.hid m1
  have G1 := Lib.hid g1
  have HX := Lib.hid hx
  have HVB1 := Lib.hid (HVB.out.grown g1 (fun b hb => by have := NB.out b hb; simpa using this))
  clear ox lx m1 g1 hx HVA HVB MT
  go_wp2_with fail
  refine (forwardL_c w1 t gm p r z _ b c L N HN.out vb bs (PL.out.grown G1.out) M1.out (by rw [← HQ.out]; omega) HVB1.out LB.out).mono ?_
  rintro e w2 ⟨gy, ys, rfl, oy, ly, m2, hy, g2⟩
  rw [← HQ.out] at m2
  have OY := Lib.hid oy
  have LY := Lib.hid ly
  have M2 := Lib.hid m2
  have G2 := Lib.hid (gb_trans G1.out g2)
  have NXY : Hid (gx ≠ gm ∧ gy ≠ gx ∧ gx ≠ t ∧ gx ≠ g0) := Lib.hid (by
    have h1 := HX.out; have h2 := HGM.out; have h3 := OX.out.base_le.2
    have h4 := World.block_lt_of_cell? w _ C0.out
    have h5 := World.block_lt_of_cell? w _ MD.out.c0
    simp at h4 h5; omega)
  have OX2 := Lib.hid (OX.out.past g2 NXY.out.1)
  have BX := Lib.hid (fun i => (LX.out.bd i))
  have BY := Lib.hid (fun i => (ly.bd i))
  have LXN : Hid (xs.length = N) := Lib.hid (by rw [LX.out.len, HN.out])
  have LYN : Hid (ys.length = N) := Lib.hid (by rw [ly.len, HN.out])
  have II : Hid (PrI p xs ys N 0 xs) := Lib.hid ⟨LXN.out, fun k hk => by omega, fun k _ => rfl⟩
  clear oy ly m2 g2 hy HVB1 M1 G1 OX
  go_wp2
  go_loopw [18] (fun v18 wr => ∃ (i : Nat) (os : List Int), v18 = .int .i64 i ∧ i ≤ N ∧ PrI p xs ys N i os ∧ Own wr w.heap.size (.slice (some ⟨gx, 0, none⟩) N N) os ∧ w2.grownBy wr (some gx)) (fun v18 _ => N - (intOf v18).toNat)
  case atStart => exact ⟨0, xs, rfl, by omega, II.out, OX2.out, gb_refl _ _⟩
  case round =>
    clear II OX2
    obtain ⟨i, os, rfl, hi, pi, ow, G⟩ := hrel
    have PI := Lib.hid pi
    have OW := Lib.hid ow
    have GG := Lib.hid G
    have GC : Hid (w.grownBy wr (some gm)) := Lib.hid (gb_new G2.out G (fun i hi => by cases hi; exact HX.out))
    clear pi ow G
    by_cases hin : i < N
    · have c1 := OW.out.cell i (by rw [PI.out.len]; exact hin)
      have c2 := gb_cell GG.out (OY.out.cell i (by rw [LYN.out]; exact hin)) (by have := NXY.out.2.1; simpa using this)
      have c0 := gb_cell GC.out C0.out (by have := NE.out.2; simpa using this)
      have bx := BX.out i
      have by' := BY.out i
      rw [PI.out.hi i (Nat.le_refl _)] at c1
      obtain ⟨x, ex⟩ : ∃ x, x = rd xs i := ⟨_, rfl⟩
      obtain ⟨y, ey⟩ : ∃ y, y = rd ys i := ⟨_, rfl⟩
      rw [← ex] at c1 bx
      rw [← ey] at c2 by'
      have EX := Lib.hid ex
      have EY := Lib.hid ey
      obtain ⟨x0, x1⟩ := bx
      obtain ⟨y0, y1⟩ := by'
      clear ex ey
      go_wp2
      refine Canon.region_canon (by kernel_rfl) (by kernel_rfl) ?_
      go_wp2_with fail
      refine (modMul_c _ g0 p x y (MD.out.grown (gb_drew GC.out) (by have := NE.out.1; simpa using this)) x0 y0).mono ?_
      rintro e wa ⟨rfl, ga⟩
      have u0 := Int.emod_nonneg (x * y) (show p ≠ 0 by omega)
      have u1 := Int.emod_lt_of_pos (x * y) (show 0 < p by omega)
      obtain ⟨u, eu⟩ : ∃ u, u = x * y % p := ⟨_, rfl⟩
      rw [← eu] at u0 u1 ⊢
      have EU := Lib.hid eu
      have OA := Lib.hid (OW.out.drew.grown0 ga)
      have GA := Lib.hid (gb_trans (gb_drew GG.out) (gb_none ga _))
      clear eu c0 c1 c2 ga OW GG GC
      have fr := OA.out.free i
      have ce := OA.out.cell i (by rw [PI.out.len]; exact hin)
      go_wp2
      refine ⟨by kernel_rfl, ?_⟩
      clear fr ce
      go_wp2
      go_roundw
      case rel => exact ⟨i + 1, os.set i u, by go_num, by omega, PI.out.step hin (by rw [EU.out, EX.out, EY.out]), OA.out.store i u0 (by omega), gb_rowC GA.out i _⟩
      case measure => simp [intOf]; omega
    · obtain rfl : i = N := by omega
      have c1 := gb_cell GC.out C1.out (by have := NE.out.2; simpa using this)
      have M3 := Lib.hid (M2.out.row GG.out (Ne.symm NXY.out.1))
      go_wp2_with fail
      refine (spend_c wr gm _ b c (i : Int) M3.out (by omega) (by omega)).mono ?_
      rintro e wb ⟨rfl, m4, mo⟩
      have e2 : (if (i : Int) > 0 then a + (q : Int) + (q : Int) + (i : Int) else a + (q : Int) + (q : Int)) = a + (q : Int) + (q : Int) + (i : Int) := by split <;> omega
      rw [e2] at m4 ⊢
      have M4 := Lib.hid m4
      have G4 := Lib.hid (gb_trans GC.out mo.gb)
      have OW4 := Lib.hid (OW.out.past mo.gb NXY.out.1)
      clear c1 m4 mo e2 M3 M2 OW
      go_wp2_with fail
      refine (inverseL_c wb t gm p r z _ b c L i HN.out _ os (PL.out.grown G4.out) M4.out (by omega) OW4.out.sl (by rw [PI.out.len]; exact Nat.le_refl _)).mono ?_
      rintro e wc ⟨gz, cs, rfl, oz, iv, m5, hz, g5⟩
      rw [← HQ.out] at m5
      have e3 : a + (q : Int) + (q : Int) + (i : Int) + (q : Int) + (i : Int) = a + ((3 * q + 2 * i : Nat) : Int) := by omega
      rw [e3] at m5
      have M5 := Lib.hid m5
      have OZ := Lib.hid oz
      have CY : Hid (Cy p r z L (rd al) (rd bs) cs) := Lib.hid ⟨xs, ys, os, LX.out, LY.out, fun j hj => PI.out.lo j (by rw [HN.out]; exact hj), iv⟩
      have GF := Lib.hid (gb_trans G4.out g5)
      have BZ : Hid (w.heap.size ≤ wb.heap.size ∧ wb.heap.size ≤ gz) := Lib.hid ⟨G4.out.size, hz⟩
      clear m5 oz iv hz g5 e3
      go_wp2
      go_ret
      exact ⟨gz, cs, rfl, OZ.out.mono BZ.out.1, CY.out, M5.out, Nat.le_trans BZ.out.1 BZ.out.2, GF.out⟩
set_option maxRecDepth 100000 in
set_option maxHeartbeats 4000000 in
theorem convP_c (w : World) (t gm : Nat) (p r z a b : Int) (c : Mc) (L N : Nat) (hN : N = 2 ^ L) (va vb : Value) (al bs : List Int) (h : Pl w t gm p r z L) (hm : Mt w gm a b c) (ha : a ≤ 10000000000000000) (hva : Sl w va al) (hvb : Sl w vb bs) (hla : 0 < al.length) (hlb : 0 < bs.length) (hl : al.length + bs.length ≤ N + 1) (hnb : ∀ b, vb.ownBlock = some b → b ≠ gm) :
    Calls Tryd.prog 67 #[.pointer (some ⟨t, 0, none⟩), va, vb] w fun e w' => ∃ g cs, e = .returned (.tuple #[.slice (some ⟨g, 0, none⟩) (al.length + bs.length - 1) N, .bool true]) ∧ Own w' w.heap.size (.slice (some ⟨g, 0, none⟩) N N) cs ∧ Cy p r z L (rd al) (rd bs) cs ∧
      Mt w' gm (a + ((3 * (N / 2 * L) + 2 * N : Nat) : Int)) b c ∧ w.heap.size ≤ g ∧ w.grownBy w' (some gm) := by
  have S := size_c w t gm p r z L h
  rw [← hN] at S
  have CC := cyclic_c w t gm p r z a b c L N hN va vb al bs h hm ha hva hvb (by omega) (by omega) hnb
  obtain ⟨A, ca, rfl, _, _⟩ := hva.form
  obtain ⟨B, cb, rfl, _, _⟩ := hvb.form
  obtain ⟨hN10, _⟩ := half_le hN h.L10
  obtain ⟨K, hK⟩ : ∃ K, K = 3 * (N / 2 * L) + 2 * N := ⟨_, rfl⟩
  rw [← hK] at CC ⊢
  obtain ⟨n, hn⟩ : ∃ n, n = al.length := ⟨_, rfl⟩
  obtain ⟨m, hm'⟩ : ∃ m, m = bs.length := ⟨_, rfl⟩
  rw [← hn] at CC hla hl ⊢
  rw [← hm'] at CC hlb hl ⊢
  have HS := Lib.hid S
  have HC := Lib.hid CC
  clear S CC h hm hva hvb hn hm' hN hK
  have n0 : ((n : Int) == 0) = false := by have : ¬ (n : Int) = 0 := by omega
                                           simpa using this
  have m0 : ((m : Int) == 0) = false := by have : ¬ (m : Int) = 0 := by omega
                                           simpa using this
  have d1 : decide ((n : Int) > (N : Int)) = false := decide_eq_false (by omega)
  have d2 : decide ((m : Int) > (N : Int) + 1 - (n : Int)) = false := decide_eq_false (by omega)
  go_enter Tryd.func67, Tryd.ntmps67
  go_wp2_with fail
  refine (HS.out).mono ?_
  rintro e w1 ⟨rfl, hw1⟩
  subst hw1
  go_wp2_with fail
  refine (HS.out).mono ?_
  rintro e w1 ⟨rfl, hw1⟩
  subst hw1
  go_wp2_with fail
  refine (HC.out).mono ?_
  rintro e w2 ⟨g, cs, rfl, k⟩
  have KK := Lib.hid k
  clear k n0 m0 d1 d2
  go_wp2
  go_ret2
  exact ⟨g, cs, by first | rfl | (congr; omega), KK.out⟩
end Go.Proofs.YtoiclkaecgpbbaaDoor

/- Three remainders: the number that has them. Plain. -/
namespace Go.Proofs.YtoiclkaecgpbbaaDoor

/-- x + p0 k has both remainders. -/
theorem crt_two {p0 p1 r0 r1 i k N : Int} (h0 : 0 < p0) (h1 : 0 < p1) (a0 : 0 ≤ r0) (a1 : r0 < p0) (hi : Cg p1 (i * p0) 1) (hk : k = (r1 - r0) % p1 * i % p1) (hN : N = p0 * k + r0) :
    0 ≤ k ∧ k < p1 ∧ 0 ≤ N ∧ N < p0 * p1 ∧ Cg p0 N r0 ∧ Cg p1 N r1 := by
  have k0 : 0 ≤ k := by rw [hk]; exact Int.emod_nonneg _ (by omega)
  have k1 : k < p1 := by rw [hk]; exact Int.emod_lt_of_pos _ h1
  have m0 : 0 ≤ p0 * k := Int.mul_nonneg (by omega) k0
  have m1 : p0 * k ≤ p0 * (p1 - 1) := Int.mul_le_mul_of_nonneg_left (by omega) (by omega)
  rw [Int.mul_sub, Int.mul_one] at m1
  refine ⟨k0, k1, by omega, by omega, ?_, ?_⟩
  · rw [hN, Int.add_comm]; exact Cg.add_mult p0 r0 k
  · have c1 : Cg p1 k ((r1 - r0) * i) := by
      rw [hk]; exact (Cg.mod p1 _).trans ((Cg.mod p1 (r1 - r0)).mulr i)
    have c2 : Cg p1 (p0 * k) (p0 * ((r1 - r0) * i)) := c1.mull p0
    have c3 : Cg p1 (p0 * ((r1 - r0) * i)) (r1 - r0) := by
      have := hi.mull (r1 - r0)
      rw [Int.mul_one] at this
      exact (Cg.of_eq (by grind)).trans this
    have c4 := (c2.trans c3).add (Cg.refl p1 r0)
    rw [hN]
    exact c4.trans (Cg.of_eq (by omega))
/-- And the third. -/
theorem crt_three {p0 p1 p2 r0 r1 r2 i k N M x j T : Int} (h0 : 0 < p0) (h1 : 0 < p1) (h2 : 0 < p2) (hM : M = p0 * p1) (n0 : 0 ≤ N) (n1 : N < M) (c0 : Cg p0 N r0) (c1 : Cg p1 N r1) (hx : Cg p2 x N)
    (hi : Cg p2 (i * M) 1) (hj : j = (r2 - x) % p2 * i % p2) (hT : T = M * j + N) (_hk : k = k) :
    0 ≤ j ∧ j < p2 ∧ 0 ≤ T ∧ T < M * p2 ∧ Cg p0 T r0 ∧ Cg p1 T r1 ∧ Cg p2 T r2 := by
  have j0 : 0 ≤ j := by rw [hj]; exact Int.emod_nonneg _ (by omega)
  have j1 : j < p2 := by rw [hj]; exact Int.emod_lt_of_pos _ h2
  have M0 : 0 < M := by rw [hM]; exact Int.mul_pos h0 h1
  have m0 : 0 ≤ M * j := Int.mul_nonneg (by omega) j0
  have m1 : M * j ≤ M * (p2 - 1) := Int.mul_le_mul_of_nonneg_left (by omega) (by omega)
  rw [Int.mul_sub, Int.mul_one] at m1
  refine ⟨j0, j1, by omega, by omega, ?_, ?_, ?_⟩
  · rw [hT, hM, Int.mul_assoc, Int.add_comm]; exact (Cg.add_mult p0 N _).trans c0
  · rw [hT, hM, Int.mul_comm p0, Int.mul_assoc, Int.add_comm]; exact (Cg.add_mult p1 N _).trans c1
  · have d1 : Cg p2 j ((r2 - N) * i) := by
      rw [hj]; exact (Cg.mod p2 _).trans (((Cg.mod p2 (r2 - x)).trans ((Cg.refl p2 r2).sub hx)).mulr i)
    have d2 : Cg p2 (M * j) (M * ((r2 - N) * i)) := d1.mull M
    have d3 : Cg p2 (M * ((r2 - N) * i)) (r2 - N) := by
      have := hi.mull (r2 - N)
      rw [Int.mul_one] at this
      exact (Cg.of_eq (by grind)).trans this
    have d4 := (d2.trans d3).add (Cg.refl p2 N)
    rw [hT]
    exact d4.trans (Cg.of_eq (by omega))
/-- The number of two words modulo the third. -/
theorem crt_x {p h l : Int} : Cg p ((h * 9223372036854775808 % p * 2 % p + l) % p) (h * 18446744073709551616 + l) := by
  refine (Cg.mod p _).trans (Cg.add ?_ (Cg.refl p l))
  refine (Cg.mod p _).trans (((Cg.mod p _).mulr 2).trans (Cg.of_eq ?_))
  omega
/-- The words of the sums. P: p0 k. A, C: the product's two words times j. -/
theorem crt_words {P r0 h l d hi lo A C a1 a0 b1 b0 o0 e0 mid e o1 e1 o2 T : Int} 
    (eh : hi = P / 18446744073709551616) (el : lo = P % 18446744073709551616) (e1l : l = (lo + r0) % 18446744073709551616) (ed : d = (lo + r0) / 18446744073709551616) (ehh : h = hi + d)
    (ea1 : a1 = A / 18446744073709551616) (ea0 : a0 = A % 18446744073709551616) (eb1 : b1 = C / 18446744073709551616) (eb0 : b0 = C % 18446744073709551616)
    (eo0 : o0 = (a0 + l) % 18446744073709551616) (ee0 : e0 = (a0 + l) / 18446744073709551616) (em : mid = (a1 + b0) % 18446744073709551616) (ee : e = (a1 + b0) / 18446744073709551616)
    (eo1 : o1 = (mid + h + e0) % 18446744073709551616) (ee1 : e1 = (mid + h + e0) / 18446744073709551616) (eo2 : o2 = b1 + e + e1) (hT : T = A + C * 18446744073709551616 + P + r0) :
    h * 18446744073709551616 + l = P + r0 ∧ o0 + 18446744073709551616 * (o1 + 18446744073709551616 * o2) = T := by
  constructor
  · omega
  · have f1 : h * 18446744073709551616 + l = P + r0 := by omega
    have f2 : A = a1 * 18446744073709551616 + a0 := by omega
    have f3 : C = b1 * 18446744073709551616 + b0 := by omega
    have f4 : a0 + l = e0 * 18446744073709551616 + o0 := by omega
    have f5 : a1 + b0 = e * 18446744073709551616 + mid := by omega
    have f6 : mid + h + e0 = e1 * 18446744073709551616 + o1 := by omega
    clear eh el e1l ed ea1 ea0 eb1 eb0 eo0 ee0 em ee eo1 ee1
    omega
/-- All the words. -/
structure CrtW (p0 p1 p2 i01 i2 hi lo r0 r1 r2 k P1 P0 l d h x j a1 a0 b1 b0 o0 e0 mid e o1 e1 be o2 : Int) : Prop where
  ek : (r1 - r0) % p1 * i01 % p1 = k
  eP1 : p0 * k / 18446744073709551616 = P1
  eP0 : p0 * k % 18446744073709551616 = P0
  el : (P0 + r0) % 18446744073709551616 = l
  ed : (P0 + r0) / 18446744073709551616 = d
  eh : P1 + d = h
  ex : (h * 9223372036854775808 % p2 * 2 % p2 + l) % p2 = x
  ej : (r2 - x) % p2 * i2 % p2 = j
  ea1 : lo * j / 18446744073709551616 = a1
  ea0 : lo * j % 18446744073709551616 = a0
  eb1 : hi * j / 18446744073709551616 = b1
  eb0 : hi * j % 18446744073709551616 = b0
  eo0 : (a0 + l) % 18446744073709551616 = o0
  ee0 : (a0 + l) / 18446744073709551616 = e0
  em : (a1 + b0) % 18446744073709551616 = mid
  ee : (a1 + b0) / 18446744073709551616 = e
  eo1 : (mid + h + e0) % 18446744073709551616 = o1
  ee1 : (mid + h + e0) / 18446744073709551616 = e1
  ebe : b1 + e = be
  eo2 : be + e1 = o2
  bk : 0 ≤ k ∧ k < p1
  bP1 : 0 ≤ P1 ∧ P1 < 18446744073709551616
  bP0 : 0 ≤ P0 ∧ P0 < 18446744073709551616
  bl : 0 ≤ l ∧ l < 18446744073709551616
  bd : 0 ≤ d ∧ d ≤ 1
  bh : 0 ≤ h ∧ h < 18446744073709551616
  bx : 0 ≤ x ∧ x < p2
  bj : 0 ≤ j ∧ j < p2
  ba1 : 0 ≤ a1 ∧ a1 < 18446744073709551616
  ba0 : 0 ≤ a0 ∧ a0 < 18446744073709551616
  bb1 : 0 ≤ b1 ∧ b1 < 18446744073709551616
  bb0 : 0 ≤ b0 ∧ b0 < 18446744073709551616
  bo0 : 0 ≤ o0 ∧ o0 < 18446744073709551616
  be0 : 0 ≤ e0 ∧ e0 ≤ 1
  bm : 0 ≤ mid ∧ mid < 18446744073709551616
  bee : 0 ≤ e ∧ e ≤ 1
  bo1 : 0 ≤ o1 ∧ o1 < 18446744073709551616
  be1 : 0 ≤ e1 ∧ e1 ≤ 1
  bbe : 0 ≤ be ∧ be < 18446744073709551616
  bo2 : 0 ≤ o2 ∧ o2 < 18446744073709551616
  vlt : o0 + 18446744073709551616 * (o1 + 18446744073709551616 * o2) < p0 * p1 * p2
  v0 : Cg p0 (o0 + 18446744073709551616 * (o1 + 18446744073709551616 * o2)) r0
  v1 : Cg p1 (o0 + 18446744073709551616 * (o1 + 18446744073709551616 * o2)) r1
  v2 : Cg p2 (o0 + 18446744073709551616 * (o1 + 18446744073709551616 * o2)) r2
theorem w_mod {A a : Int} (e : a = A % 18446744073709551616) : 0 ≤ a ∧ a < 18446744073709551616 := by omega
theorem w_div {A a M : Int} (e : a = A / 18446744073709551616) (h0 : 0 ≤ A) (h1 : A < 18446744073709551616 * M) : 0 ≤ a ∧ a < M := by omega
theorem w_le {a M : Int} (h : 0 ≤ a ∧ a < M) (k : M ≤ 18446744073709551616) : 0 ≤ a ∧ a < 18446744073709551616 := by omega
theorem w_car {A C a : Int} (e : a = (A + C) / 18446744073709551616) (h0 : 0 ≤ A ∧ A < 18446744073709551616) (h1 : 0 ≤ C ∧ C < 18446744073709551616) : 0 ≤ a ∧ a ≤ 1 := by omega
theorem w_car3 {A C D a : Int} (e : a = (A + C + D) / 18446744073709551616) (h0 : 0 ≤ A ∧ A < 18446744073709551616) (h1 : 0 ≤ C ∧ C < 18446744073709551616) (h2 : 0 ≤ D ∧ D ≤ 1) : 0 ≤ a ∧ a ≤ 1 := by omega
theorem om1 {N P r M : Int} (h : N = P + r) (h1 : N < M) (h2 : M ≤ 21267647932558653957237540927630737409) (h3 : 0 ≤ r) : P < 18446744073709551616 * 1152921504606846977 := by omega
theorem om2 {M : Int} (h2 : M ≤ 21267647932558653957237540927630737409) : M < 18446744073709551616 * 1152921504606846977 := by omega
theorem om3 {A lo : Int} (h : A ≤ lo * 4611686018427387904) (k : 0 ≤ lo ∧ lo < 18446744073709551616) : A < 18446744073709551616 * 18446744073709551616 := by omega
theorem om4 {C hi : Int} (h : C ≤ hi * 4611686018427387904) (k : 0 ≤ hi ∧ hi < 1152921504606846977) : C < 18446744073709551616 * 4611686018427387904 := by omega
theorem om5 {M hi lo : Int} (h : hi = M / 18446744073709551616) (k : lo = M % 18446744073709551616) : M = hi * 18446744073709551616 + lo := by omega
theorem om_add {a d h M : Int} (e : h = a + d) (k : 0 ≤ a ∧ a < M) (k2 : 0 ≤ d ∧ d ≤ 1) : 0 ≤ h ∧ h < M + 1 := by omega
theorem mul62 {a b : Int} (a0 : 0 ≤ a) (a1 : a < 4611686018427387904) (_b0 : 0 ≤ b) (b1 : b < 4611686018427387904) : a * b ≤ 21267647932558653957237540927630737409 := by
  have h2 : a * b ≤ 4611686018427387903 * 4611686018427387903 := Int.mul_le_mul (by omega) (by omega) _b0 (by decide)
  omega
theorem crt_all {p0 p1 p2 i01 i2 hi lo r0 r1 r2 : Int} (h0 : 3 ≤ p0) (h0' : p0 < 4611686018427387904) (h1 : 3 ≤ p1) (h1' : p1 < 4611686018427387904) (h2 : 3 ≤ p2) (h2' : p2 < 4611686018427387904)
    (ci : Cg p1 (i01 * p0) 1) (ci2 : Cg p2 (i2 * (p0 * p1)) 1) (ehi : hi = p0 * p1 / 18446744073709551616) (elo : lo = p0 * p1 % 18446744073709551616)
    (a0_ : 0 ≤ r0) (a1_ : r0 < p0) :
    ∃ k P1 P0 l d h x j a1 a0 b1 b0 o0 e0 mid e o1 e1 be o2, CrtW p0 p1 p2 i01 i2 hi lo r0 r1 r2 k P1 P0 l d h x j a1 a0 b1 b0 o0 e0 mid e o1 e1 be o2 := by
  obtain ⟨k, hk⟩ : ∃ k, k = (r1 - r0) % p1 * i01 % p1 := ⟨_, rfl⟩
  obtain ⟨N, hN⟩ : ∃ N, N = p0 * k + r0 := ⟨_, rfl⟩
  obtain ⟨k0, k1, n0, n1, c0, c1⟩ := crt_two (p0 := p0) (p1 := p1) (r0 := r0) (r1 := r1) (by omega) (by omega) a0_ a1_ ci hk hN
  have m0 : 0 ≤ p0 * k := Int.mul_nonneg (by omega) k0
  have m1 := mul62 (a := p0) (b := p1) (by omega) h0' (by omega) h1'
  have m2 : 0 ≤ p0 * p1 := Int.mul_nonneg (by omega) (by omega)
  obtain ⟨M, hM⟩ : ∃ M, M = p0 * p1 := ⟨_, rfl⟩
  rw [← hM] at ehi elo m1 m2 n1 ci2
  obtain ⟨P, hP⟩ : ∃ P, P = p0 * k := ⟨_, rfl⟩
  rw [← hP] at hN m0
  obtain ⟨P1, eP1⟩ : ∃ y, y = P / 18446744073709551616 := ⟨_, rfl⟩
  obtain ⟨P0, eP0⟩ : ∃ y, y = P % 18446744073709551616 := ⟨_, rfl⟩
  obtain ⟨l, el⟩ : ∃ y, y = (P0 + r0) % 18446744073709551616 := ⟨_, rfl⟩
  obtain ⟨d, ed⟩ : ∃ y, y = (P0 + r0) / 18446744073709551616 := ⟨_, rfl⟩
  obtain ⟨h, eh⟩ : ∃ y, y = P1 + d := ⟨_, rfl⟩
  obtain ⟨x, ex⟩ : ∃ y, y = (h * 9223372036854775808 % p2 * 2 % p2 + l) % p2 := ⟨_, rfl⟩
  obtain ⟨j, ej⟩ : ∃ y, y = (r2 - x) % p2 * i2 % p2 := ⟨_, rfl⟩
  have x0 : 0 ≤ x := by rw [ex]; exact Int.emod_nonneg _ (by omega)
  have x1 : x < p2 := by rw [ex]; exact Int.emod_lt_of_pos _ (by omega)
  have j0 : 0 ≤ j := by rw [ej]; exact Int.emod_nonneg _ (by omega)
  have j1 : j < p2 := by rw [ej]; exact Int.emod_lt_of_pos _ (by omega)
  obtain ⟨A, hA⟩ : ∃ y, y = lo * j := ⟨_, rfl⟩
  obtain ⟨C, hC⟩ : ∃ y, y = hi * j := ⟨_, rfl⟩
  have A0 : 0 ≤ A := by rw [hA]; exact Int.mul_nonneg (by omega) j0
  have C0 : 0 ≤ C := by rw [hC]; exact Int.mul_nonneg (by omega) j0
  have A1 : A ≤ lo * 4611686018427387904 := by rw [hA]; exact Int.mul_le_mul_of_nonneg_left (by omega) (by omega)
  have C1 : C ≤ hi * 4611686018427387904 := by rw [hC]; exact Int.mul_le_mul_of_nonneg_left (by omega) (by omega)
  obtain ⟨a1, ea1⟩ : ∃ y, y = A / 18446744073709551616 := ⟨_, rfl⟩
  obtain ⟨a0, ea0⟩ : ∃ y, y = A % 18446744073709551616 := ⟨_, rfl⟩
  obtain ⟨b1, eb1⟩ : ∃ y, y = C / 18446744073709551616 := ⟨_, rfl⟩
  obtain ⟨b0, eb0⟩ : ∃ y, y = C % 18446744073709551616 := ⟨_, rfl⟩
  obtain ⟨o0, eo0⟩ : ∃ y, y = (a0 + l) % 18446744073709551616 := ⟨_, rfl⟩
  obtain ⟨e0, ee0⟩ : ∃ y, y = (a0 + l) / 18446744073709551616 := ⟨_, rfl⟩
  obtain ⟨mid, em⟩ : ∃ y, y = (a1 + b0) % 18446744073709551616 := ⟨_, rfl⟩
  obtain ⟨e, ee⟩ : ∃ y, y = (a1 + b0) / 18446744073709551616 := ⟨_, rfl⟩
  obtain ⟨o1, eo1⟩ : ∃ y, y = (mid + h + e0) % 18446744073709551616 := ⟨_, rfl⟩
  obtain ⟨e1, ee1⟩ : ∃ y, y = (mid + h + e0) / 18446744073709551616 := ⟨_, rfl⟩
  obtain ⟨be, ebe⟩ : ∃ y, y = b1 + e := ⟨_, rfl⟩
  obtain ⟨o2, eo2⟩ : ∃ y, y = be + e1 := ⟨_, rfl⟩
  obtain ⟨T, hT⟩ : ∃ T, T = M * j + N := ⟨_, rfl⟩
  have hMl : M = hi * 18446744073709551616 + lo := om5 ehi elo
  have hT2 : T = A + C * 18446744073709551616 + P + r0 := by
    rw [hT, hMl, Int.add_mul, hN, hA, hC, Int.mul_assoc, Int.mul_comm 18446744073709551616 j, ← Int.mul_assoc]
    omega
  obtain ⟨w1, w2⟩ := crt_words (o2 := o2) eP1 eP0 el ed eh ea1 ea0 eb1 eb0 eo0 ee0 em ee eo1 ee1 (by rw [eo2, ebe]) hT2
  have cx : Cg p2 x N := by
    rw [hN, ← w1, ex]; exact crt_x
  obtain ⟨_, _, t0, t1, v0, v1, v2⟩ := crt_three (p0 := p0) (p1 := p1) (p2 := p2) (k := k) (by omega) (by omega) (by omega) hM n0 n1 c0 c1 cx ci2 ej hT rfl
  rw [← w2] at v0 v1 v2 t1
  have bP0 := w_mod eP0
  have bP1' := w_div (M := 1152921504606846977) eP1 m0 (om1 hN n1 m1 a0_)
  have bP1 := w_le bP1' (by decide)
  have bl := w_mod el
  have r0B : r0 < 18446744073709551616 := Int.lt_trans a1_ (Int.lt_trans h0' (by decide))
  have bd := w_car ed bP0 ⟨a0_, r0B⟩
  have bh := w_le (om_add eh bP1' bd) (by decide)
  have blo := w_mod elo
  have bhi := w_div (M := 1152921504606846977) ehi m2 (om2 m1)
  have ba1 := w_div (M := 18446744073709551616) ea1 A0 (om3 A1 blo)
  have ba0 := w_mod ea0
  have bb1' := w_div (M := 4611686018427387904) eb1 C0 (om4 C1 bhi)
  have bb1 := w_le bb1' (by decide)
  have bb0 := w_mod eb0
  have bo0 := w_mod eo0
  have be0 := w_car ee0 ba0 bl
  have bm := w_mod em
  have bee := w_car ee ba1 bb0
  have bo1 := w_mod eo1
  have be1 := w_car3 ee1 bm bh be0
  have bbe' := om_add ebe bb1' bee
  have bbe := w_le bbe' (by decide)
  have bo2 := w_le (om_add eo2 bbe' be1) (by decide)
  refine ⟨k, P1, P0, l, d, h, x, j, a1, a0, b1, b0, o0, e0, mid, e, o1, e1, be, o2, hk.symm, by rw [← hP, eP1], by rw [← hP, eP0], el.symm, ed.symm, eh.symm, ex.symm, ej.symm, by rw [← hA, ea1], by rw [← hA, ea0], by rw [← hC, eb1], by rw [← hC, eb0],
    eo0.symm, ee0.symm, em.symm, ee.symm, eo1.symm, ee1.symm, ebe.symm, eo2.symm, ⟨k0, k1⟩, bP1, bP0, bl, bd, bh, ⟨x0, x1⟩, ⟨j0, j1⟩, ba1, ba0, bb1, bb0, bo0, be0, bm, bee, bo1, be1, bbe, bo2, by rw [← hM]; exact t1, v0, v1, v2⟩
end Go.Proofs.YtoiclkaecgpbbaaDoor

/- Three residues: the numbers that are put together. -/
namespace Go.Proofs.YtoiclkaecgpbbaaDoor
open Go.RowKit

theorem wp_gen {P : Program} {c : Code} {Q : Exit → Act → World → Prop} {a : Act} {w : World} (R : World → Prop) (hR : R w) (h : ∀ w', R w' → c.wp P Q a w') : c.wp P Q a w := h w hR
def aggB (P : Program) (ty : TypeId) : Bool := match P.underlying ty with
  | some (.struct _) => true
  | some (.array ..) => true
  | _ => false
theorem aggB_spec {P : Program} {ty : TypeId} (h : aggB P ty = true) : ∃ d, P.underlying ty = some d ∧ (match d with | .struct _ | .array _ _ => true | _ => false) = true := by
  unfold aggB at h
  split at h
  · rename_i e; exact ⟨_, e, rfl⟩
  · rename_i e; exact ⟨_, e, rfl⟩
  · cases h
/-- A result that lies in memory. -/
theorem res_agg {P : Program} {fn : Func} {p : Tmp} {ty : TypeId} (h : fn.results = #[.cell p ty]) {tmps : Array Value} {w : World} {g : Nat} {l : List Value} (hc : Cs w g l) (hp : tmps.getD p undef = .pointer (some ⟨g, 0, none⟩))
    (ha : aggB P ty = true) (hi : (P.info? ty).map (·.size) = some l.length) :
    (results fn tmps).run P w = .ok (.agg l.toArray) w := by
  obtain ⟨d, hu, hd⟩ := aggB_spec ha
  have hl : (loadCells ⟨g, 0, none⟩ l.length).run P w = .ok l.toArray w :=
    run_loadCells_list (P := P) w ⟨g, 0, none⟩ l (fun j v hv => by
      have hadd : (⟨g, 0, none⟩ : Addr).add j = ⟨g, j, none⟩ := by unfold Addr.add; split <;> simp_all
      rw [hadd]
      exact hc.cell j hv)
  have hr : (loadVar ty ⟨g, 0, none⟩).run P w = .ok (.agg l.toArray) w := by
    cases hq : P.info? ty with
    | none => simp [hq] at hi
    | some i =>
      have hs : i.size = l.length := by simpa [hq] using hi
      have hagg : (isAgg ty).run P w = .ok true w := by
        unfold isAgg
        rw [Sem.run_bind, run_underlying hu w]
        cases d <;> simp_all
      simp [loadVar, Sem.run_bind, hagg, sizeOf, typeInfo, hq, hs, hl]
  have hp' : tmps[p]?.getD undef = .pointer (some ⟨g, 0, none⟩) := by simpa using hp
  simp [results, h, hp', asAddr, hr]
/-- The record of three primes. -/
structure Crt (w : World) (g : Nat) (p0 p1 p2 i01 i2 hi lo : Int) : Prop where
  q0 : Pm p0
  q1 : Pm p1
  q2 : Pm p2
  c0 : w.cell? ⟨g, 0, none⟩ = some (.int .u64 p0)
  c1 : w.cell? ⟨g, 1, none⟩ = some (.int .u64 p1)
  c2 : w.cell? ⟨g, 2, none⟩ = some (.int .u64 p2)
  m1 : ∃ g1, w.cell? ⟨g, 4, none⟩ = some (.pointer (some ⟨g1, 0, none⟩)) ∧ Md w g1 p1
  m2 : ∃ g2, w.cell? ⟨g, 5, none⟩ = some (.pointer (some ⟨g2, 0, none⟩)) ∧ Md w g2 p2
  c6 : w.cell? ⟨g, 6, none⟩ = some (.int .u64 i01)
  c7 : w.cell? ⟨g, 7, none⟩ = some (.int .u64 i2)
  c8 : w.cell? ⟨g, 8, none⟩ = some (.int .u64 hi)
  c9 : w.cell? ⟨g, 9, none⟩ = some (.int .u64 lo)
  i0 : 0 ≤ i01
  i1 : 0 ≤ i2
  ci : Cg p1 (i01 * p0) 1
  ci2 : Cg p2 (i2 * (p0 * p1)) 1
  ehi : hi = p0 * p1 / 18446744073709551616
  elo : lo = p0 * p1 % 18446744073709551616
theorem Crt.grown0 {w w' : World} {g : Nat} {p0 p1 p2 i01 i2 hi lo : Int} (h : Crt w g p0 p1 p2 i01 i2 hi lo) (k : w.grownBy w' none) : Crt w' g p0 p1 p2 i01 i2 hi lo := by
  obtain ⟨q0, q1, q2, c0, c1, c2, ⟨g1, m1, d1⟩, ⟨g2, m2, d2⟩, c6, c7, c8, c9, i0, i1, ci, ci2, ehi, elo⟩ := h
  exact ⟨q0, q1, q2, gb_cell0 k c0, gb_cell0 k c1, gb_cell0 k c2, ⟨g1, gb_cell0 k m1, d1.grown0 k⟩, ⟨g2, gb_cell0 k m2, d2.grown0 k⟩, gb_cell0 k c6, gb_cell0 k c7, gb_cell0 k c8, gb_cell0 k c9, i0, i1, ci, ci2, ehi, elo⟩
theorem crt_get {w : World} {g : Nat} {p0 p1 p2 i01 i2 hi lo : Int} (h : Crt w g p0 p1 p2 i01 i2 hi lo) : ∃ g1 g2, ∀ w', w.grownBy w' none →
    w'.cell? ⟨g, 4, none⟩ = some (.pointer (some ⟨g1, 0, none⟩)) ∧ Md w' g1 p1 ∧ w'.cell? ⟨g, 5, none⟩ = some (.pointer (some ⟨g2, 0, none⟩)) ∧ Md w' g2 p2 := by
  obtain ⟨g1, m1, d1⟩ := h.m1
  obtain ⟨g2, m2, d2⟩ := h.m2
  exact ⟨g1, g2, fun w' k => ⟨gb_cell0 k m1, d1.grown0 k, gb_cell0 k m2, d2.grown0 k⟩⟩
set_option maxRecDepth 100000 in
set_option maxHeartbeats 4000000 in
theorem crt3_c (w : World) (g : Nat) (p0 p1 p2 i01 i2 hi lo r0 r1 r2 : Int) (h : Crt w g p0 p1 p2 i01 i2 hi lo) (h0 : 0 ≤ r0) (h0' : r0 < p0) (h1 : 0 ≤ r1) (h2 : 0 ≤ r2) :
    Calls Tryd.prog 86 #[.pointer (some ⟨g, 0, none⟩), .int .u64 r0, .int .u64 r1, .int .u64 r2] w fun e w' => ∃ a b c, e = .returned (.agg #[.int .u64 a, .int .u64 b, .int .u64 c]) ∧
      (0 ≤ a ∧ a < 18446744073709551616) ∧ (0 ≤ b ∧ b < 18446744073709551616) ∧ (0 ≤ c ∧ c < 18446744073709551616) ∧
      a + 18446744073709551616 * (b + 18446744073709551616 * c) < p0 * p1 * p2 ∧ Cg p0 (a + 18446744073709551616 * (b + 18446744073709551616 * c)) r0 ∧ Cg p1 (a + 18446744073709551616 * (b + 18446744073709551616 * c)) r1 ∧ Cg p2 (a + 18446744073709551616 * (b + 18446744073709551616 * c)) r2 ∧ w.grownBy w' none := by
  obtain ⟨g1, g2, hm⟩ := crt_get h
  obtain ⟨k, P1, P0, l, d, hh, x, j, a1, a0, b1, b0, o0, e0, mid, e, o1, e1, be, o2, W⟩ := crt_all h.q0.lo h.q0.hi h.q1.lo h.q1.hi h.q2.lo h.q2.hi h.ci h.ci2 h.ehi h.elo h0 h0' (r1 := r1) (r2 := r2)
  have hN := h.elo
  have hl0 : 0 ≤ lo ∧ lo < 18446744073709551616 := by omega
  have hh0 : 0 ≤ hi ∧ hi < 18446744073709551616 := by
    have m1 := mul62 (a := p0) (b := p1) (by have := h.q0.lo; omega) h.q0.hi (by have := h.q1.lo; omega) h.q1.hi
    have m2 : 0 ≤ p0 * p1 := Int.mul_nonneg (by have := h.q0.lo; omega) (by have := h.q1.lo; omega)
    have := h.ehi
    omega
  have bp0 : 0 ≤ p0 ∧ p0 < 18446744073709551616 := by have := h.q0.lo; have := h.q0.hi; omega
  have bp1 : p1 < 18446744073709551616 := by have := h.q1.hi; omega
  have bp2 : p2 < 18446744073709551616 := by have := h.q2.hi; omega
  have A1 : ∀ w, (callFunc 88 #[.int .u64 P0, .int .u64 r0, .int .u64 0]).run Tryd.prog w = .ok (.value (.tuple #[.int .u64 l, .int .u64 d])) w := fun w => by
    rw [add64_run P0 r0 0 W.bP0.1 h0 (by decide) (by decide), Int.add_zero, W.el, W.ed]
  have A2 : ∀ w, (callFunc 88 #[.int .u64 a0, .int .u64 l, .int .u64 0]).run Tryd.prog w = .ok (.value (.tuple #[.int .u64 o0, .int .u64 e0])) w := fun w => by
    rw [add64_run a0 l 0 W.ba0.1 W.bl.1 (by decide) (by decide), Int.add_zero, W.eo0, W.ee0]
  have A3 : ∀ w, (callFunc 88 #[.int .u64 a1, .int .u64 b0, .int .u64 0]).run Tryd.prog w = .ok (.value (.tuple #[.int .u64 mid, .int .u64 e])) w := fun w => by
    rw [add64_run a1 b0 0 W.ba1.1 W.bb0.1 (by decide) (by decide), Int.add_zero, W.em, W.ee]
  have A4 : ∀ w, (callFunc 88 #[.int .u64 mid, .int .u64 hh, .int .u64 e0]).run Tryd.prog w = .ok (.value (.tuple #[.int .u64 o1, .int .u64 e1])) w := fun w => by
    rw [add64_run mid hh e0 W.bm.1 W.bh.1 W.be0.1 W.be0.2, W.eo1, W.ee1]
  have V1 : IntKind.u64.wrap (P1 + d) = hh := by rw [W.eh, IntKind.wrap_u64]; have := W.bh; omega
  have V2 : IntKind.u64.wrap (b1 + e) = be := by rw [W.ebe, IntKind.wrap_u64]; have := W.bbe; omega
  have V3 : IntKind.u64.wrap (be + e1) = o2 := by rw [W.eo2, IntKind.wrap_u64]; have := W.bo2; omega
  have HW := Lib.hid W
  have HC := Lib.hid h
  have HM := Lib.hid hm
  clear hm h W hN
  go_enter Tryd.func86, Tryd.ntmps86
  go_wp2
  have G1 := gb_alloc (gb_refl w none) (Obj.cells #[.int .u64 0, .int .u64 0, .int .u64 0] 34)
  refine wp_gen (fun W => w.grownBy W none ∧ Cs W w.heap.size [.int .u64 0, .int .u64 0, .int .u64 0] ∧ w.heap.size < W.heap.size) ⟨G1, cs_new _ _ _, by simp⟩ ?_
  rintro wa ⟨GA, CA, hsz⟩
  clear G1
  obtain ⟨f4, M1, f5, M2⟩ := HM.out wa GA
  have f6 := gb_cell0 GA HC.out.c6
  have hF : Canon.SF [(⟨g, 4, none⟩, .pointer (some ⟨g1, 0, none⟩)), (⟨g, 6, none⟩, .int .u64 i01)] wa := Canon.sf_cons f4 (Canon.sf_cons f6 (Canon.sf_nil _))
  have HF := Lib.hid hF
  have MM := Lib.hid M1
  clear hF M2 M1 f5 f6
  refine Canon.region_held [26, 38] _ (by kernel_rfl) (by kernel_rfl) HF.out ?_
  refine Canon.segs_at 12 _ _ _ (by kernel_rfl) ?_
  simp only [List.take_succ_cons, List.take_zero, List.drop_succ_cons, List.drop_zero]
  clear f4
  have f4 := gb_cell0 GA (HM.out w (gb_refl _ _)).1
  go_wp2_with fail
  refine (modSub_c _ g1 p1 r1 r0 MM.out.drew h1 h0).mono ?_
  rintro e wb ⟨rfl, gb⟩
  have G2 := gb_trans (gb_drew GA) gb
  clear f4
  have f6 := gb_cell0 G2 HC.out.c6
  go_wp2
  refine ⟨Canon.sf_grown0 HF.out.drew gb, ?_⟩
  refine Canon.segs_at 4 _ _ _ (by kernel_rfl) ?_
  simp only [List.take_succ_cons, List.take_zero, List.drop_succ_cons, List.drop_zero]
  go_wp2_with fail
  refine (modMul_c _ g1 p1 _ i01 (MM.out.drew.grown0 gb) (Int.emod_nonneg _ (by have := HC.out.q1.lo; omega)) HC.out.i0).mono ?_
  rintro e wc ⟨rfl, gc⟩
  rw [HW.out.ek]
  have G3 := gb_trans G2 gc
  clear f6
  go_wp2
  refine ⟨Canon.sf_grown0 (Canon.sf_grown0 HF.out.drew gb) gc, ?_⟩
  refine Canon.segs_end _ _ _ (by kernel_rfl) ?_
  go_wp2
  refine ⟨by kernel_rfl, by kernel_rfl, by kernel_rfl, ?_⟩
  have f0 := gb_cell0 G3 HC.out.c0
  have bk := HW.out.bk
  go_wp2_with fail
  refine (mul64_c p0 k bp0.1 bp0.2 bk.1 (by omega) _).mono ?_
  rintro e wd ⟨rfl, rfl⟩
  rw [HW.out.eP1, HW.out.eP0]
  clear f0
  have CB := CA.grown0 (gb_trans (gb_trans (gb_drew (gb_refl wa none)) gb) gc)
  have HCB := Lib.hid CB
  clear CB CA HF MM
  go_wp2
  refine wp_gen (fun W => W = wd) rfl ?_
  rintro we rfl
  obtain ⟨_, _, f5, M2⟩ := HM.out we G3
  have MM := Lib.hid M2
  have hF : Canon.SF [(⟨g, 5, none⟩, .pointer (some ⟨g2, 0, none⟩)), (⟨g, 5, none⟩, .pointer (some ⟨g2, 0, none⟩))] we := Canon.sf_cons f5 (Canon.sf_cons f5 (Canon.sf_nil _))
  have HF := Lib.hid hF
  have bh := HW.out.bh.1
  have bl := HW.out.bl.1
  clear hF M2
  refine Canon.region_held [63, 68] _ (by kernel_rfl) (by kernel_rfl) HF.out ?_
  refine Canon.segs_at 16 _ _ _ (by kernel_rfl) ?_
  simp only [List.take_succ_cons, List.take_zero, List.drop_succ_cons, List.drop_zero]
  go_wp2_with fail
  refine (modMul_c _ g2 p2 hh 9223372036854775808 MM.out.drew bh (by decide)).mono ?_
  rintro e wf ⟨rfl, gf⟩
  go_wp2
  refine ⟨Canon.sf_grown0 HF.out.drew gf, ?_⟩
  refine Canon.segs_at 0 _ _ _ (by kernel_rfl) ?_
  simp only [List.take_succ_cons, List.take_zero, List.drop_succ_cons, List.drop_zero]
  go_wp2_with fail
  refine (modMul_c _ g2 p2 _ 2 (MM.out.drew.grown0 gf) (Int.emod_nonneg _ (by have := HC.out.q2.lo; omega)) (by decide)).mono ?_
  rintro e wg ⟨rfl, gg⟩
  go_wp2
  refine ⟨Canon.sf_grown0 (Canon.sf_grown0 HF.out.drew gf) gg, ?_⟩
  refine Canon.segs_at 1 _ _ _ (by kernel_rfl) ?_
  simp only [List.take_succ_cons, List.take_zero, List.drop_succ_cons, List.drop_zero]
  go_wp2_with fail
  refine (modAdd_c _ g2 p2 _ l ((MM.out.drew.grown0 gf).grown0 gg) (Int.emod_nonneg _ (by have := HC.out.q2.lo; omega)) bl).mono ?_
  rintro e wh ⟨rfl, gh⟩
  rw [HW.out.ex]
  go_wp2
  refine ⟨Canon.sf_grown0 (Canon.sf_grown0 (Canon.sf_grown0 HF.out.drew gf) gg) gh, ?_⟩
  refine Canon.segs_end _ _ _ (by kernel_rfl) ?_
  go_wp2
  refine ⟨by kernel_rfl, by kernel_rfl, by kernel_rfl, ?_⟩
  have R4 := gb_trans (gb_trans (gb_trans (gb_drew (gb_refl we none)) gf) gg) gh
  have G4 := gb_trans G3 R4
  have HCC := Lib.hid (HCB.out.grown0 R4)
  clear HCB HF MM f5 R4
  go_wp2
  obtain ⟨_, _, f5, M2⟩ := HM.out wh G4
  have MM := Lib.hid M2
  have f7 := gb_cell0 G4 HC.out.c7
  have hF : Canon.SF [(⟨g, 5, none⟩, .pointer (some ⟨g2, 0, none⟩)), (⟨g, 7, none⟩, .int .u64 i2)] wh := Canon.sf_cons f5 (Canon.sf_cons f7 (Canon.sf_nil _))
  have HF := Lib.hid hF
  have bx := HW.out.bx.1
  clear hF M2 f7
  refine Canon.region_held [83, 95] _ (by kernel_rfl) (by kernel_rfl) HF.out ?_
  refine Canon.segs_at 12 _ _ _ (by kernel_rfl) ?_
  simp only [List.take_succ_cons, List.take_zero, List.drop_succ_cons, List.drop_zero]
  go_wp2_with fail
  refine (modSub_c _ g2 p2 r2 x MM.out.drew h2 bx).mono ?_
  rintro e wi ⟨rfl, gi⟩
  have G5 := gb_trans (gb_drew G4) gi
  clear f5
  have f7 := gb_cell0 G5 HC.out.c7
  go_wp2
  refine ⟨Canon.sf_grown0 HF.out.drew gi, ?_⟩
  refine Canon.segs_at 4 _ _ _ (by kernel_rfl) ?_
  simp only [List.take_succ_cons, List.take_zero, List.drop_succ_cons, List.drop_zero]
  go_wp2_with fail
  refine (modMul_c _ g2 p2 _ i2 (MM.out.drew.grown0 gi) (Int.emod_nonneg _ (by have := HC.out.q2.lo; omega)) HC.out.i1).mono ?_
  rintro e wj ⟨rfl, gj⟩
  rw [HW.out.ej]
  have G6 := gb_trans G5 gj
  clear f7
  go_wp2
  refine ⟨Canon.sf_grown0 (Canon.sf_grown0 HF.out.drew gi) gj, ?_⟩
  refine Canon.segs_end _ _ _ (by kernel_rfl) ?_
  go_wp2
  refine ⟨by kernel_rfl, by kernel_rfl, by kernel_rfl, ?_⟩
  have HCD := Lib.hid (HCC.out.grown0 (gb_trans (gb_trans (gb_drew (gb_refl wh none)) gi) gj))
  clear HF MM HCC
  have f9 := gb_cell0 G6 HC.out.c9
  have f8 := gb_cell0 G6 HC.out.c8
  have bj := HW.out.bj
  go_wp2_with fail
  refine (mul64_c lo j hl0.1 hl0.2 bj.1 (by omega) _).mono ?_
  rintro e wk ⟨rfl, rfl⟩
  rw [HW.out.ea1, HW.out.ea0]
  go_wp2_with fail
  refine (mul64_c hi j hh0.1 hh0.2 bj.1 (by omega) _).mono ?_
  rintro e wl ⟨rfl, rfl⟩
  rw [HW.out.eb1, HW.out.eb0]
  clear f9 f8
  have s0 := fun o => (HCD.out.grown0 (gb_alloc (gb_refl wl none) o)).cell 0 rfl
  have s1 := fun o => (HCD.out.grown0 (gb_alloc (gb_refl wl none) o)).cell 1 rfl
  have s2 := fun o => (HCD.out.grown0 (gb_alloc (gb_refl wl none) o)).cell 2 rfl
  have t0 := fun o => (HCD.out.grown0 (gb_alloc (gb_refl wl none) o)).free 0 rfl
  have t1 := fun o => (HCD.out.grown0 (gb_alloc (gb_refl wl none) o)).free 1 rfl
  have t2 := fun o => (HCD.out.grown0 (gb_alloc (gb_refl wl none) o)).free 2 rfl
  go_wp2
  have F := (((HCD.out.grown0 (gb_alloc (gb_refl wl none) (Obj.cells #[.int .u64 o0, .int .u64 o1, .int .u64 o2] 34))).set 0 (.int .u64 o0)).set 1 (.int .u64 o1)).set 2 (.int .u64 o2)
  have G7 := gb_set (p := ⟨w.heap.size, 2, none⟩) (gb_set (p := ⟨w.heap.size, 1, none⟩) (gb_set (p := ⟨w.heap.size, 0, none⟩) (gb_alloc G6 (Obj.cells #[.int .u64 o0, .int .u64 o1, .int .u64 o2] 34)) (Nat.le_refl _) (.int .u64 o0)) (Nat.le_refl _) (.int .u64 o1)) (Nat.le_refl _) (.int .u64 o2)
  (try simp only [Exit.inBlock, Exit.then])
  refine bodyPost_ret (res_agg rfl F rfl (by kernel_rfl) (by kernel_rfl)) rfl ?_
  exact ⟨o0, o1, o2, rfl, HW.out.bo0, HW.out.bo1, HW.out.bo2, HW.out.vlt, HW.out.v0, HW.out.v1, HW.out.v2, G7⟩
end Go.Proofs.YtoiclkaecgpbbaaDoor

/- Three residues: begun, Three. -/
namespace Go.Proofs.YtoiclkaecgpbbaaDoor
open Go.RowKit

set_option maxRecDepth 100000 in
theorem primeThree_c (w : World) (p0 p1 p2 : Int) (h0 : p0 = 180143985094819841) (h1 : p1 = 1945555039024054273) (h2 : p2 = 4179340454199820289) :
    Calls Tryd.prog 20 #[] w fun e w' => e = .returned (.agg #[.int .u64 p0, .int .i64 55, .int .u64 6, .int .u64 p1, .int .i64 56, .int .u64 5, .int .u64 p2, .int .i64 57, .int .u64 3]) ∧ w.grownBy w' none := by
  go_enter Tryd.func20, Tryd.ntmps20
  go_wp2
  (try simp only [Exit.inBlock, Exit.then])
  rw [← h0, ← h1, ← h2]
  refine bodyPost_ret (res_agg rfl (cs_new _ _ _) rfl (by kernel_rfl) (by kernel_rfl)) rfl ?_
  exact ⟨rfl, gb_alloc (gb_refl _ _) _⟩
set_option maxRecDepth 100000 in
set_option maxHeartbeats 4000000 in
theorem begun_c (w : World) (p0 p1 p2 : Int) (h0 : p0 = 180143985094819841) (h1 : p1 = 1945555039024054273) (h2 : p2 = 4179340454199820289) :
    Calls Tryd.prog 84 #[] w fun e w' => ∃ g i01 i2 hi lo, e = .returned (.pointer (some ⟨g, 0, none⟩)) ∧ Crt w' g p0 p1 p2 i01 i2 hi lo ∧ w.grownBy w' none := by
  have T := fun w => primeThree_c w p0 p1 p2 h0 h1 h2
  have q0 : Pm p0 := ⟨by omega, by omega, by omega⟩
  have q1 : Pm p1 := ⟨by omega, by omega, by omega⟩
  have q2 : Pm p2 := ⟨by omega, by omega, by omega⟩
  have n1 : Int.gcd p1 p0 = 1 := by subst h0 h1; decide
  have n2 : Int.gcd p2 (p0 * p1 % p2) = 1 := by subst h0 h1 h2; decide
  have b0 : 0 ≤ p0 ∧ p0 < 4611686018427387904 := by omega
  have b1 : 0 ≤ p1 ∧ p1 < 4611686018427387904 := by omega
  have b2 : 0 ≤ p2 ∧ p2 < 4611686018427387904 := by omega
  have HT := Lib.hid T
  have N1 := Lib.hid n1
  have N2 := Lib.hid n2
  have Q0 := Lib.hid q0
  have Q1 := Lib.hid q1
  have Q2 := Lib.hid q2
  clear T n1 n2 h0 h1 h2 q0 q1 q2
  go_enter Tryd.func84, Tryd.ntmps84
  go_wp2_with fail
  refine (HT.out _).mono ?_
  rintro e w1 ⟨rfl, g1⟩
  have C := (cs_new w _ _).grown0 g1
  have G1 := gb_trans (gb_alloc (gb_refl w none) _) g1
  have hgs : w.heap.size < w1.heap.size := by have := g1.size; simp at this; omega
  have ga : ∀ (W : World) j u, w.grownBy W none → w.grownBy (W.setCell ⟨w.heap.size, j, none⟩ u) none := fun W j u h => gb_set (p := ⟨w.heap.size, j, none⟩) h (Nat.le_refl _) u
  have md : ∀ (W : World) m p j u, Md W m p → w.heap.size < m → Md (W.setCell ⟨w.heap.size, j, none⟩ u) m p := fun W m p j u h hm => h.grown (gb_rowC (gb_refl W (some w.heap.size)) j u) (by simp; omega)
  have GA := Lib.hid ga
  have MD := Lib.hid md
  clear ga md
  have ix0 : ∀ w : World, (Instr.index 32 (.agg #[.int .u64 p0, .int .i64 55, .int .u64 6, .int .u64 p1, .int .i64 56, .int .u64 5, .int .u64 p2, .int .i64 57, .int .u64 3]) (.int .i64 0)).run Tryd.prog w = .ok (.agg #[.int .u64 p0, .int .i64 55, .int .u64 6]) w := fun w => by rfl
  have ix1 : ∀ w : World, (Instr.index 32 (.agg #[.int .u64 p0, .int .i64 55, .int .u64 6, .int .u64 p1, .int .i64 56, .int .u64 5, .int .u64 p2, .int .i64 57, .int .u64 3]) (.int .i64 1)).run Tryd.prog w = .ok (.agg #[.int .u64 p1, .int .i64 56, .int .u64 5]) w := fun w => by rfl
  have ix2 : ∀ w : World, (Instr.index 32 (.agg #[.int .u64 p0, .int .i64 55, .int .u64 6, .int .u64 p1, .int .i64 56, .int .u64 5, .int .u64 p2, .int .i64 57, .int .u64 3]) (.int .i64 2)).run Tryd.prog w = .ok (.agg #[.int .u64 p2, .int .i64 57, .int .u64 3]) w := fun w => by rfl
  go_wp2
  clear g1
  obtain ⟨g, hg⟩ : ∃ g, g = w.heap.size := ⟨_, rfl⟩
  rw [← hg] at C hgs GA MD ⊢
  have HG := Lib.hid hg
  clear hg
  refine wp_loop_rounds 4 ?_
  rw [rounds_succ]
  go_wp2
  obtain ⟨bx, hbx⟩ : ∃ b, b = w1.heap.size := ⟨_, rfl⟩
  rw [← hbx]
  refine wp_gen (fun W => w.grownBy W none ∧ Cs W g [.int .u64 0, .int .u64 0, .int .u64 0, .pointer none, .pointer none, .pointer none, .int .u64 0, .int .u64 0, .int .u64 0, .int .u64 0] ∧ Cs W bx [.int .u64 p0, .int .i64 55, .int .u64 6] ∧ g < bx ∧ bx < W.heap.size) ⟨gb_alloc G1 _, C.grown0 (gb_alloc (gb_refl _ _) _), by rw [hbx]; exact cs_new _ _ _, by omega, by rw [hbx]; simp⟩ ?_
  clear G1 C hbx hgs
  rintro w1a ⟨G1, C, X, hgb, hbs⟩
  have c1 := C.cell 0 rfl
  have c2 := C.free 0 rfl
  have c3 := X.cell 0 rfl
  refine Canon.region_canon (by kernel_rfl) (by kernel_rfl) ?_
  go_wp2
  refine ⟨by kernel_rfl, ?_⟩
  go_wp2
  refine wp_gen (fun W => w.grownBy W none ∧ Cs W g [.int .u64 p0, .int .u64 0, .int .u64 0, .pointer none, .pointer none, .pointer none, .int .u64 0, .int .u64 0, .int .u64 0, .int .u64 0] ∧ Cs W bx [.int .u64 p0, .int .i64 55, .int .u64 6] ∧ bx < W.heap.size) ⟨GA.out _ _ _ (gb_drew G1), C.drew.set 0 _, X.drew.other (by omega) _ _, by simpa using hbs⟩ ?_
  clear c1 c2 c3 G1 C X hbs
  rintro w1b ⟨G1, C, X, hbs⟩
  have c3 := X.cell 0 rfl
  refine Canon.region_canon (by kernel_rfl) (by kernel_rfl) ?_
  go_wp2_with fail
  refine (modNew_ok _ p0 Q0.out).mono ?_
  rintro e w1c ⟨m0, rfl, M0, hm0, gq⟩
  have c1 := (C.drew.grown0 gq).cell 3 rfl
  have c2 := (C.drew.grown0 gq).free 3 rfl
  have hmg0 : g < m0 := Nat.lt_trans hgb (Nat.lt_of_lt_of_le hbs hm0)
  clear c3 hm0
  go_wp2
  refine ⟨by kernel_rfl, ?_⟩
  go_wp2
  rw [rounds_succ]
  refine wp_gen (fun W => w.grownBy W none ∧ Cs W g [.int .u64 p0, .int .u64 0, .int .u64 0, .pointer (some ⟨m0, 0, none⟩), .pointer none, .pointer none, .int .u64 0, .int .u64 0, .int .u64 0, .int .u64 0] ∧ g < W.heap.size ∧ Md W m0 p0) ⟨GA.out _ _ _ (gb_trans (gb_drew G1) gq), (C.drew.grown0 gq).set 3 _, by have := gq.size; simp at *; omega, MD.out _ _ _ _ _ M0 hmg0⟩ ?_
  clear c1 c2 G1 C X gq hbs hgb M0
  rintro w1x ⟨G1, C, hgs, M0⟩
  rw [← rounds_succ]
  rw [rounds_succ]
  go_wp2
  obtain ⟨bx, hbx⟩ : ∃ b, b = w1x.heap.size := ⟨_, rfl⟩
  rw [← hbx]
  refine wp_gen (fun W => w.grownBy W none ∧ Cs W g [.int .u64 p0, .int .u64 0, .int .u64 0, .pointer (some ⟨m0, 0, none⟩), .pointer none, .pointer none, .int .u64 0, .int .u64 0, .int .u64 0, .int .u64 0] ∧ Cs W bx [.int .u64 p1, .int .i64 56, .int .u64 5] ∧ g < bx ∧ bx < W.heap.size ∧ Md W m0 p0) ⟨gb_alloc G1 _, C.grown0 (gb_alloc (gb_refl _ _) _), by rw [hbx]; exact cs_new _ _ _, by omega, by rw [hbx]; simp, M0.grown0 (gb_alloc (gb_refl _ _) _)⟩ ?_
  clear G1 C hbx hgs M0
  rintro w1xa ⟨G1, C, X, hgb, hbs, M0⟩
  have c1 := C.cell 1 rfl
  have c2 := C.free 1 rfl
  have c3 := X.cell 0 rfl
  refine Canon.region_canon (by kernel_rfl) (by kernel_rfl) ?_
  go_wp2
  refine ⟨by kernel_rfl, ?_⟩
  go_wp2
  refine wp_gen (fun W => w.grownBy W none ∧ Cs W g [.int .u64 p0, .int .u64 p1, .int .u64 0, .pointer (some ⟨m0, 0, none⟩), .pointer none, .pointer none, .int .u64 0, .int .u64 0, .int .u64 0, .int .u64 0] ∧ Cs W bx [.int .u64 p1, .int .i64 56, .int .u64 5] ∧ bx < W.heap.size ∧ Md W m0 p0) ⟨GA.out _ _ _ (gb_drew G1), C.drew.set 1 _, X.drew.other (by omega) _ _, by simpa using hbs, MD.out _ _ _ _ _ M0.drew (by omega)⟩ ?_
  clear c1 c2 c3 G1 C X hbs M0
  rintro w1xb ⟨G1, C, X, hbs, M0⟩
  have c3 := X.cell 0 rfl
  refine Canon.region_canon (by kernel_rfl) (by kernel_rfl) ?_
  go_wp2_with fail
  refine (modNew_ok _ p1 Q1.out).mono ?_
  rintro e w1xc ⟨m1, rfl, M1, hm1, gq⟩
  have c1 := (C.drew.grown0 gq).cell 4 rfl
  have c2 := (C.drew.grown0 gq).free 4 rfl
  have hmg1 : g < m1 := Nat.lt_trans hgb (Nat.lt_of_lt_of_le hbs hm1)
  clear c3 hm1
  go_wp2
  refine ⟨by kernel_rfl, ?_⟩
  go_wp2
  rw [rounds_succ]
  refine wp_gen (fun W => w.grownBy W none ∧ Cs W g [.int .u64 p0, .int .u64 p1, .int .u64 0, .pointer (some ⟨m0, 0, none⟩), .pointer (some ⟨m1, 0, none⟩), .pointer none, .int .u64 0, .int .u64 0, .int .u64 0, .int .u64 0] ∧ g < W.heap.size ∧ Md W m0 p0 ∧ Md W m1 p1) ⟨GA.out _ _ _ (gb_trans (gb_drew G1) gq), (C.drew.grown0 gq).set 4 _, by have := gq.size; simp at *; omega, MD.out _ _ _ _ _ (M0.drew.grown0 gq) hmg0, MD.out _ _ _ _ _ M1 hmg1⟩ ?_
  clear c1 c2 G1 C X gq hbs hgb M0 M1
  rintro w1xx ⟨G1, C, hgs, M0, M1⟩
  rw [← rounds_succ]
  rw [rounds_succ]
  go_wp2
  obtain ⟨bx, hbx⟩ : ∃ b, b = w1xx.heap.size := ⟨_, rfl⟩
  rw [← hbx]
  refine wp_gen (fun W => w.grownBy W none ∧ Cs W g [.int .u64 p0, .int .u64 p1, .int .u64 0, .pointer (some ⟨m0, 0, none⟩), .pointer (some ⟨m1, 0, none⟩), .pointer none, .int .u64 0, .int .u64 0, .int .u64 0, .int .u64 0] ∧ Cs W bx [.int .u64 p2, .int .i64 57, .int .u64 3] ∧ g < bx ∧ bx < W.heap.size ∧ Md W m0 p0 ∧ Md W m1 p1) ⟨gb_alloc G1 _, C.grown0 (gb_alloc (gb_refl _ _) _), by rw [hbx]; exact cs_new _ _ _, by omega, by rw [hbx]; simp, M0.grown0 (gb_alloc (gb_refl _ _) _), M1.grown0 (gb_alloc (gb_refl _ _) _)⟩ ?_
  clear G1 C hbx hgs M0 M1
  rintro w1xxa ⟨G1, C, X, hgb, hbs, M0, M1⟩
  have c1 := C.cell 2 rfl
  have c2 := C.free 2 rfl
  have c3 := X.cell 0 rfl
  refine Canon.region_canon (by kernel_rfl) (by kernel_rfl) ?_
  go_wp2
  refine ⟨by kernel_rfl, ?_⟩
  go_wp2
  refine wp_gen (fun W => w.grownBy W none ∧ Cs W g [.int .u64 p0, .int .u64 p1, .int .u64 p2, .pointer (some ⟨m0, 0, none⟩), .pointer (some ⟨m1, 0, none⟩), .pointer none, .int .u64 0, .int .u64 0, .int .u64 0, .int .u64 0] ∧ Cs W bx [.int .u64 p2, .int .i64 57, .int .u64 3] ∧ bx < W.heap.size ∧ Md W m0 p0 ∧ Md W m1 p1) ⟨GA.out _ _ _ (gb_drew G1), C.drew.set 2 _, X.drew.other (by omega) _ _, by simpa using hbs, MD.out _ _ _ _ _ M0.drew (by omega), MD.out _ _ _ _ _ M1.drew (by omega)⟩ ?_
  clear c1 c2 c3 G1 C X hbs M0 M1
  rintro w1xxb ⟨G1, C, X, hbs, M0, M1⟩
  have c3 := X.cell 0 rfl
  refine Canon.region_canon (by kernel_rfl) (by kernel_rfl) ?_
  go_wp2_with fail
  refine (modNew_ok _ p2 Q2.out).mono ?_
  rintro e w1xxc ⟨m2, rfl, M2, hm2, gq⟩
  have c1 := (C.drew.grown0 gq).cell 5 rfl
  have c2 := (C.drew.grown0 gq).free 5 rfl
  have hmg2 : g < m2 := Nat.lt_trans hgb (Nat.lt_of_lt_of_le hbs hm2)
  clear c3 hm2
  go_wp2
  refine ⟨by kernel_rfl, ?_⟩
  go_wp2
  rw [rounds_succ]
  refine wp_gen (fun W => w.grownBy W none ∧ Cs W g [.int .u64 p0, .int .u64 p1, .int .u64 p2, .pointer (some ⟨m0, 0, none⟩), .pointer (some ⟨m1, 0, none⟩), .pointer (some ⟨m2, 0, none⟩), .int .u64 0, .int .u64 0, .int .u64 0, .int .u64 0] ∧ g < W.heap.size ∧ Md W m0 p0 ∧ Md W m1 p1 ∧ Md W m2 p2) ⟨GA.out _ _ _ (gb_trans (gb_drew G1) gq), (C.drew.grown0 gq).set 5 _, by have := gq.size; simp at *; omega, MD.out _ _ _ _ _ (M0.drew.grown0 gq) hmg0, MD.out _ _ _ _ _ (M1.drew.grown0 gq) hmg1, MD.out _ _ _ _ _ M2 hmg2⟩ ?_
  clear c1 c2 G1 C X gq hbs hgb M0 M1 M2
  rintro w1xxx ⟨G1, C, hgs, M0, M1, M2⟩
  have hm1 : g < m1 := by have := hmg1; omega
  have hm2 : g < m2 := by have := hmg2; omega
  clear M0 hgs
  have c4 := C.cell 4 rfl
  have c0 := C.cell 0 rfl
  go_wp2
  refine Canon.region_canon (by kernel_rfl) (by kernel_rfl) ?_
  go_wp2_with fail
  refine (modInv_c _ m1 p1 p0 M1.drew b0.1).mono ?_
  rintro e wd ⟨⟨i01, f, rfl, I⟩, gd⟩
  obtain ⟨rfl, i0, _, ci⟩ := I.is N1.out
  have c6 := (C.drew.grown0 gd).cell 6 rfl
  have f6 := (C.drew.grown0 gd).free 6 rfl
  clear c4 c0 I
  go_wp2
  refine ⟨by kernel_rfl, ?_⟩
  go_wp2
  refine wp_gen (fun W => w.grownBy W none ∧ Cs W g [.int .u64 p0, .int .u64 p1, .int .u64 p2, .pointer (some ⟨m0, 0, none⟩), .pointer (some ⟨m1, 0, none⟩), .pointer (some ⟨m2, 0, none⟩), .int .u64 i01, .int .u64 0, .int .u64 0, .int .u64 0] ∧ Md W m1 p1 ∧ Md W m2 p2) ⟨GA.out _ _ _ (gb_trans (gb_drew G1) gd), (C.drew.grown0 gd).set 6 _, MD.out _ _ _ _ _ (M1.drew.grown0 gd) hm1, MD.out _ _ _ _ _ (M2.drew.grown0 gd) hm2⟩ ?_
  clear c6 f6 G1 C M1 M2 gd
  rintro we ⟨G1, C, M1, M2⟩
  have c5 := C.cell 5 rfl
  have c0 := C.cell 0 rfl
  have c1 := C.cell 1 rfl
  have hF : Canon.SF [(⟨g, 5, none⟩, .pointer (some ⟨m2, 0, none⟩))] we := Canon.sf_cons c5 (Canon.sf_nil _)
  have HF := Lib.hid hF
  clear hF
  refine Canon.region_held [53] _ (by kernel_rfl) (by kernel_rfl) HF.out ?_
  refine Canon.segs_at 21 _ _ _ (by kernel_rfl) ?_
  simp only [List.take_succ_cons, List.take_zero, List.drop_succ_cons, List.drop_zero]
  go_wp2_with fail
  refine (modMul_c _ m2 p2 p0 p1 M2.drew b0.1 b1.1).mono ?_
  rintro e wf ⟨rfl, gf⟩
  clear c5 c0 c1
  go_wp2
  refine ⟨Canon.sf_grown0 HF.out.drew gf, ?_⟩
  refine Canon.segs_at 0 _ _ _ (by kernel_rfl) ?_
  simp only [List.take_succ_cons, List.take_zero, List.drop_succ_cons, List.drop_zero]
  go_wp2_with fail
  refine (modInv_c _ m2 p2 _ (M2.drew.grown0 gf) (Int.emod_nonneg _ (by have := Q2.out.lo; omega))).mono ?_
  rintro e wg ⟨⟨i2, f, rfl, I⟩, gg⟩
  obtain ⟨rfl, i1, _, ci2⟩ := I.is N2.out
  have CG := (C.drew.grown0 gf).grown0 gg
  have c7 := CG.cell 7 rfl
  have f7 := CG.free 7 rfl
  clear I
  go_wp2
  refine ⟨Canon.sf_grown0 (Canon.sf_grown0 HF.out.drew gf) gg, ?_⟩
  refine Canon.segs_at 5 _ _ _ (by kernel_rfl) ?_
  simp only [List.take_succ_cons, List.take_zero, List.drop_succ_cons, List.drop_zero]
  go_wp2
  refine ⟨Canon.sf_cons ((CG.set 7 _).cell 5 rfl) (Canon.sf_nil _), ?_⟩
  refine Canon.segs_end _ _ _ (by kernel_rfl) ?_
  go_wp2
  refine ⟨by kernel_rfl, by kernel_rfl, by kernel_rfl, ?_⟩
  go_wp2
  refine wp_gen (fun W => w.grownBy W none ∧ Cs W g [.int .u64 p0, .int .u64 p1, .int .u64 p2, .pointer (some ⟨m0, 0, none⟩), .pointer (some ⟨m1, 0, none⟩), .pointer (some ⟨m2, 0, none⟩), .int .u64 i01, .int .u64 i2, .int .u64 0, .int .u64 0] ∧ Md W m1 p1 ∧ Md W m2 p2) ⟨GA.out _ _ _ (gb_trans (gb_trans (gb_drew G1) gf) gg), CG.set 7 _, MD.out _ _ _ _ _ ((M1.drew.grown0 gf).grown0 gg) hm1, MD.out _ _ _ _ _ ((M2.drew.grown0 gf).grown0 gg) hm2⟩ ?_
  clear c7 f7 G1 C CG M1 M2 gf gg HF
  rintro wh ⟨G1, C, M1, M2⟩
  have c0 := C.cell 0 rfl
  have c1 := C.cell 1 rfl
  have c8 := C.cell 8 rfl
  have f8 := C.free 8 rfl
  have c9 := C.cell 9 rfl
  have f9 := C.free 9 rfl
  refine Canon.region_canon (by kernel_rfl) (by kernel_rfl) ?_
  go_wp2_with fail
  refine (mul64_c p0 p1 b0.1 (by omega) b1.1 (by omega) _).mono ?_
  rintro e wi ⟨rfl, hwi⟩
  subst hwi
  go_wp2
  refine ⟨by kernel_rfl, ?_⟩
  go_wp2
  have CF := ((C.set 8 (.int .u64 (p0 * p1 / 18446744073709551616))).set 9 (.int .u64 (p0 * p1 % 18446744073709551616))).drew
  have MA := (MD.out _ _ _ 9 (.int .u64 (p0 * p1 % 18446744073709551616)) (MD.out _ _ _ 8 (.int .u64 (p0 * p1 / 18446744073709551616)) M1 hm1) hm1).drew
  have MB := (MD.out _ _ _ 9 (.int .u64 (p0 * p1 % 18446744073709551616)) (MD.out _ _ _ 8 (.int .u64 (p0 * p1 / 18446744073709551616)) M2 hm2) hm2).drew
  have GF := gb_drew (GA.out _ 9 (.int .u64 (p0 * p1 % 18446744073709551616)) (GA.out _ 8 (.int .u64 (p0 * p1 / 18446744073709551616)) G1))
  have cj := ((Cg.mod p2 (p0 * p1)).mull i2).symm.trans ci2
  go_ret
  exact ⟨g, i01, i2, _, _, rfl, ⟨Q0.out, Q1.out, Q2.out, CF.cell 0 rfl, CF.cell 1 rfl, CF.cell 2 rfl, ⟨m1, CF.cell 4 rfl, MA⟩, ⟨m2, CF.cell 5 rfl, MB⟩, CF.cell 6 rfl, CF.cell 7 rfl, CF.cell 8 rfl, CF.cell 9 rfl, i0, i1, ci, cj, rfl, rfl⟩, GF⟩
end Go.Proofs.YtoiclkaecgpbbaaDoor
