/- The document's naturals: shifts. -/
import Derived.Test.YteklffikijpocaaNum4
namespace Go.Proofs.Yteklffikijpocaa
open Go.RowKit

/-- Shifting, k digits done, c carried. -/
structure Sh (xs : List Int) (t k : Nat) (c : Int) (os : List Int) : Prop where
  c0 : 0 ≤ c
  c1 : c < 2 ^ t
  len : os.length = k
  dg : Dg 4294967296 os
  v : val 4294967296 os + 4294967296 ^ k * c.toNat = val 4294967296 (xs.take k) * 2 ^ t
theorem Sh.start (xs : List Int) (t : Nat) : Sh xs t 0 0 [] := ⟨by decide, Int.pow_pos (by decide), rfl, Dg.nil _, by simp [val]⟩
theorem pow_le31 {t : Nat} (ht : t < 32) : (2 : Int) ^ t ≤ 2147483648 := by
  have h : (2 : Nat) ^ t ≤ 2 ^ 31 := Nat.pow_le_pow_right (by decide) (by omega)
  have e : ((2 : Int) ^ t) = ((2 ^ t : Nat) : Int) := by rw [Int.natCast_pow]; rfl
  rw [e]
  have : (2 : Nat) ^ 31 = 2147483648 := by decide
  omega
theorem sh_arith {V P q u e X x T : Nat} (hv : V + P * e = X * T) (k : q + 4294967296 * u = e + x * T) : V + P * q + P * 4294967296 * u = (X + P * x) * T := by
  have h := congrArg (P * ·) k
  simp only [Nat.mul_add] at h
  rw [Nat.mul_assoc P 4294967296 u, Nat.add_mul, Nat.mul_assoc P x T]
  omega
theorem Sh.step {xs os : List Int} {t k : Nat} {c s : Int} (h : Sh xs t k c os) (hx : Dg 4294967296 xs) (_ht : t < 32) (hs : s = c + rd xs k * 2 ^ t) : Sh xs t (k + 1) (s / 4294967296) (os ++ [s % 4294967296]) := by
  have x0 := hx.at_ (by decide) k
  have x1 : rd xs k < 4294967296 := x0.2
  have c0 := h.c0
  have c1 := h.c1
  have tp : (0 : Int) < 2 ^ t := Int.pow_pos (by decide)
  have m0 : 0 ≤ rd xs k * 2 ^ t := Int.mul_nonneg x0.1 (by omega)
  have m1 : rd xs k * 2 ^ t ≤ 4294967295 * 2 ^ t := Int.mul_le_mul_of_nonneg_right (by omega) (by omega)
  refine ⟨by omega, by omega, by rw [List.length_append, h.len]; rfl, h.dg.append (Dg.cons (by omega) (by show _ < ((4294967296 : Nat) : Int); omega) (Dg.nil _)), ?_⟩
  rw [val_append, val_one, h.len, val_take_any, Nat.pow_succ]
  refine sh_arith h.v ?_
  obtain ⟨x, hx⟩ := nat_of x0.1
  have e : (rd xs k * 2 ^ t) = (((rd xs k).toNat * 2 ^ t : Nat) : Int) := by
    rw [hx, Int.toNat_natCast, Int.natCast_mul, Int.natCast_pow]; rfl
  omega
theorem Sh.last {xs os : List Int} {t k : Nat} {c : Int} (h : Sh xs t k c os) (hk : xs.length ≤ k) (ht : t < 32) (q : Nat) :
    Dg 4294967296 (List.replicate q 0 ++ os ++ [c]) ∧ val 4294967296 (List.replicate q 0 ++ os ++ [c]) = val 4294967296 xs * 2 ^ (32 * q + t) := by
  have p31 := pow_le31 ht
  have c1 := h.c1
  refine ⟨((Dg.replicate (by decide) q).append h.dg).append (Dg.cons h.c0 (by show _ < ((4294967296 : Nat) : Int); omega) (Dg.nil _)), ?_⟩
  have hv := h.v
  rw [List.take_of_length_le hk] at hv
  have hB : (4294967296 : Nat) ^ q = 2 ^ (32 * q) := by rw [show (4294967296 : Nat) = 2 ^ 32 from rfl, ← Nat.pow_mul]
  rw [List.append_assoc, val_append, val_replicate, val_append, val_one, h.len, hv, List.length_replicate, hB, Nat.zero_add, Nat.pow_add, Nat.mul_left_comm]
set_option maxRecDepth 100000 in
set_option maxHeartbeats 4000000 in
theorem shl_c (w : World) (u : Value) (m n L : Nat) (h : Nm w u m L) (hL : L ≤ 1000000) (hn : n ≤ 1000000) :
    Calls Try.prog 26 #[u, .int .i64 n] w fun e w' => ∃ x, e = .returned x ∧ Nm w' x (m * 2 ^ n) (n / 32 + L + 1) ∧ w.grownBy w' none := by
  obtain ⟨xs, ⟨A, ca, rfl, a1, a2, _, a4⟩, xd, _, hxv, hxl⟩ := h
  by_cases h0 : xs.length = 0
  · obtain rfl := List.eq_nil_of_length_eq_zero h0
    have hm : m * 2 ^ n = 0 := by rw [← hxv]; simp [val]
    rw [hm]
    clear hm a4 hxv
    go_enter Try.func26, Try.ntmps26
    go_wp2
    go_ret
    exact ⟨_, rfl, nm_nil _ _, gb_refl _ _⟩
  · obtain ⟨la, hla⟩ : ∃ l, l = xs.length := ⟨_, rfl⟩
    rw [← hla] at a1 a4 hxl h0 ⊢
    obtain ⟨q, hq⟩ : ∃ q, q = n / 32 := ⟨_, rfl⟩
    obtain ⟨t, ht⟩ : ∃ t, t = n % 32 := ⟨_, rfl⟩
    have e1 : (n : Int) / 32 = (q : Int) := by omega
    have e2 : (n : Int) % 32 = (t : Int) := by omega
    have hqt : n = 32 * q + t := by omega
    have ht32 : t < 32 := by omega
    have hq1 : q ≤ 1000000 := by omega
    have st : ∀ k c os s, Sh xs t k c os → s = c + rd xs k * 2 ^ t → Sh xs t (k + 1) (s / 4294967296) (os ++ [s % 4294967296]) := fun k c os s h hs => h.step xd ht32 hs
    have ls : ∀ c os, Sh xs t la c os → Dg 4294967296 (List.replicate q 0 ++ os ++ [c]) ∧ val 4294967296 (List.replicate q 0 ++ os ++ [c]) = m * 2 ^ n := fun c os h => by
      have := h.last (by omega) ht32 q
      rw [← hqt, show val 4294967296 xs = m from hxv] at this; exact this
    have s0 := Sh.start xs t
    have p31 := pow_le31 ht32
    have mk := make64 43 (by kernel_rfl) q (q + la + 1) (q : Int) ((q : Int) + (la : Int) + 1) rfl (by omega) (by omega) (by omega)
    have own0 := own_made w w.heap.size q (q + la + 1) (Nat.le_refl _) (by omega) (by omega)
    rw [← hq]
    have ST := Lib.hid st
    have LS := Lib.hid ls
    have XD := Lib.hid xd
    have O0 := Lib.hid own0
    have S0 := Lib.hid s0
    have P31 := Lib.hid p31
    have HT := Lib.hid ht32
    clear st ls xd hla own0 s0 p31 hq ht hqt hxv ht32
    have hb0 : ((la : Int) == 0) = false := by simp; omega
    go_enter Try.func26, Try.ntmps26
    go_wp2
    clear hb0
    have E2 := Lib.hid e2
    clear e1 e2 mk
    go_loopw [5, 6, 7] (fun v5 v6 v7 wr => ∃ (k : Nat) (c : Int) (os : List Int), v6 = .int .u64 c ∧ v7 = .int .i64 k ∧ k ≤ la ∧ Sh xs t k c os ∧ Own wr w.heap.size v5 (List.replicate q 0 ++ os) ∧ w.grownBy wr none) (fun _ _ v7 _ => la - (intOf v7).toNat)
    case atStart => exact ⟨0, 0, [], rfl, rfl, by omega, S0.out, by rw [List.append_nil]; exact O0.out, gb_alloc (gb_refl w none) _⟩
    case round =>
      clear O0 S0
      obtain ⟨k, c, os, rfl, rfl, hk, SS0, ow, G⟩ := hrel
      have c0 := SS0.c0
      have c1 : c < 2147483648 := by have := SS0.c1; have := P31.out; omega
      have hol := SS0.len
      have OL := Lib.hid hol
      have SS := Lib.hid SS0
      have OW := Lib.hid ow
      have GG := Lib.hid G
      clear SS0 hol ow
      by_cases hka : k < la
      · obtain ⟨b1, o1, rfl, hc1⟩ := a4 (by omega)
        have ci1 := gb_cell0 G (hc1 k hka)
        have xx := XD.out.at_ (by decide) k
        have stp := ST.out k c os _ SS.out rfl
        obtain ⟨x, hx⟩ : ∃ x, x = rd xs k := ⟨_, rfl⟩
        rw [← hx] at ci1 xx stp
        have x0 := xx.1
        have x1 : x < 4294967296 := xx.2
        have z0 : 0 ≤ x * 2 ^ t := Int.mul_nonneg x0 (Int.pow_nonneg (by decide))
        have z1 : x * 2 ^ t ≤ x * 2147483648 := Int.mul_le_mul_of_nonneg_left P31.out x0
        have hw0 : IntKind.u64.wrap (x * 2 ^ t) = x * 2 ^ t := by rw [IntKind.wrap_u64]; omega
        obtain ⟨z, hz⟩ : ∃ z, z = x * 2 ^ t := ⟨_, rfl⟩
        rw [← hz] at z0 z1 stp
        have hw : IntKind.u64.wrap (x * 2 ^ t) = z := by rw [hw0, hz]
        have SP := Lib.hid stp
        clear stp hx xx hc1 hz a4 hw0
        have e2 := E2.out
        go_wp2_with (at_builtin; refine own_append 43 (by kernel_rfl) (.tmp 36) (.tmp 39) rfl rfl _ (List.replicate q 0 ++ os) rfl (Own.alloc OW.out _) _ 1 1 [(c + z) % 4294967296] rfl rfl (ws_one (by omega) (by omega)) (built1 _ _ _) (by rw [List.length_append, List.length_replicate, OL.out]; show _ + 1 ≤ _; omega) (gb_alloc GG.out _).size ?_; intro v1 w1 ow1 g1)
        have G1 := Own.gb (Own.alloc OW.out _) (gb_alloc GG.out _) g1
        clear g1 e2 hw
        go_roundw
        case rel => exact ⟨k + 1, (c + z) / 4294967296, os ++ [(c + z) % 4294967296], rfl, by go_num, by omega, SP.out, by rw [← List.append_assoc]; exact ow1, G1⟩
        case measure => simp [intOf]; omega
      · obtain rfl : k = la := by omega
        have l := LS.out c os SS.out
        have L1 := Lib.hid l.1
        have L2 := Lib.hid l.2
        clear l a4
        go_wp2_with (at_builtin; refine own_append 43 (by kernel_rfl) (.tmp 43) (.tmp 45) rfl rfl _ (List.replicate q 0 ++ os) rfl (Own.alloc OW.out _) _ 1 1 [c] rfl rfl (ws_one (by omega) (by omega)) (built1 _ _ _) (by rw [List.length_append, List.length_replicate, OL.out]; show _ + 1 ≤ _; omega) (gb_alloc GG.out _).size ?_; intro v1 w1 ow1 g1)
        have G1 := Own.gb (Own.alloc OW.out _) (gb_alloc GG.out _) g1
        clear g1
        refine (norm_c _ _ _ ow1.sl).mono ?_
        rintro e w' ⟨x, rfl, hx, rfl⟩
        go_wp2
        go_ret
        exact ⟨x, rfl, hx.dgnm L1.out L2.out (by rw [List.length_append, List.length_append, List.length_replicate, OL.out]; show _ + 1 ≤ _; omega), G1⟩
end Go.Proofs.Yteklffikijpocaa
