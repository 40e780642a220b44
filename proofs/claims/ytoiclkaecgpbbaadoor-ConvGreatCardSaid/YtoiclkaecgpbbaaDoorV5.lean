/- Contracts of the program's functions, and plain laws (Ntt4, MrF, Pri3, Ntt8, OkP, Ntt9, Conv4, Conv5, Conv6, Conv7, Conv8, Keep3), for every input that their premises let in. -/
import Derived.Test.YtoiclkaecgpbbaaDoorV4
import Derived.Test.YtoiclkaecgpbbaaDoorV1
import Derived.Test.YtoiclkaecgpbbaaDoorV2
import Derived.Test.YtoiclkaecgpbbaaDoorV3
import Derived.Deep.MidRow
/- Transforms: the powers. -/
namespace Go.Proofs.YtoiclkaecgpbbaaDoor
open Go.RowKit

structure PwI (p r : Int) (n i : Nat) (ls ss : List Int) : Prop where
  l1 : ls.length = n
  l2 : ss.length = n
  v1 : ∀ k, k < i → rd ls k = r ^ k % p
  v2 : ∀ k, k < i → rd ss k = r ^ k % p * 18446744073709551616 / p
theorem PwI.step {p r : Int} {n i : Nat} {ls ss : List Int} (h : PwI p r n i ls ss) (hi : i < n) {x y : Int} (hx : x = r ^ i % p) (hy : y = r ^ i % p * 18446744073709551616 / p) : PwI p r n (i + 1) (ls.set i x) (ss.set i y) := by
  refine ⟨by rw [List.length_set, h.l1], by rw [List.length_set, h.l2], fun k hk => ?_, fun k hk => ?_⟩
  · by_cases e : i = k
    · subst e; rw [rd_set_self (by rw [h.l1]; exact hi), hx]
    · rw [rd_set_ne e]; exact h.v1 k (by omega)
  · by_cases e : i = k
    · subst e; rw [rd_set_self (by rw [h.l2]; exact hi), hy]
    · rw [rd_set_ne e]; exact h.v2 k (by omega)
theorem pow_next {p r x : Int} {i : Nat} (hx : x = r ^ i % p) : x * r % p = r ^ (i + 1) % p := by
  rw [hx, Int.pow_succ]; exact (Cg.mod p _).mulr r
def PX (p r : Int) (i : Nat) (x : Int) : Prop := x = r ^ i % p ∧ 0 ≤ x ∧ x < p
theorem own_two (w : World) (n : Nat) (hn : n ≤ 1000000) : Own (((w.alloc (.cells (madeCells #[.int .u64 0] n) 22)).alloc (.cells (madeCells #[.int .u64 0] n) 22)).drew) w.heap.size (.slice (some ⟨w.heap.size, 0, none⟩) n n) (List.replicate n 0) ∧
    Own (((w.alloc (.cells (madeCells #[.int .u64 0] n) 22)).alloc (.cells (madeCells #[.int .u64 0] n) 22)).drew) w.heap.size (.slice (some ⟨w.heap.size + 1, 0, none⟩) n n) (List.replicate n 0) := by
  have e : (w.alloc (.cells (madeCells #[.int .u64 0] n) 22)).heap.size = w.heap.size + 1 := by simp
  have h1 := (own_made w w.heap.size n n (Nat.le_refl _) (Nat.le_refl _) (by omega)).alloc (.cells (madeCells #[.int .u64 0] n) 22)
  have h2 := own_made (w.alloc (.cells (madeCells #[.int .u64 0] n) 22)) w.heap.size n n (by rw [e]; omega) (Nat.le_refl _) (by omega)
  rw [e] at h2
  exact ⟨h1.drew, h2.drew⟩
set_option maxRecDepth 100000 in
set_option maxHeartbeats 4000000 in
theorem powers_c (w : World) (g : Nat) (p r : Int) (n : Nat) (h : Md w g p) (hr : 0 ≤ r) (hn : n ≤ 1000000) :
    Calls Tryd.prog 80 #[.pointer (some ⟨g, 0, none⟩), .int .u64 r, .int .i64 n] w fun e w' => ∃ b bs, e = .returned (.tuple #[.slice (some ⟨b, 0, none⟩) n n, .slice (some ⟨bs, 0, none⟩) n n]) ∧ (∀ gm, gm < w.heap.size → Pws w' gm (.slice (some ⟨b, 0, none⟩) n n) (.slice (some ⟨bs, 0, none⟩) n n) p r n) ∧ w.grownBy w' none := by
  have hp3 := h.pm.lo
  have hp' := h.pm.hi
  have mk := make64 36 (by kernel_rfl) n n (n : Int) (n : Int) (by omega) (by omega) (by omega) (by omega)
  have x1 : (1 : Int) = r ^ 0 % p := by rw [Int.pow_zero, Int.emod_eq_of_lt (by omega) (by omega)]
  have PX0 : Hid (PX p r 0 1) := Lib.hid ⟨x1, by decide, by omega⟩
  have O2 := Lib.hid (own_two w n hn)
  have H := Lib.hid h
  clear x1 h
  go_enter Tryd.func80, Tryd.ntmps80
  go_upto_region 1 with fail
  go_cut [8, 9] from 12 to 15 (fun v8 v9 wc => ∃ b bs, v8 = .slice (some ⟨b, 0, none⟩) n n ∧ v9 = .slice (some ⟨bs, 0, none⟩) n n ∧ b ≠ bs ∧ Own wc w.heap.size (.slice (some ⟨b, 0, none⟩) n n) (List.replicate n 0) ∧ Own wc w.heap.size (.slice (some ⟨bs, 0, none⟩) n n) (List.replicate n 0) ∧ w.grownBy wc none)
  case first =>
    go_region
    all_goals (go_wp2_with fail)
    all_goals (go_meet)
    · obtain ⟨o1, o2⟩ := O2.out
      exact ⟨_, _, rfl, rfl, by omega, o1, o2, gb_drew (gb_alloc (gb_alloc (gb_refl w none) _) _)⟩
    · obtain ⟨o1, o2⟩ := O2.out
      exact ⟨_, _, rfl, rfl, by omega, o2, o1, gb_drew (gb_alloc (gb_alloc (gb_refl w none) _) _)⟩
  case rest =>
    obtain ⟨b, bs, rfl, rfl, hbb, ob, obs, GC⟩ := hcut
    clear O2 mk
    have OB := Lib.hid ob
    have OBS := Lib.hid obs
    have lb := ob.base_le
    have lbs := obs.base_le
    have LB := Lib.hid (And.intro lb.1 lbs.1)
    clear ob obs lb lbs
    go_wp2
    go_loopw [10, 18] (fun v10 v18 wr => ∃ (i : Nat) (x : Int) (ls ss : List Int), v10 = .int .u64 x ∧ v18 = .int .i64 i ∧ i ≤ n ∧ PX p r i x ∧ PwI p r n i ls ss ∧ Own wr w.heap.size (.slice (some ⟨b, 0, none⟩) n n) ls ∧ Own wr w.heap.size (.slice (some ⟨bs, 0, none⟩) n n) ss ∧ w.grownBy wr none) (fun _ v18 _ => n - (intOf v18).toNat)
    case atStart => exact ⟨0, 1, _, _, rfl, rfl, by omega, PX0.out, ⟨List.length_replicate, List.length_replicate, fun k hk => by omega, fun k hk => by omega⟩, OB.out, OBS.out, GC⟩
    case round =>
      clear OB OBS PX0 GC
      obtain ⟨i, x, ls, ss, rfl, rfl, hi, px, pw, o1, o2, G⟩ := hrel
      have PWH := Lib.hid pw
      have O1 := Lib.hid o1
      have O2 := Lib.hid o2
      have GG := Lib.hid G
      by_cases hin : i < n
      · have x0 := px.2.1
        have x1 := px.2.2
        have PXH := Lib.hid px
        have c1 := o1.cell i (by rw [pw.l1]; exact hin)
        have f1 := o1.free i
        have st := pw.step hin px.1 (y := x % p * 18446744073709551616 / p) (by rw [Int.emod_eq_of_lt x0 x1, px.1])
        have hy0 : 0 ≤ x % p * 18446744073709551616 / p := Int.ediv_nonneg (Int.mul_nonneg (Int.emod_nonneg _ (by omega)) (by decide)) (by omega)
        have hy1 : x % p * 18446744073709551616 / p < 18446744073709551616 := by
          rw [Int.emod_eq_of_lt x0 x1]
          refine Int.ediv_lt_of_lt_mul (by omega) ?_
          rw [Int.mul_comm]
          exact Int.mul_lt_mul_of_pos_left x1 (by decide)
        have nx : PX p r (i + 1) (x * r % p) := ⟨pow_next px.1, Int.emod_nonneg _ (by omega), Int.emod_lt_of_pos _ (by omega)⟩
        have SH := fun w (h : Md w g p) => modShoup_c w g p x h x0
        obtain ⟨y, hy⟩ : ∃ y, y = x % p * 18446744073709551616 / p := ⟨_, rfl⟩
        rw [← hy] at st hy0 hy1 SH
        have HSH := Lib.hid SH
        have ST := Lib.hid st
        have NX := Lib.hid nx
        have Y := Lib.hid (And.intro hy0 hy1)
        clear o1 o2 G px pw st nx SH hy hy0 hy1
        have k1 := O1.out.store i x0 (by omega)
        have k2 := O2.out.grown (gb_rowC (gb_refl _ (some b)) i (.int .u64 x)) (.inr (by simp [Value.ownBlock]; omega))
        have k3 := gb_set (p := ⟨b, i, none⟩) GG.out LB.out.1 (.int .u64 x)
        have K1 := Lib.hid k1
        have K2 := Lib.hid k2
        have K3 := Lib.hid k3
        clear k1 k2 k3
        go_wp2_with fail
        refine (HSH.out _ (H.out.grown0 K3.out)).mono ?_
        rintro e wa ⟨rfl, ga⟩
        clear c1 f1
        have K1a := Lib.hid (K1.out.grown0 ga)
        have K2a := Lib.hid (K2.out.grown0 ga)
        have K3a := Lib.hid (gb_trans K3.out ga)
        have c2 := K2a.out.cell i (by rw [PWH.out.l2]; exact hin)
        have f2 := K2a.out.free i
        have k1 := K1a.out.grown (gb_rowC (gb_refl _ (some bs)) i (.int .u64 y)) (.inr (by simp [Value.ownBlock]; omega))
        have k2 := K2a.out.store i Y.out.1 Y.out.2
        have k3 := gb_set (p := ⟨bs, i, none⟩) K3a.out LB.out.2 (.int .u64 y)
        have L1 := Lib.hid k1
        have L2 := Lib.hid k2
        have L3 := Lib.hid k3
        clear k1 k2 k3 ga
        go_wp2_with fail
        refine (modMul_c _ g p x r (H.out.grown0 L3.out) x0 hr).mono ?_
        rintro e wb ⟨rfl, gb⟩
        clear c2 f2
        go_wp2
        go_roundw
        case rel => exact ⟨i + 1, x * r % p, ls.set i x, ss.set i y, rfl, by go_num, by omega, NX.out, ST.out, L1.out.grown0 gb, L2.out.grown0 gb, gb_trans L3.out gb⟩
        case measure => simp [intOf]; omega
      · obtain rfl : i = n := by omega
        clear o1 o2 G px pw
        go_wp2
        go_ret2
        exact ⟨_, _, rfl, fun gm hgm => ⟨b, bs, rfl, rfl, by have := LB.out.1; omega, by have := LB.out.2; omega, fun k hk => by rw [O1.out.cell k (by rw [PWH.out.l1]; exact hk), PWH.out.v1 k hk], fun k hk => by rw [O2.out.cell k (by rw [PWH.out.l2]; exact hk), PWH.out.v2 k hk]⟩, GG.out⟩
end Go.Proofs.YtoiclkaecgpbbaaDoor

/- The test of primes, reckoned fast. Plain. -/
namespace Go.Proofs.YtoiclkaecgpbbaaDoor

/-- a to the d modulo n, by squares. -/
def pmF : Nat → Nat → Nat → Nat → Nat
  | 0, _, _, n => 1 % n
  | k + 1, a, d, n => if d = 0 then 1 % n else if d % 2 = 1 then a * pmF k (a * a % n) (d / 2) n % n else pmF k (a * a % n) (d / 2) n
theorem pmF_spec : ∀ k a d n, d < 2 ^ k → pmF k a d n = a ^ d % n
  | 0, a, d, n, h => by
    rw [Nat.pow_zero] at h
    obtain rfl : d = 0 := by omega
    rw [pmF, Nat.pow_zero]
  | k + 1, a, d, n, h => by
    rw [pmF]
    rw [Nat.pow_succ] at h
    by_cases h0 : d = 0
    · rw [if_pos h0, h0, Nat.pow_zero]
    · have ih := pmF_spec k (a * a % n) (d / 2) n (by omega)
      rw [if_neg h0, ih, ← Nat.pow_mod]
      by_cases h1 : d % 2 = 1
      · rw [if_pos h1]
        have e : a ^ d = a * (a * a) ^ (d / 2) := by
          rw [← Nat.pow_two, ← Nat.pow_mul, Nat.mul_comm a, ← Nat.pow_succ]
          congr 1; omega
        rw [e, Nat.mul_mod, Nat.mod_mod, ← Nat.mul_mod]
      · rw [if_neg h1]
        have e : a ^ d = (a * a) ^ (d / 2) := by
          rw [← Nat.pow_two, ← Nat.pow_mul]
          congr 1; omega
        rw [e]
def mrF (n : Nat) : Nat → Nat → Bool
  | 0, _ => true
  | c + 1, x => let y := x * x % n; if y = n - 1 then false else mrF n c y
def witF (a n d s : Nat) : Bool := let x := pmF 64 a d n; if x = 0 ∨ x = 1 ∨ x = n - 1 then false else mrF n (s - 1) x
theorem mrF_eq {n : Nat} (hn : 0 < n) : ∀ c x : Nat, mrL n c x = mrF n c x
  | 0, _ => rfl
  | c + 1, x => by
    rw [mrL, mrF]
    have e : (x : Int) * x % n = ((x * x % n : Nat) : Int) := by rw [Int.natCast_emod, Int.natCast_mul]
    rw [e]
    have e2 : (((x * x % n : Nat) : Int) = (n : Int) - 1) = (x * x % n = n - 1) := by
      apply propext; omega
    simp only [e2, mrF_eq hn c]
theorem witF_eq {a n d s : Nat} (hn : 0 < n) (hd : d < 2 ^ 64) : wit a n d s = witF a n d s := by
  have e : (a : Int) ^ d % n = ((pmF 64 a d n : Nat) : Int) := by rw [pmF_spec 64 a d n hd, Int.natCast_emod, Int.natCast_pow]
  rw [wit, witF, e]
  have e0 : (((pmF 64 a d n : Nat) : Int) = 0) = (pmF 64 a d n = 0) := by apply propext; omega
  have e1 : (((pmF 64 a d n : Nat) : Int) = 1) = (pmF 64 a d n = 1) := by apply propext; omega
  have e2 : (((pmF 64 a d n : Nat) : Int) = (n : Int) - 1) = (pmF 64 a d n = n - 1) := by apply propext; omega
  simp only [e0, e1, e2, mrF_eq hn]
def isF (n : Nat) : Bool :=
  if n < 2 then false else
    match divB n smallP with
    | some p => n == p
    | none => let t := tz (n - 1); smallP.all fun p => !witF p n t.2 t.1
theorem tz_le {n : Nat} (h0 : 0 < n) (h : n < 2 ^ 64) : (tz n).2 < 2 ^ 64 := by
  obtain ⟨e1, e2, e3⟩ := tzF_spec 64 n h0 h
  have hp : 0 < 2 ^ (tzF 64 n).1 := Nat.pow_pos (by decide)
  have : (tzF 64 n).2 * 1 ≤ (tzF 64 n).2 * 2 ^ (tzF 64 n).1 := Nat.mul_le_mul_left _ hp
  rw [Nat.mul_comm _ (2 ^ _)] at this
  show (tzF 64 n).2 < 2 ^ 64
  omega
theorem isF_eq {n : Nat} (hn : n < 2 ^ 64) : isP n = isF n := by
  unfold isP isF
  by_cases h2 : n < 2
  · rw [if_pos h2, if_pos h2]
  · rw [if_neg h2, if_neg h2]
    cases divB n smallP with
    | some p => rfl
    | none =>
      have hd := tz_le (n := n - 1) (by omega) (by omega)
      show (smallP.all fun p => !wit p n (tz (n - 1)).2 (tz (n - 1)).1) = (smallP.all fun p => !witF p n (tz (n - 1)).2 (tz (n - 1)).1)
      congr 1
      funext p
      rw [witF_eq (by omega) hd]
theorem isP_17 : isP 17 = true := by rw [isF_eq (by decide)]; decide +kernel
theorem isP_2 : isP 2 = true := by rw [isF_eq (by decide)]; decide +kernel
theorem isP_1 : isP 1 = false := by rw [isF_eq (by decide)]; decide +kernel
theorem isP_c : isP 3215031751 = false := by rw [isF_eq (by decide)]; decide +kernel
end Go.Proofs.YtoiclkaecgpbbaaDoor

/- Primes: their residues, roots. -/
namespace Go.Proofs.YtoiclkaecgpbbaaDoor
open Go.RowKit

theorem pmod_ok (w : World) (p : Nat) (hp : Pm p) (hi : isP p = true) (hd : Db w) :
    Calls Tryd.prog 17 #[.int .u64 p] w fun e w' => ∃ g, e = .returned (.tuple #[.pointer (some ⟨g, 0, none⟩), .int .i64 0]) ∧ Md w' g p ∧ w.heap.size ≤ g ∧ w.grownBy w' none := by
  have h1 := hp.lo
  have h2 := hp.hi
  have h3 := hp.odd
  have I := is_c w p (by omega) hd
  rw [hi] at I
  obtain ⟨P, hP⟩ : ∃ P : Int, P = (p : Int) := ⟨_, rfl⟩
  rw [← hP] at I hp h1 h2 h3 ⊢
  have HI := Lib.hid I
  have HP := Lib.hid hp
  clear I hd hi hp hP
  go_enter Tryd.func17, Tryd.ntmps17
  go_wp2_with fail
  refine (HI.out).mono ?_
  rintro e w1 ⟨rfl, g1⟩
  go_wp2_with fail
  refine (modNew_ok _ P HP.out).mono ?_
  rintro e w2 ⟨g, rfl, M, hg, g2⟩
  have hs := g1.size
  go_wp2
  go_ret2
  exact ⟨g, rfl, M, by omega, gb_trans g1 g2⟩
theorem pmod_no (w : World) (p : Nat) (p64 : p < 2 ^ 64) (h : ¬ (Pm p ∧ isP p = true)) (hd : Db w) :
    Calls Tryd.prog 17 #[.int .u64 p] w fun e w' => e = .returned (.tuple #[.pointer none, .int .i64 3]) ∧ w.grownBy w' none := by
  by_cases h2 : p % 2 = 0
  · have h3 : (p : Int) % 2 = 0 := by omega
    obtain ⟨P, hP⟩ : ∃ P : Int, P = (p : Int) := ⟨_, rfl⟩
    have P0 : 0 ≤ P := by omega
    rw [← hP] at h3 ⊢
    clear h hd h2 p64 hP
    go_enter Tryd.func17, Tryd.ntmps17
    go_wp2
    go_ret2
    exact ⟨rfl, gb_refl _ _⟩
  · have h3 : (p : Int) % 2 = 1 := by omega
    by_cases h4 : 4611686018427387904 ≤ (p : Int)
    · obtain ⟨P, hP⟩ : ∃ P : Int, P = (p : Int) := ⟨_, rfl⟩
      have P0 : 0 ≤ P := by omega
      rw [← hP] at h3 h4 ⊢
      clear h hd h2 p64 hP
      go_enter Tryd.func17, Tryd.ntmps17
      go_wp2
      go_ret2
      exact ⟨rfl, gb_refl _ _⟩
    · have I := is_c w p p64 hd
      have hi : isP p = false := by
        cases e : isP p with
        | false => rfl
        | true =>
          refine absurd ⟨⟨?_, by omega, h3⟩, e⟩ h
          by_cases k : p < 2
          · unfold isP at e; rw [if_pos k] at e; cases e
          · omega
      rw [hi] at I
      have h5 : (p : Int) < 4611686018427387904 := by omega
      obtain ⟨P, hP⟩ : ∃ P : Int, P = (p : Int) := ⟨_, rfl⟩
      have P0 : 0 ≤ P := by omega
      rw [← hP] at h3 h5 I ⊢
      have HI := Lib.hid I
      clear I hd hi h h4 h2 p64 hP
      go_enter Tryd.func17, Tryd.ntmps17
      go_wp2_with fail
      refine (HI.out).mono ?_
      rintro e w1 ⟨rfl, g1⟩
      go_wp2
      go_ret2
      exact ⟨rfl, g1⟩
set_option maxRecDepth 100000 in
set_option maxHeartbeats 1000000 in
theorem root_c (w : World) (p log x0 : Nat) (hp : Pm p) (hi : isP p = true) (hl : log ≤ 20) (hdiv : (p - 1) % 2 ^ log = 0) (hx2 : 2 ≤ x0) (hx64 : x0 < 2 ^ 63) (hx : (x0 : Int) ^ ((p - 1) / 2) % p = p - 1)
    (hno : ∀ x, 2 ≤ x → x < x0 → (x : Int) ^ ((p - 1) / 2) % p ≠ p - 1) (hd : Db w) :
    Calls Tryd.prog 55 #[.int .u64 p, .int .i64 log] w fun e w' => e = .returned (.tuple #[.int .u64 (if log = 0 then 1 else (x0 : Int) ^ ((p - 1) / 2 ^ log) % p), .int .i64 0]) ∧ w.grownBy w' none := by
  have h1 := hp.lo
  have h2 := hp.hi
  have I := fun w (h : Db w) => pmod_ok w p hp hi h
  obtain ⟨m, hm⟩ : ∃ m, m = p - 1 := ⟨_, rfl⟩
  rw [← hm] at hdiv hx hno ⊢
  obtain ⟨q, hq⟩ : ∃ q, q = 2 ^ log := ⟨_, rfl⟩
  have hq20 : q ≤ 2 ^ 20 := by rw [hq]; exact Nat.pow_le_pow_right (by decide) hl
  have hq0 : 0 < q := by rw [hq]; exact Nat.pow_pos (by decide)
  have eq : (2 : Int) ^ log = (q : Int) := by rw [hq, Int.natCast_pow]; rfl
  rw [← hq] at hdiv ⊢
  obtain ⟨h, hh⟩ : ∃ h, h = m / 2 := ⟨_, rfl⟩
  obtain ⟨d, hdd⟩ : ∃ d, d = m / q := ⟨_, rfl⟩
  rw [← hh] at hx hno
  rw [← hdd]
  obtain ⟨P, hP⟩ : ∃ P : Int, P = (p : Int) := ⟨_, rfl⟩
  obtain ⟨M, hM⟩ : ∃ M : Int, M = (m : Int) := ⟨_, rfl⟩
  obtain ⟨Q, hQ⟩ : ∃ Q : Int, Q = (q : Int) := ⟨_, rfl⟩
  obtain ⟨H, hH⟩ : ∃ H : Int, H = (h : Int) := ⟨_, rfl⟩
  obtain ⟨D, hD⟩ : ∃ D : Int, D = (d : Int) := ⟨_, rfl⟩
  have em : P - 1 = M := by omega
  have eh : M / 2 = H := by omega
  have ed : M / 2 ^ log = D := by rw [eq, hM, hD, hdd, Int.natCast_ediv]
  have ez : M % Q = 0 := by rw [hM, hQ, ← Int.natCast_emod, hdiv]; rfl
  have hw : IntKind.u64.wrap (2 ^ log) = Q := by rw [eq, hQ, IntKind.wrap_u64]; omega
  have hw2 : IntKind.u64.wrap (1 * 2 ^ log) = Q := by rw [Int.one_mul]; exact hw
  have Q0 : Q ≠ 0 := by omega
  have bM : 0 ≤ M ∧ M < 4611686018427387904 := by omega
  have bP : 0 ≤ P ∧ P < 4611686018427387904 := by omega
  have bH : 0 ≤ H ∧ H < 4611686018427387904 := by omega
  have bD : 0 ≤ D ∧ D < 4611686018427387904 := by
    have := Nat.div_le_self m q
    omega
  have pw : ∀ x : Int, x ^ h = x ^ H.toNat := fun x => by rw [hH, Int.toNat_natCast]
  have pd : ∀ x : Int, x ^ d = x ^ D.toNat := fun x => by rw [hD, Int.toNat_natCast]
  rw [← hP] at I hx hno ⊢
  rw [em] at hx hno
  rw [pd]
  have hx' : (x0 : Int) ^ H.toNat % P = M := by rw [← pw]; exact hx
  have hno' : ∀ x, 2 ≤ x → x < x0 → (x : Int) ^ H.toNat % P ≠ M := fun x a b => by rw [← pw]; exact hno x a b
  have HI := Lib.hid I
  have HD := Lib.hid hd
  have HX := Lib.hid hx'
  have HNO := Lib.hid hno'
  have H64 := Lib.hid hx64
  clear I hd hx hno pw pd hP hM hQ hH hD eq hq hh hdd hdiv hp hi h1 h2 hq20 hq0 hm hx' hno' hx64
  have hlb : decide ((log : Int) < 0) = false := decide_eq_false (by omega)
  have hlc : decide ((20 : Int) < (log : Int)) = false := decide_eq_false (by omega)
  by_cases hl0 : log = 0
  · subst hl0
    rw [if_pos rfl]
    go_enter Tryd.func55, Tryd.ntmps55
    go_wp2_with fail
    refine (HI.out _ HD.out).mono ?_
    rintro e w1 ⟨g, rfl, MM, _, g1⟩
    clear HI HD
    go_wp2
    go_ret2
    exact ⟨rfl, g1⟩
  · rw [if_neg hl0]
    have hl1 : ¬ (log : Int) = 0 := by omega
    have hld : ((log : Int) == 0) = false := by simpa using hl1
    go_enter Tryd.func55, Tryd.ntmps55
    go_wp2_with fail
    refine (HI.out _ HD.out).mono ?_
    rintro e w1 ⟨g, rfl, MM, _, g1⟩
    clear HI HD
    go_wp2
    have EM := Lib.hid em
    have EH := Lib.hid eh
    have ED := Lib.hid ed
    clear ez hw hw2 hlb hlc em eh ed hld
    go_loopw [8] (fun v8 wr => ∃ x : Nat, v8 = .int .u64 x ∧ 2 ≤ x ∧ x ≤ x0 ∧ w1.grownBy wr none) (fun v8 _ => x0 - (intOf v8).toNat)
    case atStart => exact ⟨2, rfl, by omega, hx2, gb_refl _ _⟩
    case round =>
      obtain ⟨x, rfl, hxa, hxb, R⟩ := hrel
      have hx63 : (x : Int) < 9223372036854775808 := by have := H64.out; omega
      obtain ⟨X, hXX⟩ : ∃ X : Int, X = (x : Int) := ⟨_, rfl⟩
      have X0 : 0 ≤ X := by omega
      have T := fun w (h : Md w g P) => modPow_c w g P X H h X0 bH.1 (by omega)
      have T2 := fun w (h : Md w g P) => modPow_c w g P X D h X0 bD.1 (by omega)
      have hX1 : X < 9223372036854775808 := by omega
      by_cases hex : x = x0
      · have e : X ^ H.toNat % P = M := by rw [hXX, hex]; exact HX.out
        have e0 : (x0 : Int) = X := by omega
        have HE0 := Lib.hid e0
        rw [← hXX]
        have HT := Lib.hid T
        have HT2 := Lib.hid T2
        have HE := Lib.hid e
        clear T T2 hex e e0 hx63 hXX
        have em := EM.out
        have eh := EH.out
        have ed := ED.out
        go_wp2_with fail
        refine (HT.out _ (MM.grown0 R)).mono ?_
        rintro e w2 ⟨rfl, g2⟩
        rw [HE.out]
        go_wp2_with fail
        refine (HT2.out _ ((MM.grown0 R).grown0 g2)).mono ?_
        rintro e w3 ⟨rfl, g3⟩
        go_wp2
        go_ret2
        exact ⟨by rw [HE0.out]; rfl, gb_trans (gb_trans (gb_trans g1 R) g2) g3⟩
      · have e : X ^ H.toNat % P ≠ M := by rw [hXX]; exact HNO.out x hxa (by omega)
        obtain ⟨Y, hY⟩ : ∃ Y, Y = X ^ H.toNat % P := ⟨_, rfl⟩
        rw [← hY] at e
        have HY := Lib.hid hY
        have hb : (Y == M) = false := by simpa using e
        have HT := Lib.hid T
        have HXX := Lib.hid hXX
        rw [← hXX]
        clear T T2 hY e hXX hx63
        have em := EM.out
        have eh := EH.out
        go_wp2_with fail
        refine (HT.out _ (MM.grown0 R)).mono ?_
        rintro e w2 ⟨rfl, g2⟩
        rw [← HY.out]
        go_wp2
        clear hb em eh
        go_roundw
        case rel => exact ⟨x + 1, by rw [HXX.out]; go_num, by omega, by omega, gb_trans R g2⟩
        case measure => rw [HXX.out]; simp [intOf]; omega
end Go.Proofs.YtoiclkaecgpbbaaDoor

/- Transforms: a new plan. -/
namespace Go.Proofs.YtoiclkaecgpbbaaDoor
open Go.RowKit

theorem gcd_of {p r y : Int} (h : Cg p (r * y) 1) : Int.gcd p r = 1 := by
  have h1 : p ∣ r * y - 1 := Int.dvd_of_emod_eq_zero (Int.emod_eq_emod_iff_emod_sub_eq_zero.1 h)
  have h2 : ((Int.gcd p r : Nat) : Int) ∣ p := Int.gcd_dvd_left ..
  have h3 : ((Int.gcd p r : Nat) : Int) ∣ r := Int.gcd_dvd_right ..
  have h4 : ((Int.gcd p r : Nat) : Int) ∣ r * y - (r * y - 1) := Int.dvd_sub (Int.dvd_trans h3 (Int.dvd_mul_right _ _)) (Int.dvd_trans h2 h1)
  rw [show r * y - (r * y - 1) = 1 by omega] at h4
  have := Int.eq_one_of_dvd_one (by omega) h4
  omega
/-- What is asked of a prime and a length, that there be a plan. -/
structure Ok (p log x0 : Nat) : Prop where
  pm : Pm p
  is : isP p = true
  l10 : log ≤ 10
  div : (p - 1) % 2 ^ log = 0
  x2 : 2 ≤ x0
  x64 : x0 < 2 ^ 63
  x : (x0 : Int) ^ ((p - 1) / 2) % p = p - 1
  no : ∀ x, 2 ≤ x → x < x0 → (x : Int) ^ ((p - 1) / 2) % p ≠ p - 1
/-- The root. -/
def rootOf (p log x0 : Nat) : Int := if log = 0 then 1 else (x0 : Int) ^ ((p - 1) / 2 ^ log) % p
theorem Ok.neg {p log x0 : Nat} (h : Ok p log x0) (hl : log ≠ 0) : Cg p (rootOf p log x0 ^ 2 ^ (log - 1)) (-1) := by
  unfold rootOf
  rw [if_neg hl]
  have h1 := (Cg.mod (p : Int) ((x0 : Int) ^ ((p - 1) / 2 ^ log))).pow (2 ^ (log - 1))
  refine h1.trans ?_
  rw [← Int.pow_mul]
  have e : (p - 1) / 2 ^ log * 2 ^ (log - 1) = (p - 1) / 2 := by
    obtain ⟨k, hk⟩ := Nat.dvd_of_mod_eq_zero h.div
    obtain ⟨l, rfl⟩ : ∃ l, log = l + 1 := ⟨log - 1, by omega⟩
    rw [hk, Nat.mul_div_cancel_left _ (Nat.pow_pos (by decide)), Nat.add_sub_cancel, Nat.pow_succ, Nat.mul_comm (2 ^ l) 2, Nat.mul_assoc, Nat.mul_div_cancel_left _ (by decide), Nat.mul_comm]
  rw [e]
  have h2 := h.x
  have h3 : Cg p ((x0 : Int) ^ ((p - 1) / 2)) ((p : Int) - 1) := by
    have := (Cg.mod (p : Int) ((x0 : Int) ^ ((p - 1) / 2))).symm
    rw [h2] at this
    exact this
  refine h3.trans ?_
  have := Cg.add_mult (p : Int) (-1) 1
  rw [show (-1 : Int) + (p : Int) * 1 = (p : Int) - 1 by omega] at this
  exact this
theorem Ok.bd {p log x0 : Nat} (h : Ok p log x0) : 0 ≤ rootOf p log x0 ∧ rootOf p log x0 < p := by
  have := h.pm.lo
  unfold rootOf
  split
  · omega
  · exact ⟨Int.emod_nonneg _ (by omega), Int.emod_lt_of_pos _ (by omega)⟩
theorem Ok.gcd {p log x0 : Nat} (h : Ok p log x0) : Int.gcd p (rootOf p log x0) = 1 := by
  by_cases hl : log = 0
  · have : rootOf p log x0 = 1 := by unfold rootOf; rw [if_pos hl]
    rw [this]
    exact gcd_of (y := 1) (Cg.refl _ _)
  · have h1 := h.neg hl
    have h2 := h1.mul h1
    rw [← Int.pow_add] at h2
    obtain ⟨k, hk⟩ : ∃ k, 2 ^ (log - 1) + 2 ^ (log - 1) = k + 1 := ⟨2 ^ (log - 1) + 2 ^ (log - 1) - 1, by have : 0 < 2 ^ (log - 1) := Nat.pow_pos (by decide); omega⟩
    rw [hk, Int.pow_succ, Int.mul_comm] at h2
    exact gcd_of (h2.trans (Cg.of_eq (by decide)))
theorem two_gcd {p : Int} (hp : p % 2 = 1) (L : Nat) : Int.gcd p ((2 ^ L : Nat) : Int) = 1 := by
  have h : Nat.Coprime p.natAbs 2 := by
    have : p.natAbs % 2 = 1 := by omega
    show Nat.gcd _ 2 = 1
    rw [Nat.gcd_comm, Nat.gcd_rec, this]; rfl
  have h2 := Nat.Coprime.pow_right L h
  show Nat.gcd p.natAbs ((2 ^ L : Nat) : Int).natAbs = 1
  rw [Int.natAbs_natCast]
  exact h2
set_option maxRecDepth 100000 in
set_option maxHeartbeats 4000000 in
theorem new_c (w : World) (gm p log x0 : Nat) (h : Ok p log x0) (hgm : gm < w.heap.size) (hd : Db w) :
    Calls Tryd.prog 60 #[.pointer (some ⟨gm, 0, none⟩), .int .u64 p, .int .i64 log] w fun e w' => ∃ t z, e = .returned (.tuple #[.pointer (some ⟨t, 0, none⟩), .int .i64 0]) ∧ Pl w' t gm p (rootOf p log x0) z log ∧ w.heap.size ≤ t ∧ w.grownBy w' none := by
  have R := root_c w p log x0 h.pm h.is (by have := h.l10; omega) h.div h.x2 h.x64 h.x h.no hd
  change Calls Tryd.prog 55 _ w (fun e w' => e = .returned (.tuple #[.int .u64 (rootOf p log x0), .int .i64 0]) ∧ w.grownBy w' none) at R
  have M := fun w => modNew_ok w p h.pm
  have neg := h.neg
  have bd := h.bd
  have gc := h.gcd
  have g2 := two_gcd h.pm.odd log
  have h10 := h.l10
  have p3 := h.pm.lo
  have p62 := h.pm.hi
  obtain ⟨r, hr⟩ : ∃ r, r = rootOf p log x0 := ⟨_, rfl⟩
  obtain ⟨P, hP⟩ : ∃ P : Int, P = (p : Int) := ⟨_, rfl⟩
  rw [← hr, ← hP] at R neg bd gc ⊢
  rw [← hP] at M g2 p3 p62
  obtain ⟨q, hq⟩ : ∃ q, q = 2 ^ log := ⟨_, rfl⟩
  have hq10 : q ≤ 1024 := by rw [hq]; exact Nat.pow_le_pow_right (by decide) h10
  have hq0 : 0 < q := by rw [hq]; exact Nat.pow_pos (by decide)
  have eq : (2 : Int) ^ log = (q : Int) := by rw [hq, Int.natCast_pow]; rfl
  have hw1 : IntKind.u64.wrap (2 ^ log) = (q : Int) := by rw [eq, IntKind.wrap_u64]; omega
  have hw2 : IntKind.u64.wrap (1 * 2 ^ log) = (q : Int) := by rw [Int.one_mul]; exact hw1
  rw [← hq] at g2
  obtain ⟨hf, hhf⟩ : ∃ y, y = q / 2 := ⟨_, rfl⟩
  have eh : (q : Int) / 2 = (hf : Int) := by omega
  have HR := Lib.hid R
  have HM := Lib.hid M
  have NEG := Lib.hid neg
  have BD := Lib.hid bd
  have GC := Lib.hid gc
  have G2 := Lib.hid g2
  have HQ := Lib.hid hq
  have HHF := Lib.hid hhf
  have HGM := Lib.hid hgm
  have r0 := bd.1
  clear R M neg bd gc g2 h hr hP hq eq hhf hd hgm
  go_enter Tryd.func60, Tryd.ntmps60
  go_wp2_with fail
  refine (HR.out).mono ?_
  rintro e w1 ⟨rfl, k1⟩
  go_wp2_with fail
  refine (HM.out _).mono ?_
  rintro e w2 ⟨g0, rfl, md, hg0, k2⟩
  have C0 := cs_new w2 #[.pointer (some ⟨g0, 0, none⟩), .pointer (some ⟨gm, 0, none⟩), .int .i64 log, .slice none 0 0, .slice none 0 0, .slice none 0 0, .slice none 0 0, .int .u64 0] 59
  have M0 := md.grown0 (gb_alloc (gb_refl w2 none) (Obj.cells #[.pointer (some ⟨g0, 0, none⟩), .pointer (some ⟨gm, 0, none⟩), .int .i64 log, .slice none 0 0, .slice none 0 0, .slice none 0 0, .slice none 0 0, .int .u64 0] 59))
  have KA := Lib.hid (gb_alloc (gb_trans k1 k2) (Obj.cells #[.pointer (some ⟨g0, 0, none⟩), .pointer (some ⟨gm, 0, none⟩), .int .i64 log, .slice none 0 0, .slice none 0 0, .slice none 0 0, .slice none 0 0, .int .u64 0] 59))
  have hgt : g0 < w2.heap.size := World.block_lt_of_cell? w2 _ md.c0
  have hts : w.heap.size ≤ w2.heap.size := (gb_trans k1 k2).size
  have hgg : gm ≠ g0 := by have := HGM.out; have := k1.size; omega
  have h7 : w2.heap.size < (w2.alloc (Obj.cells #[.pointer (some ⟨g0, 0, none⟩), .pointer (some ⟨gm, 0, none⟩), .int .i64 log, .slice none 0 0, .slice none 0 0, .slice none 0 0, .slice none 0 0, .int .u64 0] 59)).heap.size := by simp
  have H7 := Lib.hid h7
  have CC := Lib.hid C0
  have MM := Lib.hid M0
  obtain ⟨t, ht⟩ : ∃ t, t = w2.heap.size := ⟨_, rfl⟩
  have HT := Lib.hid ht
  have HTS := Lib.hid hts
  have HGG := Lib.hid hgg
  have HGT := Lib.hid hgt
  clear C0 M0 md hg0 k1 k2 hgt hts hgg h7 ht
  have mdr : ∀ W u j, Md W g0 P → Md (W.setCell ⟨w2.heap.size, j, none⟩ u) g0 P := fun W u j h => h.grown (gb_rowC (gb_refl W (some w2.heap.size)) j u) (by have := HGT.out; simp; omega)
  have MDR := Lib.hid mdr
  clear mdr
  go_wp2_with fail
  refine (modInv_c _ g0 P (q : Int) MM.out (by omega)).mono ?_
  rintro e w3 ⟨⟨u, f, rfl, I⟩, k3⟩
  obtain ⟨rfl, un0, un1, uc⟩ := I.is G2.out
  have C1 := Lib.hid (CC.out.grown0 k3)
  have M1 := Lib.hid (MDR.out _ (.int .u64 u) 7 (MM.out.grown0 k3))
  have K1 := Lib.hid (gb_set (p := ⟨w2.heap.size, 7, none⟩) (gb_trans KA.out k3) HTS.out (.int .u64 u))
  have S1 : w2.heap.size < w3.heap.size := Nat.lt_of_lt_of_le H7.out k3.size
  have c7 := C1.out.cell 7 rfl
  have f7 := C1.out.free 7 rfl
  have UC := Lib.hid uc
  clear I k3 uc CC MM KA
  go_wp2_with fail
  refine (modInv_c _ g0 P r M1.out r0).mono ?_
  rintro e w4 ⟨⟨z, f, rfl, I⟩, k4⟩
  obtain ⟨rfl, z0, z1, zc⟩ := I.is GC.out
  have C2 := Lib.hid ((C1.out.set 7 (.int .u64 u)).grown0 k4)
  have M2 := Lib.hid (M1.out.grown0 k4)
  have K2 := Lib.hid (gb_trans K1.out k4)
  have S2 : w2.heap.size < w4.heap.size := by have := k4.size; simp at this; omega
  have ZC := Lib.hid zc
  clear I k4 zc C1 M1 K1 c7 f7 S1
  go_wp2_with fail
  refine (powers_c _ g0 P r hf M2.out r0 (by omega)).mono ?_
  rintro e w5 ⟨b1, b2, rfl, pw1, k5⟩
  have C3 := Lib.hid (C2.out.grown0 k5)
  have c3 := C3.out.cell 3 rfl
  have f3 := C3.out.free 3 rfl
  have c5 := C3.out.cell 5 rfl
  have f5 := C3.out.free 5 rfl
  have S3 : w2.heap.size < w5.heap.size := by have := k5.size; omega
  have g1 := gb_rowC (gb_rowC (gb_refl w5 (some w2.heap.size)) 3 (.slice (some ⟨b1, 0, none⟩) hf hf)) 5 (.slice (some ⟨b2, 0, none⟩) hf hf)
  have C4 := Lib.hid ((C3.out.set 3 (.slice (some ⟨b1, 0, none⟩) hf hf)).set 5 (.slice (some ⟨b2, 0, none⟩) hf hf))
  have M4 := Lib.hid (MDR.out _ (.slice (some ⟨b2, 0, none⟩) hf hf) 5 (MDR.out _ (.slice (some ⟨b1, 0, none⟩) hf hf) 3 (M2.out.grown0 k5)))
  have P1 := Lib.hid ((pw1 gm (by have := HGM.out; have := HTS.out; omega)).two (pw1 w2.heap.size S2) g1)
  have P1t := Lib.hid ((pw1 w2.heap.size S2).two (pw1 w2.heap.size S2) g1)
  have K3 := Lib.hid (gb_set (p := ⟨w2.heap.size, 5, none⟩) (gb_set (p := ⟨w2.heap.size, 3, none⟩) (gb_trans K2.out k5) HTS.out (.slice (some ⟨b1, 0, none⟩) hf hf)) HTS.out (.slice (some ⟨b2, 0, none⟩) hf hf))
  clear pw1 k5 g1 C2 M2 K2 S2 C3
  go_wp2_with fail
  refine (powers_c _ g0 P z hf M4.out z0 (by omega)).mono ?_
  rintro e w6 ⟨b3, b4, rfl, pw2, k6⟩
  have C5 := Lib.hid (C4.out.grown0 k6)
  clear c3 f3 c5 f5
  have c4 := C5.out.cell 4 rfl
  have f4 := C5.out.free 4 rfl
  have c6 := C5.out.cell 6 rfl
  have f6 := C5.out.free 6 rfl
  have S4 : w2.heap.size < ((w5.setCell ⟨w2.heap.size, 3, none⟩ (.slice (some ⟨b1, 0, none⟩) hf hf)).setCell ⟨w2.heap.size, 5, none⟩ (.slice (some ⟨b2, 0, none⟩) hf hf)).heap.size := by simpa using S3
  have g2 := gb_rowC (gb_rowC (gb_refl w6 (some w2.heap.size)) 4 (.slice (some ⟨b3, 0, none⟩) hf hf)) 6 (.slice (some ⟨b4, 0, none⟩) hf hf)
  have CF := (C5.out.set 4 (.slice (some ⟨b3, 0, none⟩) hf hf)).set 6 (.slice (some ⟨b4, 0, none⟩) hf hf)
  have MF := MDR.out _ (.slice (some ⟨b4, 0, none⟩) hf hf) 6 (MDR.out _ (.slice (some ⟨b3, 0, none⟩) hf hf) 4 (M4.out.grown0 k6))
  have PA := (P1.out.grown0 k6).two (P1t.out.grown0 k6) g2
  have PB := (pw2 gm (by have := HGM.out; have := HTS.out; omega)).two (pw2 w2.heap.size S4) g2
  have KF := gb_set (p := ⟨w2.heap.size, 6, none⟩) (gb_set (p := ⟨w2.heap.size, 4, none⟩) (gb_trans K3.out k6) HTS.out (.slice (some ⟨b3, 0, none⟩) hf hf)) HTS.out (.slice (some ⟨b4, 0, none⟩) hf hf)
  have PL : Pl ((w6.setCell ⟨w2.heap.size, 4, none⟩ (.slice (some ⟨b3, 0, none⟩) hf hf)).setCell ⟨w2.heap.size, 6, none⟩ (.slice (some ⟨b4, 0, none⟩) hf hf)) w2.heap.size gm P r z log :=
    ⟨⟨g0, CF.cell 0 rfl, MF, Ne.symm HGG.out⟩, CF.cell 1 rfl, CF.cell 2 rfl, ⟨(.slice (some ⟨b1, 0, none⟩) hf hf), (.slice (some ⟨b2, 0, none⟩) hf hf), CF.cell 3 rfl, CF.cell 5 rfl, by rw [← HQ.out, ← HHF.out]; exact PA⟩, ⟨(.slice (some ⟨b3, 0, none⟩) hf hf), (.slice (some ⟨b4, 0, none⟩) hf hf), CF.cell 4 rfl, CF.cell 6 rfl, by rw [← HQ.out, ← HHF.out]; exact PB⟩,
      ⟨u, CF.cell 7 rfl, un0, un1, by rw [← HQ.out]; exact UC.out⟩, by have := HGM.out; have := HTS.out; omega, h10, BD.out, ⟨z0, z1⟩, ZC.out, NEG.out⟩
  have PLH := Lib.hid PL
  have KFH := Lib.hid KF
  clear PL KF PA PB CF MF g2 pw2 k6
  go_wp2
  go_ret2
  exact ⟨w2.heap.size, z, rfl, PLH.out, HTS.out, KFH.out⟩
end Go.Proofs.YtoiclkaecgpbbaaDoor

/- Which primes there are plans of. Plain. -/
namespace Go.Proofs.YtoiclkaecgpbbaaDoor

structure OkP (p x0 : Nat) : Prop where
  pm : Pm p
  is : isP p = true
  x2 : 2 ≤ x0
  x64 : x0 < 2 ^ 63
  x : (x0 : Int) ^ ((p - 1) / 2) % p = p - 1
  no : ∀ x, 2 ≤ x → x < x0 → (x : Int) ^ ((p - 1) / 2) % p ≠ p - 1
theorem OkP.ok {p x0 L : Nat} (h : OkP p x0) (hL : L ≤ 10) (hd : (p - 1) % 2 ^ L = 0) : Ok p L x0 := ⟨h.pm, h.is, hL, hd, h.x2, h.x64, h.x, h.no⟩
def okB (p x0 : Nat) : Bool := decide (3 ≤ p) && decide (p < 4611686018427387904) && decide (p % 2 = 1) && isF p && decide (2 ≤ x0) && decide (x0 < 100) && decide (pmF 64 x0 ((p - 1) / 2) p = p - 1) && (List.range x0).all fun x => decide (x < 2) || decide (pmF 64 x ((p - 1) / 2) p ≠ p - 1)
theorem okP_of {p x0 : Nat} (h : okB p x0 = true) : OkP p x0 := by
  unfold okB at h
  simp only [Bool.and_eq_true, decide_eq_true_eq, List.all_eq_true, Bool.or_eq_true] at h
  obtain ⟨⟨⟨⟨⟨⟨⟨h1, h2⟩, h3⟩, h4⟩, h5⟩, h6⟩, h7⟩, h8⟩ := h
  have hE : (p - 1) / 2 < 2 ^ 64 := by omega
  have pw : ∀ a : Nat, (a : Int) ^ ((p - 1) / 2) % (p : Int) = ((pmF 64 a ((p - 1) / 2) p : Nat) : Int) := fun a => by
    rw [← Int.natCast_pow, ← Int.natCast_emod, ← pmF_spec 64 a _ p hE]
  refine ⟨⟨by omega, by omega, by omega⟩, by rw [isF_eq (by omega)]; exact h4, h5, by omega, by rw [pw, h7]; omega, fun x a b => ?_⟩
  rw [pw]
  rcases h8 x (List.mem_range.2 b) with k | k
  · omega
  · omega
def fieldL : List Nat := [17, 97, 193, 257, 769, 12289, 40961, 65537, 998244353, 180143985094819841, 1945555039024054273, 4179340454199820289]
def fieldX : List Nat := [3, 5, 5, 3, 7, 11, 3, 3, 3, 3, 5, 3]
theorem field_ok : ((List.range 12).all fun i => okB (fieldL.getD i 0) (fieldX.getD i 0)) = true := by decide +kernel
theorem field_at (i : Nat) (hi : i < 12) : OkP (fieldL.getD i 0) (fieldX.getD i 0) := okP_of (List.all_eq_true.1 field_ok i (List.mem_range.2 hi))
end Go.Proofs.YtoiclkaecgpbbaaDoor

/- Transforms: the statements' plans. -/
namespace Go.Proofs.YtoiclkaecgpbbaaDoor
open Go.RowKit

theorem results_tmp5 {fn : Func} {a b c d e : Tmp} (h : fn.results = #[.tmp a, .tmp b, .tmp c, .tmp d, .tmp e]) (tmps : Array Value) (P : Program) (w : World) :
    (results fn tmps).run P w = .ok (.tuple #[tmps.getD a undef, tmps.getD b undef, tmps.getD c undef, tmps.getD d undef, tmps.getD e undef]) w := by
  simp [results, h]
theorem fieldL_cell (w : World) (g : Nat) (h : Cs w g [.int .u64 17, .int .u64 97, .int .u64 193, .int .u64 257, .int .u64 769, .int .u64 12289, .int .u64 40961, .int .u64 65537, .int .u64 998244353, .int .u64 180143985094819841, .int .u64 1945555039024054273, .int .u64 4179340454199820289]) (q : Nat) (hq : q < 12) :
    w.cell? ⟨g, q, none⟩ = some (.int .u64 ((fieldL.getD q 0 : Nat) : Int)) := by
  refine h.cell q ?_
  rcases (show q = 0 ∨ q = 1 ∨ q = 2 ∨ q = 3 ∨ q = 4 ∨ q = 5 ∨ q = 6 ∨ q = 7 ∨ q = 8 ∨ q = 9 ∨ q = 10 ∨ q = 11 by omega) with rfl | rfl | rfl | rfl | rfl | rfl | rfl | rfl | rfl | rfl | rfl | rfl <;> rfl
set_option maxRecDepth 100000 in
theorem field_c (w : World) (k : Int) (h : -9223372036854775808 ≤ k ∧ k ≤ 9223372036854775807) :
    Calls Tryd.prog 59 #[.int .i64 k] w fun e w' => ∃ p x0 : Nat, OkP p x0 ∧ e = .returned (.int .u64 p) ∧ w.grownBy w' none := by
  obtain ⟨H1, H2⟩ := h
  go_enter Tryd.func59, Tryd.ntmps59
  go_wp2_with fail
  refine (within_c k 12 (by decide) (by decide) _).mono ?_
  rintro e v4 ⟨rfl, hv4⟩
  subst hv4
  obtain ⟨q, hq⟩ : ∃ q : Nat, (q : Int) = k % 12 := ⟨(k % 12).toNat, by omega⟩
  have hq12 : q < 12 := by omega
  rw [← hq]
  have c := fieldL_cell _ _ (cs_newg w #[.int .u64 17, .int .u64 97, .int .u64 193, .int .u64 257, .int .u64 769, .int .u64 12289, .int .u64 40961, .int .u64 65537, .int .u64 998244353, .int .u64 180143985094819841, .int .u64 1945555039024054273, .int .u64 4179340454199820289] 22 w.heap.size rfl) q hq12
  obtain ⟨x, hx⟩ : ∃ x : Int, x = ((fieldL.getD q 0 : Nat) : Int) := ⟨_, rfl⟩
  rw [← hx] at c
  have HX := Lib.hid hx
  clear hx hq H1 H2
  go_wp2
  go_ret
  exact ⟨_, _, field_at q hq12, by rw [← HX.out]; rfl, gb_alloc (gb_refl w none) _⟩
theorem cell_alloc_new (w : World) (cs : Array Value) (t : TypeId) (j : Nat) : (w.alloc (.cells cs t)).cell? ⟨w.heap.size, j, none⟩ = cs[j]? := by
  unfold World.cell?
  have : (w.alloc (.cells cs t)).heap[w.heap.size]? = some (.cells cs t) := by unfold World.alloc; exact Array.getElem?_push_size
  simp only [this]
  rfl
theorem mt_newT (w : World) (g : Nat) (cs : Array Value) (t : TypeId) (T : Nat → Option Value) (hg : g = w.heap.size) (h0 : cs[0]? = some (.int .i64 0)) (h1 : cs[1]? = some (.int .i64 0)) (h2 : cs[2]? = some (.int .i64 0)) (hT : ∀ j, 3 ≤ j → cs[j]? = T j) : Mt (w.alloc (.cells cs t)) g 0 0 ⟨0, T⟩ := by
  have C := cs_newg w cs t g hg
  have k0 : cs.toList[0]? = some (.int .i64 0) := by rw [Array.getElem?_toList]; exact h0
  have k1 : cs.toList[1]? = some (.int .i64 0) := by rw [Array.getElem?_toList]; exact h1
  have k2 : cs.toList[2]? = some (.int .i64 0) := by rw [Array.getElem?_toList]; exact h2
  refine ⟨C.cell 0 k0, C.cell 1 k1, C.cell 2 k2, C.free 0 k0, C.free 1 k1, C.free 2 k2, by decide, by decide, by show (0 : Int) ≤ 0; decide, fun j hj => ?_⟩
  subst hg
  rw [cell_alloc_new]
  exact hT j hj
theorem mt_newg (w : World) (g : Nat) (cs : Array Value) (t : TypeId) (hg : g = w.heap.size) (h0 : cs[0]? = some (.int .i64 0)) (h1 : cs[1]? = some (.int .i64 0)) (h2 : cs[2]? = some (.int .i64 0)) (h3 : cs.size = 3) : Mt (w.alloc (.cells cs t)) g 0 0 0 :=
  mt_newT w g cs t _ hg h0 h1 h2 (fun j hj => by show cs[j]? = none; rw [Array.getElem?_eq_none]; omega)
set_option maxRecDepth 100000 in
set_option maxHeartbeats 2000000 in
theorem plan_c (w : World) (k log : Int) (hk : -9223372036854775808 ≤ k ∧ k ≤ 9223372036854775807) (_hl : -9223372036854775808 ≤ log ∧ log ≤ 9223372036854775807) (hd : Db w) :
    Calls Tryd.prog 24 #[.int .i64 k, .int .i64 log] w fun e w' => ∃ t gm p L x0 z, e = .returned (.tuple #[.pointer (some ⟨t, 0, none⟩), .pointer (some ⟨gm, 0, none⟩), .int .u64 (p : Nat), .int .i64 (L : Nat), .bool true]) ∧ Ok p L x0 ∧ L ≤ 5 ∧
      Pl w' t gm p (rootOf p L x0) z L ∧ Mt w' gm 0 0 0 ∧ w.heap.size ≤ gm ∧ w.heap.size ≤ t ∧ w.grownBy w' none := by
  have F := fun w => field_c w k hk
  have HF := Lib.hid F
  have HD := Lib.hid hd
  clear F hk hd
  go_enter Tryd.func24, Tryd.ntmps24
  go_wp2_with fail
  refine (HF.out _).mono ?_
  rintro e w1 ⟨p, x0, O, rfl, g1⟩
  go_wp2_with fail
  refine (within_c log 6 (by decide) (by decide) _).mono ?_
  rintro e v4 ⟨rfl, hv4⟩
  subst hv4
  obtain ⟨q, hq⟩ : ∃ q : Nat, (q : Int) = log % 6 := ⟨(log % 6).toNat, by omega⟩
  have hq5 : q ≤ 5 := by omega
  rw [← hq]
  clear hq _hl
  have plo := O.pm.lo
  have phi := O.pm.hi
  obtain ⟨P, hP⟩ : ∃ P : Int, P = (p : Int) := ⟨_, rfl⟩
  rw [← hP]
  rw [← hP] at plo phi
  have HO := Lib.hid O
  have HP := Lib.hid hP
  have G1 := Lib.hid g1
  clear O hP g1 HF
  obtain ⟨M, hM⟩ : ∃ M : Int, M = P - 1 := ⟨_, rfl⟩
  have em : P - 1 = M := hM.symm
  have bM : 2 ≤ M ∧ M < 4611686018427387904 := by omega
  have HM := Lib.hid hM
  clear hM plo phi
  go_wp2
  go_loopw [1] (fun v1 wr => ∃ (L : Nat), v1 = .int .i64 L ∧ L ≤ 5 ∧ v4.grownBy wr none) (fun v1 _ => (intOf v1).toNat)
  case atStart => exact ⟨q, rfl, hq5, gb_refl _ _⟩
  case round =>
    obtain ⟨L, rfl, hL, G⟩ := hrel
    clear hq5
    obtain ⟨n, hn⟩ : ∃ n, n = 2 ^ L := ⟨_, rfl⟩
    have hn32 : n ≤ 2 ^ 5 := by rw [hn]; exact Nat.pow_le_pow_right (by decide) hL
    have hn0 : 0 < n := by rw [hn]; exact Nat.pow_pos (by decide)
    have en : (2 : Int) ^ L = (n : Int) := by rw [hn, Int.natCast_pow]; rfl
    have hw : IntKind.u64.wrap (2 ^ L) = (n : Int) := by rw [en, IntKind.wrap_u64]; omega
    have hw2 : IntKind.u64.wrap (1 * 2 ^ L) = (n : Int) := by rw [Int.one_mul]; exact hw
    have HN := Lib.hid hn
    have n0 : (n : Int) ≠ 0 := by omega
    obtain ⟨z, hz⟩ : ∃ z, z = M % (n : Int) := ⟨_, rfl⟩
    have hz' := hz.symm
    have HZ := Lib.hid hz
    have z0 : 0 ≤ z := by rw [hz]; exact Int.emod_nonneg _ n0
    clear hn en hz hn0
    by_cases hgo : 0 < L ∧ z ≠ 0
    · obtain ⟨hL0, hz0⟩ := hgo
      have b1 : (z != 0) = true := by simpa using hz0
      have b2 : decide ((L : Int) > 0) = true := decide_eq_true (by omega)
      go_wp2
      clear b1 b2 hz' hw hw2
      go_roundw
      case rel => exact ⟨L - 1, by go_num, by omega, G⟩
      case measure => simp [intOf]; omega
    · have hdv : (p - 1) % 2 ^ L = 0 := by
        by_cases hL0 : L = 0
        · rw [hL0]; exact Nat.mod_one _
        · have hz0 : z = 0 := by
            by_cases e : z = 0
            · exact e
            · exact absurd ⟨by omega, e⟩ hgo
          have h1 := HZ.out
          rw [hz0, HM.out, HP.out] at h1
          rw [← HN.out]
          have e1 := HO.out.pm.lo
          have e : ((p - 1 : Nat) : Int) = (p : Int) - 1 := by omega
          apply Int.ofNat_inj.1
          rw [Int.natCast_emod, e]
          exact h1.symm
      have ok := HO.out.ok (by omega) hdv
      have OK := Lib.hid ok
      clear ok hdv HZ HN
      obtain ⟨wo, rfl⟩ : ∃ wo : World, wo = wr := ⟨_, rfl⟩
      have MM := Lib.hid (mt_newg wo wo.heap.size #[.int .i64 0, .int .i64 0, .int .i64 0] 64 rfl rfl rfl rfl rfl)
      have GA := Lib.hid (gb_alloc (gb_trans G1.out G) (Obj.cells #[.int .i64 0, .int .i64 0, .int .i64 0] 64))
      have HH := Lib.hid (gb_trans G1.out G).size
      clear G
      have hs : wo.heap.size < (wo.alloc (Obj.cells #[.int .i64 0, .int .i64 0, .int .i64 0] 64)).heap.size := by simp
      have N := new_c _ wo.heap.size p L x0 OK.out hs (HD.out.grown0 GA.out)
      rw [← HP.out] at N
      have HN := Lib.hid N
      clear N hs
      by_cases hL0 : 0 < L
      · have hz0 : z = 0 := by
          by_cases e : z = 0
          · exact e
          · exact absurd ⟨hL0, e⟩ hgo
        subst hz0
        clear hgo
        go_wp2_with fail
        refine (HN.out).mono ?_
        rintro e w2 ⟨t, zz, rfl, pl, ht, g2⟩
        go_wp2
        (try simp only [Exit.inBlock, Exit.then])
        refine bodyPost_ret (results_tmp5 rfl _ _ _) rfl ?_
        exact ⟨t, wo.heap.size, p, L, x0, zz, by rw [← HP.out]; rfl, OK.out, hL, by rw [← HP.out]; exact pl, MM.out.grown g2, HH.out, by have := HH.out; simp at ht; omega, gb_trans GA.out g2⟩
      · obtain rfl : L = 0 := by omega
        clear hgo hL0
        go_wp2_with fail
        refine (HN.out).mono ?_
        rintro e w2 ⟨t, zz, rfl, pl, ht, g2⟩
        go_wp2
        (try simp only [Exit.inBlock, Exit.then])
        refine bodyPost_ret (results_tmp5 rfl _ _ _) rfl ?_
        exact ⟨t, wo.heap.size, p, 0, x0, zz, by rw [← HP.out]; rfl, OK.out, hL, by rw [← HP.out]; exact pl, MM.out.grown g2, HH.out, by have := HH.out; simp at ht; omega, gb_trans GA.out g2⟩
end Go.Proofs.YtoiclkaecgpbbaaDoor

/- Sums of products by three primes: plain, and memory. -/
namespace Go.Proofs.YtoiclkaecgpbbaaDoor
open Go.RowKit

theorem cell_kind {w : World} {b g : Nat} {x y : Value} (h : w.cell? ⟨b, 0, none⟩ = some x) (k : w.cell? ⟨g, 0, none⟩ = some y) (hne : x ≠ y) : b ≠ g := fun e => by
  subst e
  rw [h] at k
  exact hne (Option.some.inj k)
theorem Md.mt {w : World} {g gm : Nat} {p a b : Int} {c : Mc} (h : Md w g p) (m : Mt w gm a b c) : g ≠ gm := cell_kind h.c0 m.c0 (by simp)
theorem Db.grown {w w' : World} {gm : Nat} {a b : Int} {c : Mc} (h : Db w) (m : Mt w gm a b c) (g : w.grownBy w' (some gm)) : Db w' := fun i hi => by
  refine gb_cell g (h i hi) ?_
  have := cell_kind (h 0 (by decide)) m.c0 (by simp)
  simpa using this
theorem Crt.grown {w w' : World} {g gm : Nat} {p0 p1 p2 i01 i2 hi lo a b : Int} {c : Mc} (h : Crt w g p0 p1 p2 i01 i2 hi lo) (m : Mt w gm a b c) (k : w.grownBy w' (some gm)) : Crt w' g p0 p1 p2 i01 i2 hi lo := by
  have ng : some g ≠ some gm := by
    have := cell_kind h.c0 m.c0 (by simp)
    simpa using this
  obtain ⟨q0, q1, q2, c0, c1, c2, ⟨g1, m1, d1⟩, ⟨g2, m2, d2⟩, c6, c7, c8, c9, i0, i1, ci, ci2, ehi, elo⟩ := h
  exact ⟨q0, q1, q2, gb_cell k c0 ng, gb_cell k c1 ng, gb_cell k c2 ng, ⟨g1, gb_cell k m1 ng, d1.grown k (by have := d1.mt m; simpa using this)⟩, ⟨g2, gb_cell k m2 ng, d2.grown k (by have := d2.mt m; simpa using this)⟩, gb_cell k c6 ng, gb_cell k c7 ng, gb_cell k c8 ng, gb_cell k c9 ng, i0, i1, ci, ci2, ehi, elo⟩
/-! ### The three primes -/
def pr3 (k : Nat) : Nat := fieldL.getD (9 + k) 0
def px3 (k : Nat) : Nat := fieldX.getD (9 + k) 0
theorem pr3_ok (k : Nat) (hk : k < 3) : OkP (pr3 k) (px3 k) := field_at (9 + k) (by omega)
theorem pr3_div (k L : Nat) (hk : k < 3) (hL : L ≤ 10) : (pr3 k - 1) % 2 ^ L = 0 := by
  have h : (pr3 k - 1) % 2 ^ 10 = 0 := by
    rcases (show k = 0 ∨ k = 1 ∨ k = 2 by omega) with rfl | rfl | rfl <;> decide
  have h1 : 2 ^ L ∣ 2 ^ 10 := Nat.pow_dvd_pow 2 hL
  exact Nat.mod_eq_zero_of_dvd (Nat.dvd_trans h1 (Nat.dvd_of_mod_eq_zero h))
theorem pr3_okL (k L : Nat) (hk : k < 3) (hL : L ≤ 10) : Ok (pr3 k) L (px3 k) := (pr3_ok k hk).ok hL (pr3_div k L hk hL)
/-- A number is known by its three remainders. -/
theorem crt_gen {T F : Int} {p q r : Nat} (c1 : Nat.Coprime p q) (c2 : Nat.Coprime (p * q) r) (hlt : (T - F).natAbs < p * q * r) (h0 : Cg (p : Int) T F) (h1 : Cg (q : Int) T F) (h2 : Cg (r : Int) T F) : T = F := by
  have d : ∀ p : Nat, Cg (p : Int) T F → p ∣ (T - F).natAbs := fun p h => Int.natCast_dvd_natCast.1 (Int.dvd_natAbs.2 (Int.dvd_of_emod_eq_zero (Int.emod_eq_emod_iff_emod_sub_eq_zero.1 h)))
  have k01 := Nat.Coprime.mul_dvd_of_dvd_of_dvd c1 (d _ h0) (d _ h1)
  have k012 := Nat.Coprime.mul_dvd_of_dvd_of_dvd c2 k01 (d _ h2)
  have := Nat.eq_zero_of_dvd_of_lt k012 hlt
  omega
theorem cop01 : Nat.Coprime (pr3 0) (pr3 1) := by decide +kernel
theorem cop2 : Nat.Coprime (pr3 0 * pr3 1) (pr3 2) := by decide +kernel
theorem pr3_prod : pr3 0 * pr3 1 * pr3 2 = 1464775400998524149974961049645758437266489031708901377 := by decide +kernel
theorem crt_one {T F : Int} (hT : T < 1464775400998524149974961049645758437266489031708901377) (hT0 : 0 ≤ T) (hF : F < 1464775400998524149974961049645758437266489031708901377) (hF0 : 0 ≤ F)
    (h0 : Cg ((pr3 0 : Nat) : Int) T F) (h1 : Cg ((pr3 1 : Nat) : Int) T F) (h2 : Cg ((pr3 2 : Nat) : Int) T F) : T = F :=
  crt_gen cop01 cop2 (by rw [pr3_prod]; omega) h0 h1 h2
/-! ### Sums of products of words -/
theorem sumI_nonneg {f : Nat → Int} : ∀ n, (∀ k, k < n → 0 ≤ f k) → 0 ≤ sumI f n
  | 0, _ => Int.le_refl _
  | n + 1, h => by rw [sumI]; exact Int.add_nonneg (sumI_nonneg n fun k hk => h k (by omega)) (h n (by omega))
theorem sumI_le {f : Nat → Int} {c : Int} : ∀ n, (∀ k, k < n → f k ≤ c) → sumI f n ≤ n * c
  | 0, _ => by simp [sumI]
  | n + 1, h => by
    have h1 := sumI_le n fun k hk => h k (by omega)
    have h2 := h n (by omega)
    rw [sumI, show ((n + 1 : Nat) : Int) = (n : Int) + 1 by omega, Int.add_mul, Int.one_mul]
    omega
theorem mul_words {a b : Int} (a0 : 0 ≤ a) (a1 : a < 18446744073709551616) (b0 : 0 ≤ b) (b1 : b < 18446744073709551616) : 0 ≤ a * b ∧ a * b ≤ 340282366920938463463374607431768211456 := by
  refine ⟨Int.mul_nonneg a0 b0, ?_⟩
  have := Int.mul_le_mul (show a ≤ 18446744073709551616 by omega) (show b ≤ 18446744073709551616 by omega) b0 (by decide)
  omega
theorem cv_bound {xs ys : List Int} (hx : Ws xs) (hy : Ws ys) {j : Nat} (hj : j < 2048) : 0 ≤ cv (rd xs) (rd ys) j ∧ cv (rd xs) (rd ys) j < 1464775400998524149974961049645758437266489031708901377 := by
  have b : ∀ t, t < j + 1 → 0 ≤ rd xs t * rd ys (j - t) ∧ rd xs t * rd ys (j - t) ≤ 340282366920938463463374607431768211456 := fun t _ => mul_words (rd_w hx t).1 (rd_w hx t).2 (rd_w hy _).1 (rd_w hy _).2
  refine ⟨sumI_nonneg _ fun t ht => (b t ht).1, ?_⟩
  have h1 := sumI_le (f := fun t => rd xs t * rd ys (j - t)) (j + 1) (fun t ht => (b t ht).2)
  unfold cv
  have h2 : ((j + 1 : Nat) : Int) * 340282366920938463463374607431768211456 ≤ 2048 * 340282366920938463463374607431768211456 := Int.mul_le_mul_of_nonneg_right (by omega) (by decide)
  omega
/-! ### Rows of threes -/
theorem made3 (n : Nat) : (madeCells #[.int .u64 0, .int .u64 0, .int .u64 0] n).toList = nums (List.replicate n 0) := by
  apply List.ext_getElem?
  intro j
  by_cases hj : j < n
  · have h3 : j % 3 = 0 ∨ j % 3 = 1 ∨ j % 3 = 2 := by omega
    rcases h3 with h | h | h <;> simp [madeCells, nums, hj, h]
  · simp [madeCells, nums, hj]
def set3 (xs : List Int) (i : Nat) (a b c : Int) : List Int := ((xs.set (3 * i) a).set (3 * i + 1) b).set (3 * i + 2) c
theorem set3_len (xs : List Int) (i : Nat) (a b c : Int) : (set3 xs i a b c).length = xs.length := by simp [set3]
theorem t3_set3_ne {xs : List Int} {i k : Nat} (h : k ≠ i) (a b c : Int) : t3 (set3 xs i a b c) k = t3 xs k := by
  unfold t3 set3
  rw [rd_set_ne (by omega), rd_set_ne (by omega), rd_set_ne (by omega), rd_set_ne (by omega), rd_set_ne (by omega), rd_set_ne (by omega), rd_set_ne (by omega), rd_set_ne (by omega), rd_set_ne (by omega)]
theorem t3_set3_self {xs : List Int} {i : Nat} (h : 3 * i + 2 < xs.length) {a b c F : Int} (a0 : 0 ≤ a) (b0 : 0 ≤ b) (c0 : 0 ≤ c) (hF : a + 18446744073709551616 * (b + 18446744073709551616 * c) = F) : t3 (set3 xs i a b c) i = F.toNat := by
  have e0 : rd (set3 xs i a b c) (3 * i) = a := by
    unfold set3
    rw [rd_set_ne (by omega), rd_set_ne (by omega), rd_set_self (by omega)]
  have e1 : rd (set3 xs i a b c) (3 * i + 1) = b := by
    unfold set3
    rw [rd_set_ne (by omega), rd_set_self (by rw [List.length_set]; omega)]
  have e2 : rd (set3 xs i a b c) (3 * i + 2) = c := by
    unfold set3
    rw [rd_set_self (by rw [List.length_set, List.length_set]; omega)]
  unfold t3
  rw [e0, e1, e2]
  simp only [val]
  omega
/-- k threes are made. -/
structure Jo3 (F : Nat → Int) (n k : Nat) (xs : List Int) : Prop where
  len : xs.length = n * 3
  ws : Ws xs
  v : ∀ i, i < k → t3 xs i = (F i).toNat
theorem Jo3.start (F : Nat → Int) (n : Nat) : Jo3 F n 0 (List.replicate (n * 3) 0) := ⟨List.length_replicate, ws_replicate _, fun i hi => by omega⟩
theorem Jo3.step {F : Nat → Int} {n k : Nat} {xs : List Int} (h : Jo3 F n k xs) (hk : k < n) {a b c : Int} (ha : 0 ≤ a ∧ a < 18446744073709551616) (hb : 0 ≤ b ∧ b < 18446744073709551616) (hc : 0 ≤ c ∧ c < 18446744073709551616)
    (hF : a + 18446744073709551616 * (b + 18446744073709551616 * c) = F k) : Jo3 F n (k + 1) (set3 xs k a b c) :=
  ⟨by rw [set3_len, h.len], ws_set (ws_set (ws_set h.ws _ ha.1 ha.2) _ hb.1 hb.2) _ hc.1 hc.2, fun i hi => by
    by_cases e : i = k
    · subst e; exact t3_set3_self (by rw [h.len]; omega) ha.1 hb.1 hc.1 hF
    · rw [t3_set3_ne e]; exact h.v i (by omega)⟩
theorem nums_set (xs : List Int) (i : Nat) (a : Int) : (nums xs).set i (.int .u64 a) = nums (xs.set i a) := by simp [nums, List.map_set]
theorem Own3.store {w : World} {base g n c : Nat} {xs : List Int} (h : Own3 w base (.slice (some ⟨g, 0, none⟩) n c) n xs) (j : Nat) {x y z : Int} (hx : 0 ≤ x ∧ x < 18446744073709551616) (hy : 0 ≤ y ∧ y < 18446744073709551616) (hz : 0 ≤ z ∧ z < 18446744073709551616) :
    Own3 (w.setCells g (3 * j) [.int .u64 x, .int .u64 y, .int .u64 z]) base (.slice (some ⟨g, 0, none⟩) n c) n (set3 xs j x y z) ∧ w.grownBy (w.setCells g (3 * j) [.int .u64 x, .int .u64 y, .int .u64 z]) (some g) := by
  obtain ⟨h1, h2, h3⟩ := h
  have s1 := World.ownsRow.stored h1 (3 * j) (.int .u64 x)
  have s2 := World.ownsRow.stored s1.1 (3 * j + 1) (.int .u64 y)
  have s3 := World.ownsRow.stored s2.1 (3 * j + 2) (.int .u64 z)
  have e := s3.1
  rw [nums_set, nums_set, nums_set] at e
  exact ⟨⟨e, ws_set (ws_set (ws_set h2 _ hx.1 hx.2) _ hy.1 hy.2) _ hz.1 hz.2, by rw [set3_len, h3]⟩, gb_trans (gb_trans s1.2 s2.2) s3.2⟩
theorem Own3.there {w : World} {base g n c : Nat} {xs : List Int} (h : Own3 w base (.slice (some ⟨g, 0, none⟩) n c) n xs) (j : Nat) (hj : j < n) : w.there g (3 * j) 3 := fun i hi => by
  refine ⟨?_, World.ownsRow.frozenAt h.1 _⟩
  rw [World.ownsRow.cellAt h.1 (3 * j + i) (by omega), nums_get (by rw [h.2.2]; omega)]
  rfl
theorem make3 (t : TypeId) (ht : Tryd.prog.underlying t = some (.slice 34)) (n : Nat) (hn : n ≤ 1000000) (W : World) :
    (Instr.makeSlice t (.int .i64 n) (.int .i64 n)).run Tryd.prog W = .ok (.slice (some ⟨W.heap.size, 0, none⟩) n n) (W.alloc (.cells (madeCells #[.int .u64 0, .int .u64 0, .int .u64 0] (n * 3)) 34)) := by
  obtain ⟨i, hi, hzz⟩ := Option.map_eq_some_iff.1 info_three
  simp only [Prod.mk.injEq] at hzz
  obtain ⟨hz, hs, hb⟩ := hzz
  have := run_make (P := Tryd.prog) (w := W) t 34 i _ ht hi hz .i64 .i64 n n (by omega) (by omega) (by rw [hb]; omega) (by omega)
  rw [hs] at this
  exact this
theorem own3_made (w : World) (base n : Nat) (hb : base ≤ w.heap.size) (hn : n ≤ 1000000) :
    Own3 (w.alloc (.cells (madeCells #[.int .u64 0, .int .u64 0, .int .u64 0] (n * 3)) 34)) base (.slice (some ⟨w.heap.size, 0, none⟩) n n) n (List.replicate (n * 3) 0) := by
  have := World.ownsRow_lit (base := base) (e := 34) (size := 3) w (madeCells #[.int .u64 0, .int .u64 0, .int .u64 0] (n * 3)) n hb (by unfold maxLen; omega) (by simp [madeCells])
  rw [made3] at this
  exact ⟨this, ws_replicate _, List.length_replicate⟩
end Go.Proofs.YtoiclkaecgpbbaaDoor

/- Sums of products by three primes: joined. -/
namespace Go.Proofs.YtoiclkaecgpbbaaDoor
open Go.RowKit

theorem convLog_c (w : World) (S : Nat) (h1 : 1 ≤ S) (h2 : S ≤ 1000000) : Calls Tryd.prog 85 #[.int .i64 S] w fun e w' => e = .returned (.int .i64 (blen (S - 1))) ∧ w' = w := by
  obtain ⟨M, hM⟩ : ∃ M : Int, M = (S : Int) - 1 := ⟨_, rfl⟩
  have eM : (S : Int) - 1 = M := hM.symm
  have hw : IntKind.u64.wrap M = M := by rw [IntKind.wrap_u64]; omega
  have T := fun w => len64_c M (by omega) (by omega) w
  rw [show M.toNat = S - 1 by omega] at T
  obtain ⟨B, hB⟩ : ∃ B, B = blen (S - 1) := ⟨_, rfl⟩
  rw [← hB] at T ⊢
  have HT := Lib.hid T
  have b0 : 0 ≤ M ∧ M < 1000000 := by omega
  clear T hM hB
  go_enter Tryd.func85, Tryd.ntmps85
  go_wp2_with fail
  refine (HT.out _).mono ?_
  rintro e w1 ⟨rfl, hw1⟩
  subst hw1
  go_wp2
  go_ret
  exact ⟨rfl, rfl⟩
theorem Own3.mono {w : World} {base base' n : Nat} {v : Value} {xs : List Int} (h : Own3 w base v n xs) (hb : base' ≤ base) : Own3 w base' v n xs := by
  refine ⟨⟨h.1.1, ?_⟩, h.2⟩
  rcases h.1.2 with h1 | ⟨g, cap, cur, hv, hg, r⟩
  · exact .inl h1
  · exact .inr ⟨g, cap, cur, hv, Nat.le_trans hb hg, r⟩
theorem Own3.cell3 {w : World} {base g n c : Nat} {xs : List Int} (h : Own3 w base (.slice (some ⟨g, 0, none⟩) n c) n xs) (i : Nat) (hi : i < n) (k : Nat) (hk : k < 3) : w.cell? ⟨g, i * 3 + k, none⟩ = some (.int .u64 (rd xs (i * 3 + k))) := by
  rw [World.ownsRow.cellAt h.1 (i * 3 + k) (by omega), nums_get (by rw [h.2.2]; omega)]
theorem Own3.free3 {w : World} {base g n c : Nat} {xs : List Int} (h : Own3 w base (.slice (some ⟨g, 0, none⟩) n c) n xs) (j : Nat) : w.frozen? ⟨g, j, none⟩ = false := World.ownsRow.frozenAt h.1 j
/-- Rows of residues in an array. -/
structure LJ (w : World) (base gl n : Nat) (F : Nat → Int) (k : Nat) : Prop where
  fr : ∀ i, i < 3 → w.frozen? ⟨gl, i, none⟩ = false
  ce : ∀ i, i < 3 → ∃ v, w.cell? ⟨gl, i, none⟩ = some v
  v : ∀ i, i < k → ∃ g cs n' cp, n ≤ n' ∧ w.cell? ⟨gl, i, none⟩ = some (.slice (some ⟨g, 0, none⟩) n' cp) ∧ Own w base (.slice (some ⟨g, 0, none⟩) n' cp) cs ∧ gl ≠ g ∧ (∀ j, j < n → rd cs j = F j % ((pr3 i : Nat) : Int))
theorem LJ.grown {w w' : World} {base gl n k gm : Nat} {F : Nat → Int} (h : LJ w base gl n F k) (hb : gm < base) (hl : base ≤ gl) (g : w.grownBy w' (some gm)) : LJ w' base gl n F k := by
  have hne : some gl ≠ some gm := by simp; omega
  refine ⟨fun i hi => ?_, fun i hi => ?_, fun i hi => ?_⟩
  · obtain ⟨v, hv⟩ := h.ce i hi
    have hb := g.block gl (World.block_lt_of_cell? w _ hv) hne
    exact (World.frozen?_of_block hb).trans (h.fr i hi)
  · obtain ⟨v, hv⟩ := h.ce i hi
    exact ⟨v, gb_cell g hv hne⟩
  · obtain ⟨g1, cs, n', cp, h0, h1, h2, h3, h4⟩ := h.v i hi
    exact ⟨g1, cs, n', cp, h0, gb_cell g h1 hne, h2.past g (by have := h2.base_le.1; omega), h3, h4⟩
theorem LJ.grown0 {w w' : World} {base gl n k : Nat} {F : Nat → Int} (h : LJ w base gl n F k) (g : w.grownBy w' none) : LJ w' base gl n F k := by
  refine ⟨fun i hi => ?_, fun i hi => ?_, fun i hi => ?_⟩
  · obtain ⟨v, hv⟩ := h.ce i hi
    have hb := g.block gl (World.block_lt_of_cell? w _ hv) (by simp)
    exact (World.frozen?_of_block hb).trans (h.fr i hi)
  · obtain ⟨v, hv⟩ := h.ce i hi
    exact ⟨v, gb_cell0 g hv⟩
  · obtain ⟨g1, cs, n', cp, h0, h1, h2, h3, h4⟩ := h.v i hi
    exact ⟨g1, cs, n', cp, h0, gb_cell0 g h1, h2.grown0 g, h3, h4⟩
theorem LJ.step {w : World} {base gl n n' k g cp : Nat} {F : Nat → Int} {cs : List Int} (h : LJ w base gl n F k) (hk : k < 3) (hn' : n ≤ n') (ow : Own w base (.slice (some ⟨g, 0, none⟩) n' cp) cs) (hne : gl ≠ g) (hv : ∀ j, j < n → rd cs j = F j % ((pr3 k : Nat) : Int)) :
    LJ (w.setCell ⟨gl, k, none⟩ (.slice (some ⟨g, 0, none⟩) n' cp)) base gl n F (k + 1) := by
  have G := gb_rowC (gb_refl w (some gl)) k (.slice (some ⟨g, 0, none⟩) n' cp)
  obtain ⟨v0, hv0⟩ := h.ce k hk
  refine ⟨fun i hi => by rw [World.frozen?_setCell]; exact h.fr i hi, fun i hi => ?_, fun i hi => ?_⟩
  · by_cases e : k = i
    · subst e; exact ⟨_, World.cell?_setCell_same _ _ _ hv0⟩
    · obtain ⟨v, hv⟩ := h.ce i hi
      exact ⟨v, (cell_ne _ _ _ _ _ e).trans hv⟩
  · by_cases e : k = i
    · subst e; exact ⟨g, cs, n', cp, hn', World.cell?_setCell_same _ _ _ hv0, ow.past G (Ne.symm hne), hne, hv⟩
    · obtain ⟨g1, cs1, n1, cp1, h0, h1, h2, h3, h4⟩ := h.v i (by omega)
      exact ⟨g1, cs1, n1, cp1, h0, (cell_ne _ _ _ _ _ e).trans h1, h2.past G (Ne.symm h3), h3, h4⟩
theorem crt_cell {w : World} {g : Nat} {i01 i2 hi lo : Int} (h : Crt w g ((pr3 0 : Nat) : Int) ((pr3 1 : Nat) : Int) ((pr3 2 : Nat) : Int) i01 i2 hi lo) (k : Nat) (hk : k < 3) : w.cell? ⟨g, k, none⟩ = some (.int .u64 ((pr3 k : Nat) : Int)) := by
  rcases (show k = 0 ∨ k = 1 ∨ k = 2 by omega) with rfl | rfl | rfl
  · exact h.c0
  · exact h.c1
  · exact h.c2
/-- What is asked of the function that is handed over. -/
def OneC (w : World) (gm n L fk : Nat) (b : Int) (c : Mc) (K : Int) (F : Nat → Int) (caps : Array Value) : Prop :=
  (∀ args w, (callFunc fk args).run Tryd.prog w = .ok (.enter fk args) w) ∧ ∀ (k : Nat) (W : World) (t : Nat) (r z x : Int), k < 3 → w.grownBy W (some gm) → Pl W t gm ((pr3 k : Nat) : Int) r z L → Mt W gm x b c → x ≤ 2000000000000000 →
    Calls Tryd.prog fk (#[.pointer (some ⟨t, 0, none⟩)] ++ caps) W fun e w' => ∃ g cs n' cp, n ≤ n' ∧ e = .returned (.tuple #[.slice (some ⟨g, 0, none⟩) n' cp, .bool true]) ∧ Own w' W.heap.size (.slice (some ⟨g, 0, none⟩) n' cp) cs ∧ (∀ j, j < n → rd cs j = F j % ((pr3 k : Nat) : Int)) ∧
      Mt w' gm (x + K) b c ∧ W.heap.size ≤ g ∧ W.grownBy w' (some gm)
set_option maxRecDepth 100000 in
set_option maxHeartbeats 4000000 in
theorem joined_c (w : World) (gm n S L N fk : Nat) (a b : Int) (c : Mc) (K : Int) (F : Nat → Int) (caps : Array Value) (hS : 1 ≤ S) (hL : L = blen (S - 1)) (hN : N = 2 ^ L) (hL10 : L ≤ 10) (hn : n ≤ N) (hS2 : S ≤ 1000000)
    (hm : Mt w gm a b c) (hd : Db w) (ha : a ≤ 1000000000000000) (hK : 0 ≤ K ∧ K ≤ 1000000) (hF : ∀ j, j < n → 0 ≤ F j ∧ F j < 1464775400998524149974961049645758437266489031708901377) (h1 : OneC w gm n L fk b c K F caps) :
    Calls Tryd.prog 65 #[.pointer (some ⟨gm, 0, none⟩), .int .i64 n, .int .i64 S, .func (.func fk) #[] caps] w fun e w' => ∃ g os, e = .returned (.tuple #[.slice (some ⟨g, 0, none⟩) n n, .bool true]) ∧ Own3 w' w.heap.size (.slice (some ⟨g, 0, none⟩) n n) n os ∧ Jo3 F n n os ∧
      Mt w' gm (a + 3 * K + 6 * N) b c ∧ w.heap.size ≤ g ∧ w.grownBy w' (some gm) := by
  have hN10 : N ≤ 1024 := by rw [hN]; exact Nat.pow_le_pow_right (by decide) hL10
  have hgm : gm < w.heap.size := World.block_lt_of_cell? w _ hm.c0
  obtain ⟨P0, hP0⟩ : ∃ P : Int, P = ((pr3 0 : Nat) : Int) := ⟨_, rfl⟩
  obtain ⟨P1, hP1⟩ : ∃ P : Int, P = ((pr3 1 : Nat) : Int) := ⟨_, rfl⟩
  obtain ⟨P2, hP2⟩ : ∃ P : Int, P = ((pr3 2 : Nat) : Int) := ⟨_, rfl⟩
  have BG := fun w => begun_c w P0 P1 P2 (by rw [hP0]; rfl) (by rw [hP1]; rfl) (by rw [hP2]; rfl)
  rw [hP0, hP1, hP2] at BG
  have LG := fun w => convLog_c w S hS hS2
  rw [← hL] at LG
  have okk : ∀ k, k < 3 → Ok (pr3 k) L (px3 k) := fun k hk => pr3_okL k L hk hL10
  have HB := Lib.hid BG
  have HLG := Lib.hid LG
  have HOK := Lib.hid okk
  have HM := Lib.hid hm
  have HD := Lib.hid hd
  have HF := Lib.hid hF
  obtain ⟨ent, h1⟩ := h1
  have H1 := Lib.hid h1
  have HN := Lib.hid hN
  have HL := Lib.hid hL
  have HGM := Lib.hid hgm
  have a0 := hm.a0
  have HA0 := Lib.hid (And.intro a0 ha)
  obtain ⟨K0, K1⟩ := hK
  clear BG LG okk hm hd hF h1 hP0 hP1 hP2 P0 P1 P2 hgm a0 ha hL hN
  go_enter Tryd.func65, Tryd.ntmps65
  go_wp2_with fail
  refine (HB.out _).mono ?_
  rintro e w1 ⟨gc, i01, i2, chi, clo, rfl, C, g1⟩
  have CR := Lib.hid C
  have G1 := Lib.hid g1
  have HGM1 : Hid (gm < w1.heap.size) := Lib.hid (Nat.lt_of_lt_of_le HGM.out g1.size)
  have HD1 := Lib.hid (HD.out.grown HM.out (gb_none g1 (some gm)))
  have HM1 := Lib.hid (HM.out.grown g1)
  clear C g1 HD HM
  go_wp2
  have G3 := gb_alloc (gb_refl w1 (some gm)) (Obj.cells #[.slice none 0 0, .slice none 0 0, .slice none 0 0] 37)
  have C3 := cs_new w1 #[.slice none 0 0, .slice none 0 0, .slice none 0 0] 37
  have lj0 : LJ (w1.alloc (Obj.cells #[.slice none 0 0, .slice none 0 0, .slice none 0 0] 37)) w1.heap.size w1.heap.size n F 0 := by
    have k : ∀ i, i < 3 → ([Value.slice none 0 0, .slice none 0 0, .slice none 0 0] : List Value)[i]? = some (.slice none 0 0) := fun i hi => by
      rcases (show i = 0 ∨ i = 1 ∨ i = 2 by omega) with rfl | rfl | rfl <;> rfl
    exact ⟨fun i hi => C3.free i (k i hi), fun i hi => ⟨_, C3.cell i (k i hi)⟩, fun i hi => by omega⟩
  have LJ0 := Lib.hid lj0
  have GG0 := Lib.hid G3
  have MM0 := Lib.hid (HM1.out.grown (gb_alloc (gb_refl w1 none) (Obj.cells #[.slice none 0 0, .slice none 0 0, .slice none 0 0] 37)))
  clear G3 C3 lj0
  go_loopw [20] (fun v20 wr => ∃ k : Nat, v20 = .int .i64 k ∧ k ≤ 3 ∧ LJ wr w1.heap.size w1.heap.size n F k ∧ Mt wr gm (a + k * K) b c ∧ w1.grownBy wr (some gm)) (fun v20 _ => 3 - (intOf v20).toNat)
  case atStart => exact ⟨0, rfl, by omega, LJ0.out, by have := MM0.out; simpa using this, GG0.out⟩
  case round =>
    clear LJ0 GG0 MM0
    obtain ⟨k, rfl, hk, lj, m, G⟩ := hrel
    have LJK := Lib.hid lj
    have MK := Lib.hid m
    have GK := Lib.hid G
    clear lj m G
    obtain ⟨wo, rfl⟩ : ∃ wo : World, wo = wr := ⟨_, rfl⟩
    by_cases hlt : k < 3
    · have f0 := crt_cell (CR.out.grown HM1.out GK.out) k hlt
      have NW := new_c wo.drew gm (pr3 k) L (px3 k) (HOK.out k hlt) (Nat.lt_of_lt_of_le HGM1.out GK.out.size) ((HD1.out.grown HM1.out (gb_drew GK.out)))
      have hX : a + k * K ≤ 2000000000000000 := by
        have h1 : (k : Int) * K ≤ 3 * 1000000 := Int.mul_le_mul (by omega) K1 K0 (by decide)
        have := HA0.out.2
        omega
      obtain ⟨P, hP⟩ : ∃ P : Int, P = ((pr3 k : Nat) : Int) := ⟨_, rfl⟩
      rw [← hP] at f0 NW
      have HP := Lib.hid hP
      have HNW := Lib.hid NW
      have hF : Canon.SF [(⟨gc, k, none⟩, .int .u64 P)] wo := Canon.sf_cons f0 (Canon.sf_nil _)
      have HSF := Lib.hid hF
      clear hF hP NW
      go_wp2
      refine Canon.region_held [30] _ (by kernel_rfl) (by kernel_rfl) HSF.out ?_
      refine Canon.segs_at 8 _ _ _ (by kernel_rfl) ?_
      simp only [List.take_succ_cons, List.take_zero, List.drop_succ_cons, List.drop_zero]
      go_wp2_with fail
      refine (HLG.out _).mono ?_
      rintro e wx ⟨rfl, hwx⟩
      subst hwx
      go_wp2
      refine ⟨HSF.out.drew, ?_⟩
      refine Canon.segs_at 0 _ _ _ (by kernel_rfl) ?_
      simp only [List.take_succ_cons, List.take_zero, List.drop_succ_cons, List.drop_zero]
      go_wp2_with fail
      refine (HNW.out).mono ?_
      rintro e wy ⟨t, z, rfl, pl, ht, gy⟩
      have PL := Lib.hid pl
      have GY := Lib.hid (gb_trans (gb_drew GK.out) (gb_none gy (some gm)))
      have MY := Lib.hid (MK.out.drew.grown gy)
      have LY := Lib.hid ((LJK.out.grown0 (gb_drew (gb_refl _ none))).grown0 gy)
      have HSF2 := Lib.hid (Canon.sf_grown0 HSF.out.drew gy)
      clear pl gy LJK GK MK HSF ht
      go_wp2
      refine ⟨HSF2.out, ?_⟩
      refine Canon.segs_end _ _ _ (by kernel_rfl) ?_
      go_wp2
      refine ⟨by kernel_rfl, by kernel_rfl, by kernel_rfl, ?_⟩
      clear HSF2 HNW f0
      have ON := H1.out k wy t _ z _ hlt (gb_trans (gb_none G1.out (some gm)) GY.out) (by rw [← HP.out]; exact PL.out) MY.out hX
      have HON := Lib.hid ON
      clear ON hX
      go_wp2_with fail
      refine (HON.out).mono ?_
      rintro e wz ⟨g, cs, n', cp, hn', rfl, ow, hv, mz, hg, gz⟩
      have OW := Lib.hid (ow.mono (base' := w1.heap.size) GY.out.size)
      have HV := Lib.hid hv
      have MZ := Lib.hid mz
      have GZ := Lib.hid (gb_trans GY.out gz)
      have LZ := Lib.hid (LY.out.grown HGM1.out (Nat.le_refl _) gz)
      have hne : w1.heap.size ≠ g := by
        obtain ⟨v, hv⟩ := LY.out.ce k hlt
        have := World.block_lt_of_cell? wy _ hv
        simp at this; omega
      have NE := Lib.hid hne
      obtain ⟨v0, cl0⟩ := LZ.out.ce k hlt
      have fl0 := LZ.out.fr k hlt
      clear ow hv mz hg gz hne HON PL LY MY GY
      go_wp2
      go_roundw
      case rel =>
        refine ⟨k + 1, by go_num, by omega, LZ.out.step hlt hn' OW.out NE.out HV.out, ?_, ?_⟩
        · have := MZ.out.row (gb_rowC (gb_refl wz (some w1.heap.size)) k (.slice (some ⟨g, 0, none⟩) n' cp)) (by have := HGM1.out; omega)
          have e : a + k * K + K = a + ((k + 1 : Nat) : Int) * K := by rw [Int.natCast_add, Int.add_mul]; omega
          rw [e] at this
          exact this
        · exact gb_set (p := ⟨w1.heap.size, k, none⟩) GZ.out (Nat.le_refl _) _
      case measure => simp [intOf]; omega
    · obtain rfl : k = 3 := by omega
      clear hk hlt ent H1 HOK HD1
      obtain ⟨x, hx⟩ : ∃ x, x = a + 3 * K := ⟨_, rfl⟩
      have e3 : a + ((3 : Nat) : Int) * K = x := hx.symm
      rw [e3] at MK
      have hxb : 0 ≤ x ∧ x ≤ 2000000000000000 := by have := HA0.out; omega
      have HX := Lib.hid hx
      have eq : (2 : Int) ^ L = (N : Int) := by rw [HN.out, Int.natCast_pow]; rfl
      have hw2 : IntKind.i64.wrap (6 * 2 ^ L) = 6 * (N : Int) := by rw [eq, IntKind.wrap_i64]; omega
      have mk := make3 65 (by kernel_rfl) n (by omega)
      have SP := spend_c wo gm x b c (6 * (N : Int)) MK.out (by omega) (by omega)
      have e6 : (if 6 * (N : Int) > 0 then x + 6 * (N : Int) else x) = x + 6 * N := by split <;> omega
      rw [e6] at SP
      have HSP := Lib.hid SP
      clear hx e3 SP e6 eq MK
      go_wp2_with fail
      refine (HLG.out _).mono ?_
      rintro e wx ⟨rfl, hwx⟩
      subst hwx
      go_wp2_with fail
      refine (HSP.out).mono ?_
      rintro e wa ⟨rfl, ma, mo⟩
      have MA := Lib.hid ma
      have GA := Lib.hid (gb_trans GK.out mo.gb)
      have LA := Lib.hid (LJK.out.grown HGM1.out (Nat.le_refl _) mo.gb)
      have CA := Lib.hid (CR.out.grown HM1.out GA.out)
      have O0 := Lib.hid (own3_made wa wa.heap.size n (Nat.le_refl _) (by omega))
      have J0 := Lib.hid (Jo3.start F n)
      have G0 := Lib.hid (gb_alloc (gb_refl wa none) (Obj.cells (madeCells #[.int .u64 0, .int .u64 0, .int .u64 0] (n * 3)) 34))
      clear ma mo HSP GK LJK CR hw2
      go_wp2
      clear mk
      go_loopw [60] (fun v60 wr => ∃ (i : Nat) (os : List Int), v60 = .int .i64 i ∧ i ≤ n ∧ Jo3 F n i os ∧ Own3 wr wa.heap.size (.slice (some ⟨wa.heap.size, 0, none⟩) n n) n os ∧ wa.grownBy wr none) (fun v60 _ => n - (intOf v60).toNat)
      case atStart => exact ⟨0, _, rfl, by omega, J0.out, O0.out, G0.out⟩
      case round =>
        clear J0 O0 G0
        obtain ⟨i, os, rfl, hi, jo, ow, G⟩ := hrel
        have JO := Lib.hid jo
        have OW := Lib.hid ow
        have GG := Lib.hid G
        clear jo ow G
        obtain ⟨wi, rfl⟩ : ∃ wi : World, wi = wr := ⟨_, rfl⟩
        by_cases hin : i < n
        · have lw := LA.out.grown0 GG.out
          obtain ⟨ga0, cs0, nn0, cp0, le0, c0, ow0, _, hv0⟩ := lw.v 0 (by decide)
          obtain ⟨ga1, cs1, nn1, cp1, le1, c1, ow1, _, hv1⟩ := lw.v 1 (by decide)
          obtain ⟨ga2, cs2, nn2, cp2, le2, c2, ow2, _, hv2⟩ := lw.v 2 (by decide)
          have d0 := ow0.cell i (by rw [← ow0.len]; omega)
          have d1 := ow1.cell i (by rw [← ow1.len]; omega)
          have d2 := ow2.cell i (by rw [← ow2.len]; omega)
          rw [hv0 i hin] at d0
          rw [hv1 i hin] at d1
          rw [hv2 i hin] at d2
          obtain ⟨P0, hP0⟩ : ∃ P : Int, P = ((pr3 0 : Nat) : Int) := ⟨_, rfl⟩
          obtain ⟨P1, hP1⟩ : ∃ P : Int, P = ((pr3 1 : Nat) : Int) := ⟨_, rfl⟩
          obtain ⟨P2, hP2⟩ : ∃ P : Int, P = ((pr3 2 : Nat) : Int) := ⟨_, rfl⟩
          have q0 : 0 < P0 ∧ P0 < 4611686018427387904 := by rw [hP0]; decide
          have q1 : 0 < P1 ∧ P1 < 4611686018427387904 := by rw [hP1]; decide
          have q2 : 0 < P2 ∧ P2 < 4611686018427387904 := by rw [hP2]; decide
          have HPP : Hid (P0 = ((pr3 0 : Nat) : Int) ∧ P1 = ((pr3 1 : Nat) : Int) ∧ P2 = ((pr3 2 : Nat) : Int)) := Lib.hid ⟨hP0, hP1, hP2⟩
          rw [← hP0] at d0
          rw [← hP1] at d1
          rw [← hP2] at d2
          obtain ⟨r0, hr0⟩ : ∃ r, r = F i % P0 := ⟨_, rfl⟩
          obtain ⟨r1, hr1⟩ : ∃ r, r = F i % P1 := ⟨_, rfl⟩
          obtain ⟨r2, hr2⟩ : ∃ r, r = F i % P2 := ⟨_, rfl⟩
          rw [← hr0] at d0
          rw [← hr1] at d1
          rw [← hr2] at d2
          have b0 : 0 ≤ r0 ∧ r0 < P0 := by rw [hr0]; exact ⟨Int.emod_nonneg _ (by omega), Int.emod_lt_of_pos _ q0.1⟩
          have b1 : 0 ≤ r1 ∧ r1 < P1 := by rw [hr1]; exact ⟨Int.emod_nonneg _ (by omega), Int.emod_lt_of_pos _ q1.1⟩
          have b2 : 0 ≤ r2 ∧ r2 < P2 := by rw [hr2]; exact ⟨Int.emod_nonneg _ (by omega), Int.emod_lt_of_pos _ q2.1⟩
          have T3 := crt3_c wi.drew gc P0 P1 P2 i01 i2 chi clo r0 r1 r2 (by have := (CA.out.grown0 GG.out).grown0 (gb_drew (gb_refl _ none)); rw [← hP0, ← hP1, ← hP2] at this; exact this) b0.1 b0.2 b1.1 b2.1
          have HT3 := Lib.hid T3
          have HR : Hid (r0 = F i % P0 ∧ r1 = F i % P1 ∧ r2 = F i % P2) := Lib.hid ⟨hr0, hr1, hr2⟩
          clear hr0 hr1 hr2 hP0 hP1 hP2 T3 lw ow0 ow1 ow2 hv0 hv1 hv2
          go_wp2
          refine Canon.region_canon (by kernel_rfl) (by kernel_rfl) ?_
          go_wp2_with fail
          refine (HT3.out).mono ?_
          rintro e wb ⟨x0, x1, x2, rfl, bx0, bx1, bx2, hlt, m0, m1, m2, gb⟩
          have hs : 0 ≤ x0 + 18446744073709551616 * (x1 + 18446744073709551616 * x2) := by omega
          have hFi : x0 + 18446744073709551616 * (x1 + 18446744073709551616 * x2) = F i := by
            have hf := HF.out i hin
            obtain ⟨e0, e1, e2⟩ := HPP.out
            obtain ⟨s0, s1, s2⟩ := HR.out
            have hpp : P0 * P1 * P2 = 1464775400998524149974961049645758437266489031708901377 := by rw [e0, e1, e2]; decide +kernel
            rw [hpp] at hlt
            refine crt_one hlt hs hf.2 hf.1 ?_ ?_ ?_
            · rw [← e0]; rw [s0] at m0; exact m0.trans (Cg.mod _ _)
            · rw [← e1]; rw [s1] at m1; exact m1.trans (Cg.mod _ _)
            · rw [← e2]; rw [s2] at m2; exact m2.trans (Cg.mod _ _)
          have OB := Lib.hid (OW.out.grown0 (gb_trans (gb_drew (gb_refl _ none)) gb))
          have GB := Lib.hid (gb_trans (gb_drew GG.out) gb)
          have JB := Lib.hid (JO.out.step hin bx0 bx1 bx2 hFi)
          have dd0 := OB.out.cell3 i hin 0 (by decide)
          have dd1 := OB.out.cell3 i hin 1 (by decide)
          have dd2 := OB.out.cell3 i hin 2 (by decide)
          have df0 := OB.out.free3 (i * 3 + 0)
          have df1 := OB.out.free3 (i * 3 + 1)
          have df2 := OB.out.free3 (i * 3 + 2)
          rw [Nat.add_zero] at dd0 df0
          obtain ⟨y0, hy0⟩ : ∃ y, y = rd os (i * 3) := ⟨_, rfl⟩
          obtain ⟨y1, hy1⟩ : ∃ y, y = rd os (i * 3 + 1) := ⟨_, rfl⟩
          obtain ⟨y2, hy2⟩ : ∃ y, y = rd os (i * 3 + 2) := ⟨_, rfl⟩
          rw [← hy0] at dd0
          rw [← hy1] at dd1
          rw [← hy2] at dd2
          clear HR HPP hlt m0 m1 m2 gb hs hFi c0 c1 c2 d0 d1 d2 HT3 hy0 hy1 hy2
          go_wp2
          refine ⟨by kernel_rfl, ?_⟩
          clear dd0 dd1 dd2 df0 df1 df2
          go_wp2
          go_roundw
          case rel =>
            have os := OB.out.store i bx0 bx1 bx2
            have es : wb.setCells wa.heap.size (3 * i) [.int .u64 x0, .int .u64 x1, .int .u64 x2] = ((wb.setCell ⟨wa.heap.size, i * 3, none⟩ (.int .u64 x0)).setCell ⟨wa.heap.size, i * 3 + 1, none⟩ (.int .u64 x1)).setCell ⟨wa.heap.size, i * 3 + 2, none⟩ (.int .u64 x2) := by
              rw [Nat.mul_comm]; rfl
            rw [es] at os
            exact ⟨i + 1, _, by go_num, by omega, JB.out, os.1, gb_new GB.out os.2 (fun i hi => by cases hi; exact Nat.le_refl _)⟩
          case measure => simp [intOf]; omega
        · obtain rfl : i = n := by omega
          clear hi hin
          have HE : Hid (w1.grownBy wi (some gm)) := Lib.hid (gb_trans GA.out (gb_none GG.out _))
          have ME := Lib.hid (MA.out.grown GG.out)
          have HWA : Hid (w.heap.size ≤ wa.heap.size) := Lib.hid (Nat.le_trans G1.out.size GA.out.size)
          go_wp2
          go_ret2
          refine ⟨wa.heap.size, os, rfl, ?_, JO.out, ?_, HWA.out, gb_trans (gb_none G1.out _) HE.out⟩
          · exact OW.out.mono HWA.out
          · have := ME.out
            rw [HX.out] at this
            exact this
end Go.Proofs.YtoiclkaecgpbbaaDoor

/- Products by transforms: plain. -/
namespace Go.Proofs.YtoiclkaecgpbbaaDoor
open Go.RowKit

/-- What a product by transforms costs. -/
def transf (n m ways : Nat) : Nat := 3 * (ways * (2 ^ blen (n + m - 1) / 2) * blen (n + m - 1) + 2 * 2 ^ blen (n + m - 1)) + 6 * 2 ^ blen (n + m - 1)
theorem blen_lt (x : Nat) : x < 2 ^ blen x := by
  unfold blen
  split
  · rename_i h; rw [h]; decide
  · exact Nat.lt_log2_self
theorem blen10 {n m : Nat} (h : n + m ≤ 1024) : blen (n + m - 1) ≤ 10 := blen_le _ 10 (by omega)
theorem le_size {n m : Nat} (_h : 0 < n) : n + m ≤ 2 ^ blen (n + m - 1) := by
  have := blen_lt (n + m - 1)
  omega
theorem sumT_int (t : Nat → Nat) : ∀ n, ((sumT t n : Nat) : Int) = sumI (fun i => (t i : Int) * 18446744073709551616 ^ (1 * i)) n
  | 0 => rfl
  | n + 1 => by
    rw [sumT, sumI, ← sumT_int t n, Nat.one_mul, Int.natCast_add, Int.natCast_mul, Int.natCast_pow, Int.mul_comm ((t n : Nat) : Int)]
    rfl
theorem val_int (xs : List Int) (h : Ws xs) : ∀ k, k ≤ xs.length → ((val B64 (xs.take k) : Nat) : Int) = sumI (fun i => rd xs i * 18446744073709551616 ^ (1 * i)) k
  | 0, _ => by rw [List.take_zero]; rfl
  | k + 1, hk => by
    rw [val_take_succ B64 (by omega), sumI, ← val_int xs h k (by omega), Int.natCast_add, Int.natCast_mul, Int.natCast_pow, Nat.one_mul, Int.toNat_of_nonneg (rd_w h k).1, Int.mul_comm (rd xs k)]
    rfl
theorem val_ft {xs : List Int} (h : Ws xs) {N : Nat} (hN : xs.length ≤ N) : ((val B64 xs : Nat) : Int) = ft (rd xs) 18446744073709551616 N 1 := by
  have e := val_int xs h xs.length (Nat.le_refl _)
  rw [List.take_length] at e
  rw [e]
  unfold ft
  exact (sumI_tail N hN fun t h1 _ => by rw [rd_beyond h1, Int.zero_mul]).symm
theorem mul_sums {al bs os : List Int} {n : Nat} (ha : Ws al) (hb : Ws bs) (hn : al.length + bs.length ≤ n + 1) (h1 : al.length ≤ n) (h2 : bs.length ≤ n) (hn2 : n ≤ 2048) (h : Jo3 (cv (rd al) (rd bs)) n n os) : sumT (t3 os) n = val B64 al * val B64 bs := by
  apply Int.ofNat_inj.1
  rw [Int.natCast_mul, val_ft ha h1, val_ft hb h2, ft_mul (rd_zero hn), sumT_int]
  unfold ft
  refine sumI_congr _ fun i hi => ?_
  rw [h.v i hi, Int.toNat_of_nonneg (cv_bound ha hb (by omega)).1]
theorem rd_rowOf {xs : List Int} {n : Nat} (h : xs.length ≤ n) : rd (rowOf xs n) = rd xs := by
  funext j
  unfold rowOf
  rw [Nat.min_eq_left h, List.take_length]
  by_cases hj : j < xs.length
  · rw [rd_app_left hj]
  · rw [rd_app_right (by omega), rd_beyond (xs := xs) (by omega), List.drop_replicate]
    unfold rd
    rw [List.getD_eq_getElem?_getD, List.getElem?_replicate]
    split <;> rfl
theorem may_yes (w : World) (n m : Nat) (hn : 0 < n) (hm : 0 < m) (h : n + m ≤ 1048576) : Calls Tryd.prog 64 #[.int .i64 n, .int .i64 m] w fun e w' => e = .returned (.bool true) ∧ w' = w := by
  go_enter Tryd.func64, Tryd.ntmps64
  go_wp2
  go_ret
  exact ⟨by simp; omega, rfl⟩
theorem may_no0 (w : World) (m : Nat) : Calls Tryd.prog 64 #[.int .i64 0, .int .i64 m] w fun e w' => e = .returned (.bool false) ∧ w' = w := by
  go_enter Tryd.func64, Tryd.ntmps64
  go_wp2
  go_ret
  exact ⟨rfl, rfl⟩
theorem may_no1 (w : World) (n : Nat) (hn : 0 < n) : Calls Tryd.prog 64 #[.int .i64 n, .int .i64 0] w fun e w' => e = .returned (.bool false) ∧ w' = w := by
  go_enter Tryd.func64, Tryd.ntmps64
  go_wp2
  go_ret
  exact ⟨rfl, rfl⟩
theorem may_no (w : World) (n m : Nat) (hn : n = 0 ∨ m = 0) : Calls Tryd.prog 64 #[.int .i64 n, .int .i64 m] w fun e w' => e = .returned (.bool false) ∧ w' = w := by
  by_cases h : n = 0
  · subst h; exact may_no0 w m
  · obtain rfl : m = 0 := by omega
    exact may_no1 w n (by omega)
theorem forwardTN_c (w : World) (t gm : Nat) (p r z a b : Int) (c : Mc) (L N : Nat) (hN : N = 2 ^ L) (v : Value) (xs : List Int) (h : Pl w t gm p r z L) (hm : Mt w gm a b c) (ha : a ≤ 1000000000000000000) (hv : Sl w v xs) (hl : xs.length = N) :
    Calls Tryd.prog 27 #[.pointer (some ⟨t, 0, none⟩), v] w fun e w' => ∃ g os, e = .returned (.tuple #[.slice (some ⟨g, 0, none⟩) N N, .bool true]) ∧ Own w' w.heap.size (.slice (some ⟨g, 0, none⟩) N N) os ∧ Lv p (rd xs) r L L os ∧
      Mt w' gm (a + ((N / 2 * L : Nat) : Int)) b c ∧ w.heap.size ≤ g ∧ w.grownBy w' (some gm) := by
  subst hN
  exact forwardT_c w t gm p r z a b c L v xs h hm ha hv hl
theorem inverseTN_c (w : World) (t gm : Nat) (p r z a b : Int) (c : Mc) (L N : Nat) (hN : N = 2 ^ L) (v : Value) (xs : List Int) (h : Pl w t gm p r z L) (hm : Mt w gm a b c) (ha : a ≤ 100000000000000000) (hv : Sl w v xs) (hl : xs.length = N) :
    Calls Tryd.prog 38 #[.pointer (some ⟨t, 0, none⟩), v] w fun e w' => ∃ g os, e = .returned (.tuple #[.slice (some ⟨g, 0, none⟩) N N, .bool true]) ∧ Own w' w.heap.size (.slice (some ⟨g, 0, none⟩) N N) os ∧ Iv p (rd xs) z L os ∧
      Mt w' gm (a + ((N / 2 * L : Nat) : Int) + (N : Int)) b c ∧ w.heap.size ≤ g ∧ w.grownBy w' (some gm) := by
  subst hN
  exact inverseT_c w t gm p r z a b c L v xs h hm ha hv hl
set_option maxRecDepth 100000 in
set_option maxHeartbeats 4000000 in
theorem auto_c (w : World) (t gm : Nat) (p r z a b : Int) (c : Mc) (L N : Nat) (hN : N = 2 ^ L) (va : Value) (al : List Int) (h : Pl w t gm p r z L) (hm : Mt w gm a b c) (ha : a ≤ 10000000000000000) (hva : Sl w va al) (hla : al.length ≤ N) :
    Calls Tryd.prog 73 #[.pointer (some ⟨t, 0, none⟩), va] w fun e w' => ∃ g cs, e = .returned (.tuple #[.slice (some ⟨g, 0, none⟩) N N, .bool true]) ∧ Own w' w.heap.size (.slice (some ⟨g, 0, none⟩) N N) cs ∧ Cy p r z L (rd al) (rd al) cs ∧
      Mt w' gm (a + ((2 * (N / 2 * L) + 2 * N : Nat) : Int)) b c ∧ w.heap.size ≤ g ∧ w.grownBy w' (some gm) := by
  have hgm : gm < w.heap.size := World.block_lt_of_cell? w _ hm.c0
  obtain ⟨hN10, hh⟩ := half_le hN h.L10
  obtain ⟨g0, m0, md, gne⟩ := h.gd
  have p3 := md.pm.lo
  have p62 := md.pm.hi
  have S := size_c w t gm p r z L h
  rw [← hN] at S
  obtain ⟨q, hq⟩ : ∃ q, q = N / 2 * L := ⟨_, rfl⟩
  have mk := make64 36 (by kernel_rfl) N N (N : Int) (N : Int) (by omega) (by omega) (by omega) (by omega)
  have own0 := own_made w w.heap.size N N (Nat.le_refl _) (by omega) (by omega)
  have OW := Lib.hid own0
  have G0 := gb_alloc (gb_refl w none) (Obj.cells (madeCells #[.int .u64 0] N) 22)
  have HV := Lib.hid (hva.grown0 G0)
  obtain ⟨zs, hzs⟩ : ∃ zs, zs = rowOf al N := ⟨_, rfl⟩
  have HZ := Lib.hid (show zs = al.take (min al.length N) ++ (List.replicate N 0).drop (min al.length N) from hzs)
  have HZ2 := Lib.hid (show rd zs = rd al by rw [hzs]; exact rd_rowOf hla)
  have HZL := Lib.hid (show zs.length = N by rw [hzs]; exact rowOf_len _ _)
  have HS := Lib.hid S
  have PL := Lib.hid h
  have MT := Lib.hid (hm.grown G0)
  have HN := Lib.hid hN
  have HQ := Lib.hid hq
  have NE := Lib.hid (And.intro gne h.tm)
  have MD := Lib.hid md
  have C0 := Lib.hid m0
  have C1 := Lib.hid h.c1
  have HGM := Lib.hid hgm
  have HG0 := Lib.hid G0
  rw [← hq] at hh
  rw [show 2 * (N / 2 * L) + 2 * N = 2 * q + 2 * N by rw [hq]]
  have a0 := hm.a0
  clear hva hN hq hla h hm gne md m0 hgm S G0 own0 hzs
  go_enter Tryd.func73, Tryd.ntmps73
  go_wp2_with fail
  refine (HS.out).mono ?_
  rintro e w1 ⟨rfl, hw1⟩
  subst hw1
  go_wp2_with (with_reducible (show wpList _ _ _ (Oper.mk _ (Op.call (Call.mk (Callee.builtin Builtin.copy) _ _)) _ _ _ _ :: _) _ _); refine own_copy 36 (by kernel_rfl) (.tmp 13) (.tmp 14) rfl rfl w1.heap.size N N N _ rfl OW.out (Nat.le_refl _) va al rfl HV.out _ rfl zs HZ.out ?_; intro w2 ow1 g1)
  have G2 := Lib.hid (gb_new HG0.out g1 (fun i hi => by cases hi; exact Nat.le_refl _))
  have OW2 := Lib.hid ow1
  have M2 := Lib.hid (MT.out.row g1 (by have := HGM.out; omega))
  clear ow1 g1 OW HV mk MT HS
  go_wp2_with fail
  refine (forwardTN_c w2 t gm p r z a b c L N HN.out _ zs (PL.out.grown (gb_none G2.out _)) M2.out (by omega) OW2.out.sl HZL.out).mono ?_
  rintro e w3 ⟨gx, xs, rfl, ox, lx, m3, hx, g3⟩
  rw [HZ2.out] at lx
  rw [← HQ.out] at m3
  have M3 := Lib.hid m3
  have LX := Lib.hid lx
  have OX := Lib.hid ox
  have G3 := Lib.hid (gb_trans (gb_none G2.out (some gm)) g3)
  have HX : Hid (w1.heap.size ≤ gx) := Lib.hid (Nat.le_trans G2.out.size hx)
  have BX := Lib.hid (fun i => (LX.out.bd i))
  have LXN : Hid (xs.length = N) := Lib.hid (by rw [LX.out.len, HN.out])
  have NXY : Hid (gx ≠ gm ∧ gx ≠ t ∧ gx ≠ g0) := Lib.hid (by
    have h1 := HX.out; have h2 := HGM.out
    have h4 := World.block_lt_of_cell? w1 _ C0.out
    have h5 := World.block_lt_of_cell? w1 _ MD.out.c0
    simp at h4 h5; omega)
  have II : Hid (PrI p xs xs N 0 xs) := Lib.hid ⟨LXN.out, fun k hk => by omega, fun k _ => rfl⟩
  clear ox lx m3 g3 hx M2 OW2
  go_wp2
  go_loopw [26] (fun v26 wr => ∃ (i : Nat) (os : List Int), v26 = .int .i64 i ∧ i ≤ N ∧ PrI p xs xs N i os ∧ Own wr w2.heap.size (.slice (some ⟨gx, 0, none⟩) N N) os ∧ w3.grownBy wr (some gx)) (fun v26 _ => N - (intOf v26).toNat)
  case atStart => exact ⟨0, xs, rfl, by omega, II.out, OX.out, gb_refl _ _⟩
  case round =>
    clear II OX
    obtain ⟨i, os, rfl, hi, pi, ow, G⟩ := hrel
    have PI := Lib.hid pi
    have OW := Lib.hid ow
    have GG := Lib.hid G
    have GC : Hid (w1.grownBy wr (some gm)) := Lib.hid (gb_new G3.out G (fun i hi => by cases hi; exact HX.out))
    clear pi ow G
    by_cases hin : i < N
    · have c1 := OW.out.cell i (by rw [PI.out.len]; exact hin)
      have c0 := gb_cell GC.out C0.out (by have := NE.out.2; simpa using this)
      have bx := BX.out i
      rw [PI.out.hi i (Nat.le_refl _)] at c1
      obtain ⟨x, ex⟩ : ∃ x, x = rd xs i := ⟨_, rfl⟩
      rw [← ex] at c1 bx
      have EX := Lib.hid ex
      obtain ⟨x0, x1⟩ := bx
      clear ex
      go_wp2
      refine Canon.region_canon (by kernel_rfl) (by kernel_rfl) ?_
      go_wp2_with fail
      refine (modMul_c _ g0 p x x (MD.out.grown (gb_drew GC.out) (by have := NE.out.1; simpa using this)) x0 x0).mono ?_
      rintro e wa ⟨rfl, ga⟩
      have u0 := Int.emod_nonneg (x * x) (show p ≠ 0 by omega)
      have u1 := Int.emod_lt_of_pos (x * x) (show 0 < p by omega)
      obtain ⟨u, eu⟩ : ∃ u, u = x * x % p := ⟨_, rfl⟩
      rw [← eu] at u0 u1 ⊢
      have EU := Lib.hid eu
      have OA := Lib.hid (OW.out.drew.grown0 ga)
      have GA := Lib.hid (gb_trans (gb_drew GG.out) (gb_none ga _))
      clear eu c0 c1 ga OW GG GC
      have fr := OA.out.free i
      have ce := OA.out.cell i (by rw [PI.out.len]; exact hin)
      go_wp2
      refine ⟨by kernel_rfl, ?_⟩
      clear fr ce
      go_wp2
      go_roundw
      case rel => exact ⟨i + 1, os.set i u, by go_num, by omega, PI.out.step hin (by rw [EU.out, EX.out]), OA.out.store i u0 (by omega), gb_rowC GA.out i _⟩
      case measure => simp [intOf]; omega
    · obtain rfl : i = N := by omega
      have c1 := gb_cell GC.out C1.out (by have := NE.out.2; simpa using this)
      have M4 := Lib.hid (M3.out.row GG.out (Ne.symm NXY.out.1))
      go_wp2_with fail
      refine (spend_c wr gm _ b c (i : Int) M4.out (by omega) (by omega)).mono ?_
      rintro e wb ⟨rfl, m4, mo⟩
      have e2 : (if (i : Int) > 0 then a + (q : Int) + (i : Int) else a + (q : Int)) = a + (q : Int) + (i : Int) := by split <;> omega
      rw [e2] at m4 ⊢
      have M5 := Lib.hid m4
      have G4 := Lib.hid (gb_trans GC.out mo.gb)
      have OW4 := Lib.hid (OW.out.past mo.gb NXY.out.1)
      clear c1 m4 mo e2 M3 M4 OW
      go_wp2_with fail
      refine (inverseTN_c wb t gm p r z _ b c L i HN.out _ os (PL.out.grown G4.out) M5.out (by omega) OW4.out.sl PI.out.len).mono ?_
      rintro e wc ⟨gz, cs, rfl, oz, iv, m5, hz, g5⟩
      rw [← HQ.out] at m5
      have e3 : a + (q : Int) + (i : Int) + (q : Int) + (i : Int) = a + ((2 * q + 2 * i : Nat) : Int) := by omega
      rw [e3] at m5
      have M6 := Lib.hid m5
      have OZ := Lib.hid oz
      have CY : Hid (Cy p r z L (rd al) (rd al) cs) := Lib.hid ⟨xs, xs, os, LX.out, LX.out, fun j hj => PI.out.lo j (by rw [HN.out]; exact hj), iv⟩
      have GF := Lib.hid (gb_trans G4.out g5)
      have BZ : Hid (w1.heap.size ≤ wb.heap.size ∧ wb.heap.size ≤ gz) := Lib.hid ⟨G4.out.size, hz⟩
      clear m5 oz iv hz g5 e3
      go_wp2
      go_ret2
      exact ⟨gz, cs, rfl, OZ.out.mono BZ.out.1, CY.out, M6.out, Nat.le_trans BZ.out.1 BZ.out.2, GF.out⟩
end Go.Proofs.YtoiclkaecgpbbaaDoor

/- Products by transforms. -/
namespace Go.Proofs.YtoiclkaecgpbbaaDoor
open Go.RowKit

theorem enter_of {P : Program} {f : FuncId} {fn : Func} {c : Code} (hf : P.funcs[f]? = some fn) (hname : (fn.name == "runtime.NumGoroutine") = false) (hb : fn.body = some c) (args : Array Value) (w : World) : (callFunc f args).run P w = .ok (.enter f args) w := by
  have h1 : fn.name ≠ "runtime.NumGoroutine" := by simpa using hname
  simp [callFunc, hf, h1, hb]
theorem rd_take {xs : List Int} {n j : Nat} (h : j < n) : rd (xs.take n) j = rd xs j := by
  unfold rd
  rw [List.getD_eq_getElem?_getD, List.getD_eq_getElem?_getD, List.getElem?_take_of_lt h]
theorem alloc_sz (w : World) (o : Obj) : (w.alloc o).heap.size = w.heap.size + 1 := by unfold World.alloc; exact Array.size_push _
/-- A value that lies in another block. -/
def Off (v : Value) (gm : Nat) : Prop := ∀ b, v.ownBlock = some b → b ≠ gm
theorem Sl.off {w w' : World} {v : Value} {xs : List Int} {gm : Nat} (h : Sl w v xs) (ho : Off v gm) (g : w.grownBy w' (some gm)) : Sl w' v xs := h.grown g (fun b hb => by have := ho b hb; simpa using this)
theorem words1_c (W : World) (t gm : Nat) (p r z x b : Int) (c : Mc) (L N : Nat) (hN : N = 2 ^ L) (va vb : Value) (al bs : List Int) (ba bb : Nat) (ca : W.cell? ⟨ba, 0, none⟩ = some va) (cb : W.cell? ⟨bb, 0, none⟩ = some vb)
    (h : Pl W t gm p r z L) (hm : Mt W gm x b c) (hx : x ≤ 10000000000000000) (hva : Sl W va al) (hvb : Sl W vb bs) (hla : 0 < al.length) (hlb : 0 < bs.length) (hl : al.length + bs.length ≤ N + 1) (hnb : Off vb gm) :
    Calls Tryd.prog 66 #[.pointer (some ⟨t, 0, none⟩), .pointer (some ⟨ba, 0, none⟩), .pointer (some ⟨bb, 0, none⟩)] W fun e w' => ∃ g cs, e = .returned (.tuple #[.slice (some ⟨g, 0, none⟩) (al.length + bs.length - 1) N, .bool true]) ∧ Own w' W.heap.size (.slice (some ⟨g, 0, none⟩) N N) cs ∧ Cy p r z L (rd al) (rd bs) cs ∧
      Mt w' gm (x + ((3 * (N / 2 * L) + 2 * N : Nat) : Int)) b c ∧ W.heap.size ≤ g ∧ W.grownBy w' (some gm) := by
  have CV := Lib.hid (convP_c W t gm p r z x b c L N hN va vb al bs h hm hx hva hvb hla hlb hl hnb)
  obtain ⟨n, hn⟩ : ∃ n, n = al.length + bs.length - 1 := ⟨_, rfl⟩
  rw [← hn] at CV ⊢
  clear h hm hva hvb hn hN hla hlb hl
  go_enter Tryd.func66, Tryd.ntmps66
  go_wp2_with fail
  refine (CV.out).mono ?_
  rintro e w2 ⟨g, cs, rfl, k⟩
  have KK := Lib.hid k
  clear k
  go_wp2
  go_ret2
  exact ⟨g, cs, rfl, KK.out⟩
theorem Cy.pr {W : World} {t gm : Nat} {p r z : Int} {L N : Nat} {al bs cs : List Int} (h : Pl W t gm p r z L) (hN : N = 2 ^ L) (hl : al.length + bs.length ≤ N + 1) (cy : Cy p r z L (rd al) (rd bs) cs) (j : Nat) (hj : j < N) : rd cs j = cv (rd al) (rd bs) j % p := by
  obtain ⟨g, _, md, _⟩ := h.gd
  exact cy.is md.pm.odd (by have := md.pm.lo; omega) h.inv h.neg (rd_zero (by rw [← hN]; exact hl)) j (by rw [← hN]; exact hj)
theorem oneC_words (w : World) (gm n L N : Nat) (b : Int) (c : Mc) (va vb : Value) (al bs : List Int) (ba bb : Nat) (ca : w.cell? ⟨ba, 0, none⟩ = some va) (cb : w.cell? ⟨bb, 0, none⟩ = some vb) (oa : ba ≠ gm) (ob : bb ≠ gm) (hN : N = 2 ^ L)
    (hva : Sl w va al) (hvb : Sl w vb bs) (hla : 0 < al.length) (hlb : 0 < bs.length) (hn : n = al.length + bs.length - 1) (hl : al.length + bs.length ≤ N + 1) (hna : Off va gm) (hnb : Off vb gm) :
    OneC w gm n L 66 b c ((3 * (N / 2 * L) + 2 * N : Nat) : Int) (cv (rd al) (rd bs)) #[.pointer (some ⟨ba, 0, none⟩), .pointer (some ⟨bb, 0, none⟩)] := by
  refine ⟨fun args w => enter_of Tryd.func66 (by kernel_rfl) rfl args w, fun k W t r z x hk G pl m hx => ?_⟩
  rw [show (#[.pointer (some ⟨t, 0, none⟩)] ++ #[.pointer (some ⟨ba, 0, none⟩), .pointer (some ⟨bb, 0, none⟩)] : Array Value) = #[.pointer (some ⟨t, 0, none⟩), .pointer (some ⟨ba, 0, none⟩), .pointer (some ⟨bb, 0, none⟩)] by simp]
  refine (words1_c W t gm _ r z x b c L N hN va vb al bs ba bb (gb_cell G ca (by simpa using oa)) (gb_cell G cb (by simpa using ob)) pl m (by omega) (hva.off hna G) (hvb.off hnb G) hla hlb hl hnb).mono ?_
  rintro e w' ⟨g, cs, rfl, ow, cy, m', hg, gg⟩
  have hlen : cs.length = N := by rw [cy.len, hN]
  refine ⟨g, cs.take n, n, N, Nat.le_refl _, by rw [hn], ow.take n (by omega), fun j hj => ?_, m', hg, gg⟩
  rw [rd_take hj]
  exact cy.pr pl hN hl j (by omega)
set_option maxRecDepth 100000 in
set_option maxHeartbeats 4000000 in
theorem words_c (w : World) (gm : Nat) (a b : Int) (c : Mc) (va vb : Value) (al bs : List Int) (hm : Mt w gm a b c) (hd : Db w) (ha : a ≤ 1000000000000000) (hva : Sl w va al) (hvb : Sl w vb bs) (hla : 0 < al.length) (hlb : 0 < bs.length) (hl : al.length + bs.length ≤ 1024) (hna : Off va gm) (hnb : Off vb gm) :
    Calls Tryd.prog 41 #[.pointer (some ⟨gm, 0, none⟩), va, vb] w fun e w' => ∃ g os, e = .returned (.tuple #[.slice (some ⟨g, 0, none⟩) (al.length + bs.length - 1) (al.length + bs.length - 1), .bool true]) ∧
      Own3 w' w.heap.size (.slice (some ⟨g, 0, none⟩) (al.length + bs.length - 1) (al.length + bs.length - 1)) (al.length + bs.length - 1) os ∧ Jo3 (cv (rd al) (rd bs)) (al.length + bs.length - 1) (al.length + bs.length - 1) os ∧
      Mt w' gm (a + (transf al.length bs.length 3 : Nat)) b c ∧ w.heap.size ≤ g ∧ w.grownBy w' (some gm) := by
  have hgm : gm < w.heap.size := World.block_lt_of_cell? w _ hm.c0
  obtain ⟨A, ca, rfl, hca, _⟩ := hva.form
  obtain ⟨B, cb, rfl, hcb, _⟩ := hvb.form
  obtain ⟨S, hS⟩ : ∃ S, S = al.length + bs.length := ⟨_, rfl⟩
  obtain ⟨n, hn⟩ : ∃ n, n = al.length + bs.length - 1 := ⟨_, rfl⟩
  obtain ⟨L, hL⟩ : ∃ L, L = blen (S - 1) := ⟨_, rfl⟩
  obtain ⟨N, hN⟩ : ∃ N, N = 2 ^ L := ⟨_, rfl⟩
  have hL10 : L ≤ 10 := by rw [hL]; exact blen_le _ 10 (by omega)
  have hSN : S ≤ N := by rw [hN, hL]; have := blen_lt (S - 1); omega
  have hN10 : N ≤ 1024 := by rw [hN]; exact Nat.pow_le_pow_right (by decide) hL10
  obtain ⟨K, hK⟩ : ∃ K : Nat, K = 3 * (N / 2 * L) + 2 * N := ⟨_, rfl⟩
  have hK6 : K ≤ 1000000 := by
    have : N / 2 * L ≤ 512 * 10 := Nat.mul_le_mul (by omega) hL10
    omega
  have etr : ((transf al.length bs.length 3 : Nat) : Int) = 3 * (K : Int) + 6 * (N : Int) := by
    unfold transf
    rw [← hS, ← hL, ← hN, hK]
    have : 3 * (N / 2) * L = 3 * (N / 2 * L) := Nat.mul_assoc _ _ _
    rw [this]; omega
  have GA := gb_alloc (gb_alloc (gb_refl w none) (Obj.cells #[.slice A al.length ca] 36)) (Obj.cells #[.slice B bs.length cb] 36)
  have c1 : ((w.alloc (Obj.cells #[.slice A al.length ca] 36)).alloc (Obj.cells #[.slice B bs.length cb] 36)).cell? ⟨w.heap.size, 0, none⟩ = some (.slice A al.length ca) :=
    gb_cell0 (gb_alloc (gb_refl _ none) _) ((cs_new w #[.slice A al.length ca] 36).cell 0 rfl)
  have c2 : ((w.alloc (Obj.cells #[.slice A al.length ca] 36)).alloc (Obj.cells #[.slice B bs.length cb] 36)).cell? ⟨w.heap.size + 1, 0, none⟩ = some (.slice B bs.length cb) := by
    have := (cs_new (w.alloc (Obj.cells #[.slice A al.length ca] 36)) #[.slice B bs.length cb] 36).cell 0 rfl
    rw [alloc_sz] at this
    exact this
  have ONE := oneC_words _ gm n L N b c _ _ al bs w.heap.size (w.heap.size + 1) c1 c2 (by omega) (by omega) hN (hva.grown0 GA) (hvb.grown0 GA) hla hlb hn (by omega) hna hnb
  have JJ := joined_c _ gm n S L N 66 a b c ((K : Nat) : Int) (cv (rd al) (rd bs)) _ (by omega) hL hN hL10 (by omega) (by omega) (hm.grown GA) (hd.grown0 GA) ha ⟨by omega, by omega⟩ (fun j hj => cv_bound hva.ws hvb.ws (by omega)) (by rw [hK]; exact ONE)
  rw [etr]
  rw [← hn]
  have MY := fun w => may_yes w al.length bs.length hla hlb (by omega)
  obtain ⟨n1, hn1⟩ : ∃ n1, n1 = al.length := ⟨_, rfl⟩
  obtain ⟨m1, hm1⟩ : ∃ m1, m1 = bs.length := ⟨_, rfl⟩
  rw [← hn1, ← hm1] at hS hn hl c1 c2 JJ MY GA
  rw [← hn1] at hla hca ⊢
  rw [← hm1] at hlb hcb ⊢
  have e1 : (n1 : Int) + (m1 : Int) = (S : Int) := by omega
  have e2 : (S : Int) - 1 = (n : Int) := by omega
  have HJ := Lib.hid JJ
  have HMY := Lib.hid MY
  have HGA := Lib.hid GA
  clear JJ MY GA ONE hva hvb etr hK hN hL hS hn hd hm hn1 hm1 hna hnb
  go_enter Tryd.func41, Tryd.ntmps41
  go_wp2_with fail
  refine (HMY.out _).mono ?_
  rintro e w1 ⟨rfl, hw1⟩
  subst hw1
  go_wp2_with fail
  refine (HJ.out).mono ?_
  rintro e w2 ⟨g, os, rfl, ow, jo, mm, hg, gg⟩
  have KK := Lib.hid (show _ ∧ _ ∧ _ ∧ _ ∧ _ from ⟨ow.mono HGA.out.size, jo, mm, Nat.le_trans HGA.out.size hg, gb_trans (gb_none HGA.out (some gm)) gg⟩)
  clear ow jo mm hg gg HJ
  go_wp2
  go_ret2
  exact ⟨g, os, rfl, KK.out.1, KK.out.2.1, by rw [← Int.add_assoc]; exact KK.out.2.2.1, KK.out.2.2.2⟩
end Go.Proofs.YtoiclkaecgpbbaaDoor

/- Products and squares by transforms. -/
namespace Go.Proofs.YtoiclkaecgpbbaaDoor
open Go.RowKit

set_option maxRecDepth 100000 in
theorem words_no (w : World) (gm : Nat) (va vb : Value) (al bs : List Int) (hva : Sl w va al) (hvb : Sl w vb bs) (hl : al.length = 0 ∨ bs.length = 0) :
    Calls Tryd.prog 41 #[.pointer (some ⟨gm, 0, none⟩), va, vb] w fun e w' => e = .returned (.tuple #[.slice none 0 0, .bool false]) ∧ w.grownBy w' none := by
  obtain ⟨A, ca, rfl, hca, _⟩ := hva.form
  obtain ⟨B, cb, rfl, hcb, _⟩ := hvb.form
  have MY := fun w => may_no w al.length bs.length hl
  obtain ⟨n1, hn1⟩ : ∃ n1, n1 = al.length := ⟨_, rfl⟩
  obtain ⟨m1, hm1⟩ : ∃ m1, m1 = bs.length := ⟨_, rfl⟩
  rw [← hn1, ← hm1] at MY
  rw [← hn1] at hca ⊢
  rw [← hm1] at hcb ⊢
  have HMY := Lib.hid MY
  clear MY hva hvb hl hn1 hm1
  go_enter Tryd.func41, Tryd.ntmps41
  go_wp2_with fail
  refine (HMY.out _).mono ?_
  rintro e w1 ⟨rfl, hw1⟩
  subst hw1
  go_wp2
  go_ret2
  exact ⟨rfl, gb_alloc (gb_alloc (gb_refl _ _) _) _⟩
set_option maxRecDepth 100000 in
theorem convMul_c (w : World) (gm : Nat) (a b : Int) (c : Mc) (va vb : Value) (al bs : List Int) (hm : Mt w gm a b c) (hd : Db w) (ha : a ≤ 1000000000000000) (hva : Sl w va al) (hvb : Sl w vb bs) (hla : 0 < al.length) (hlb : 0 < bs.length) (hl : al.length + bs.length ≤ 1024) (hna : Off va gm) (hnb : Off vb gm) :
    Calls Tryd.prog 49 #[.pointer (some ⟨gm, 0, none⟩), va, vb] w fun e w' => ∃ x, e = .returned (.tuple #[x, .bool true]) ∧ Wo w' w.heap.size x (val B64 al * val B64 bs) ∧
      Mt w' gm (a + (transf al.length bs.length 3 : Nat)) b c ∧ w.grownBy w' (some gm) := by
  have W := words_c w gm a b c va vb al bs hm hd ha hva hvb hla hlb hl hna hnb
  have hgm : gm < w.heap.size := World.block_lt_of_cell? w _ hm.c0
  obtain ⟨n, hn⟩ : ∃ n, n = al.length + bs.length - 1 := ⟨_, rfl⟩
  obtain ⟨T, hT⟩ : ∃ T, T = transf al.length bs.length 3 := ⟨_, rfl⟩
  rw [← hn, ← hT] at W
  rw [← hT]
  have SUM : ∀ os, Jo3 (cv (rd al) (rd bs)) n n os → sumT (t3 os) n = val B64 al * val B64 bs := fun os jo => mul_sums hva.ws hvb.ws (by omega) (by omega) (by omega) (by omega) jo
  obtain ⟨A, ca, rfl, hca, _⟩ := hva.form
  obtain ⟨B, cb, rfl, hcb, _⟩ := hvb.form
  have hn0 : n ≤ 10000000 := by omega
  obtain ⟨n1, hn1⟩ : ∃ n1, n1 = al.length := ⟨_, rfl⟩
  obtain ⟨m1, hm1⟩ : ∃ m1, m1 = bs.length := ⟨_, rfl⟩
  rw [← hn1, ← hm1] at W ⊢
  have HW := Lib.hid W
  have HS := Lib.hid SUM
  clear W SUM hn hT hn1 hm1 hva hvb hm hd hla hlb hl hna hnb
  go_enter Tryd.func49, Tryd.ntmps49
  go_wp2_with fail
  refine (HW.out).mono ?_
  rintro e w1 ⟨g, os, rfl, ow, jo, m1, hg, g1⟩
  have CY := Lib.hid (carry_c w1 _ os n ow.cells jo.ws hn0)
  rw [HS.out os jo] at CY
  have M1 := Lib.hid m1
  have G1 := Lib.hid g1
  clear ow jo m1 g1 hg
  go_wp2_with fail
  refine (CY.out).mono ?_
  rintro e w2 ⟨x, rfl, wo, g2⟩
  have KK := Lib.hid (show _ ∧ _ ∧ _ from ⟨wo.mono G1.out.size, M1.out.grown g2, gb_trans G1.out (gb_none g2 (some gm))⟩)
  clear wo g2
  go_wp2
  go_ret2
  exact ⟨x, rfl, KK.out⟩
theorem convMul_no (w : World) (gm : Nat) (va vb : Value) (al bs : List Int) (hva : Sl w va al) (hvb : Sl w vb bs) (hl : al.length = 0 ∨ bs.length = 0) :
    Calls Tryd.prog 49 #[.pointer (some ⟨gm, 0, none⟩), va, vb] w fun e w' => e = .returned (.tuple #[.slice none 0 0, .bool false]) ∧ w.grownBy w' none := by
  have W := words_no w gm va vb al bs hva hvb hl
  obtain ⟨A, ca, rfl, hca, _⟩ := hva.form
  obtain ⟨B, cb, rfl, hcb, _⟩ := hvb.form
  have HW := Lib.hid W
  clear W hva hvb hl
  go_enter Tryd.func49, Tryd.ntmps49
  go_wp2_with fail
  refine (HW.out).mono ?_
  rintro e w1 ⟨rfl, g1⟩
  go_wp2
  go_ret2
  exact ⟨rfl, g1⟩
theorem sqr1_c (W : World) (t gm : Nat) (p r z x b : Int) (c : Mc) (L N : Nat) (hN : N = 2 ^ L) (va : Value) (al : List Int) (ba : Nat) (ca : W.cell? ⟨ba, 0, none⟩ = some va)
    (h : Pl W t gm p r z L) (hm : Mt W gm x b c) (hx : x ≤ 10000000000000000) (hva : Sl W va al) (hl : al.length ≤ N) :
    Calls Tryd.prog 72 #[.pointer (some ⟨t, 0, none⟩), .pointer (some ⟨ba, 0, none⟩)] W fun e w' => ∃ g cs, e = .returned (.tuple #[.slice (some ⟨g, 0, none⟩) N N, .bool true]) ∧ Own w' W.heap.size (.slice (some ⟨g, 0, none⟩) N N) cs ∧ Cy p r z L (rd al) (rd al) cs ∧
      Mt w' gm (x + ((2 * (N / 2 * L) + 2 * N : Nat) : Int)) b c ∧ W.heap.size ≤ g ∧ W.grownBy w' (some gm) := by
  have CV := Lib.hid (auto_c W t gm p r z x b c L N hN va al h hm hx hva hl)
  clear h hm hva hN hl
  go_enter Tryd.func72, Tryd.ntmps72
  go_wp2_with fail
  refine (CV.out).mono ?_
  rintro e w2 ⟨g, cs, rfl, k⟩
  have KK := Lib.hid k
  clear k
  go_wp2
  go_ret2
  exact ⟨g, cs, rfl, KK.out⟩
theorem sqr1J_c (W : World) (t gm n : Nat) (p r z x b : Int) (c : Mc) (L N : Nat) (hN : N = 2 ^ L) (va : Value) (al : List Int) (ba : Nat) (ca : W.cell? ⟨ba, 0, none⟩ = some va)
    (h : Pl W t gm p r z L) (hm : Mt W gm x b c) (hx : x ≤ 10000000000000000) (hva : Sl W va al) (hn : n = 2 * al.length - 1) (hl : 2 * al.length ≤ N) :
    Calls Tryd.prog 72 #[.pointer (some ⟨t, 0, none⟩), .pointer (some ⟨ba, 0, none⟩)] W fun e w' => ∃ g cs, e = .returned (.tuple #[.slice (some ⟨g, 0, none⟩) N N, .bool true]) ∧ Own w' W.heap.size (.slice (some ⟨g, 0, none⟩) N N) cs ∧ (∀ j, j < n → rd cs j = cv (rd al) (rd al) j % p) ∧
      Mt w' gm (x + ((2 * (N / 2 * L) + 2 * N : Nat) : Int)) b c ∧ W.heap.size ≤ g ∧ W.grownBy w' (some gm) := by
  refine (sqr1_c W t gm p r z x b c L N hN va al ba ca h hm hx hva (by omega)).mono ?_
  rintro e w' ⟨g, cs, rfl, ow, cy, m', hg, gg⟩
  exact ⟨g, cs, rfl, ow, fun j hj => cy.pr h hN (by omega) j (by omega), m', hg, gg⟩
theorem oneC_sqr (w : World) (gm n L N : Nat) (b : Int) (c : Mc) (va : Value) (al : List Int) (ba : Nat) (ca : w.cell? ⟨ba, 0, none⟩ = some va) (oa : ba ≠ gm) (hN : N = 2 ^ L)
    (hva : Sl w va al) (hn : n = 2 * al.length - 1) (hl : 2 * al.length ≤ N) (hna : Off va gm) :
    OneC w gm n L 72 b c ((2 * (N / 2 * L) + 2 * N : Nat) : Int) (cv (rd al) (rd al)) #[.pointer (some ⟨ba, 0, none⟩)] := by
  refine ⟨fun args w => enter_of Tryd.func72 (by kernel_rfl) rfl args w, fun k W t r z x hk G pl m hx => ?_⟩
  rw [show (#[.pointer (some ⟨t, 0, none⟩)] ++ #[.pointer (some ⟨ba, 0, none⟩)] : Array Value) = #[.pointer (some ⟨t, 0, none⟩), .pointer (some ⟨ba, 0, none⟩)] by simp]
  refine (sqr1J_c W t gm n _ r z x b c L N hN va al ba (gb_cell G ca (by simpa using oa)) pl m (by omega) (hva.off hna G) hn hl).mono ?_
  rintro e w' ⟨g, cs, rfl, ow, cy, m', hg, gg⟩
  exact ⟨g, cs, N, N, by omega, rfl, ow, cy, m', hg, gg⟩
set_option maxRecDepth 100000 in
set_option maxHeartbeats 4000000 in
theorem convSqr_c (w : World) (gm : Nat) (a b : Int) (c : Mc) (va : Value) (al : List Int) (hm : Mt w gm a b c) (hd : Db w) (ha : a ≤ 1000000000000000) (hva : Sl w va al) (hla : 0 < al.length) (hl : 2 * al.length ≤ 1024) (hna : Off va gm) :
    Calls Tryd.prog 52 #[.pointer (some ⟨gm, 0, none⟩), va] w fun e w' => ∃ x, e = .returned (.tuple #[x, .bool true]) ∧ Wo w' w.heap.size x (val B64 al * val B64 al) ∧
      Mt w' gm (a + (transf al.length al.length 2 : Nat)) b c ∧ w.grownBy w' (some gm) := by
  have hgm : gm < w.heap.size := World.block_lt_of_cell? w _ hm.c0
  obtain ⟨A, ca, rfl, hca, _⟩ := hva.form
  obtain ⟨S, hS⟩ : ∃ S, S = 2 * al.length := ⟨_, rfl⟩
  obtain ⟨n, hn⟩ : ∃ n, n = 2 * al.length - 1 := ⟨_, rfl⟩
  obtain ⟨L, hL⟩ : ∃ L, L = blen (S - 1) := ⟨_, rfl⟩
  obtain ⟨N, hN⟩ : ∃ N, N = 2 ^ L := ⟨_, rfl⟩
  have hL10 : L ≤ 10 := by rw [hL]; exact blen_le _ 10 (by omega)
  have hSN : S ≤ N := by rw [hN, hL]; have := blen_lt (S - 1); omega
  have hN10 : N ≤ 1024 := by rw [hN]; exact Nat.pow_le_pow_right (by decide) hL10
  obtain ⟨K, hK⟩ : ∃ K : Nat, K = 2 * (N / 2 * L) + 2 * N := ⟨_, rfl⟩
  have hK6 : K ≤ 1000000 := by
    have : N / 2 * L ≤ 512 * 10 := Nat.mul_le_mul (by omega) hL10
    omega
  have etr : ((transf al.length al.length 2 : Nat) : Int) = 3 * (K : Int) + 6 * (N : Int) := by
    unfold transf
    rw [show al.length + al.length = S by omega, ← hL, ← hN, hK]
    have : 2 * (N / 2) * L = 2 * (N / 2 * L) := Nat.mul_assoc _ _ _
    rw [this]; omega
  have SUM : ∀ os, Jo3 (cv (rd al) (rd al)) n n os → sumT (t3 os) n = val B64 al * val B64 al := fun os jo => mul_sums hva.ws hva.ws (by omega) (by omega) (by omega) (by omega) jo
  have GA := gb_alloc (gb_refl w none) (Obj.cells #[.slice A al.length ca] 74)
  have c1 : (w.alloc (Obj.cells #[.slice A al.length ca] 74)).cell? ⟨w.heap.size, 0, none⟩ = some (.slice A al.length ca) := (cs_new w #[.slice A al.length ca] 74).cell 0 rfl
  have ONE := oneC_sqr _ gm n L N b c _ al w.heap.size c1 (by omega) hN (hva.grown0 GA) hn (by omega) hna
  have JJ := joined_c _ gm n S L N 72 a b c ((K : Nat) : Int) (cv (rd al) (rd al)) _ (by omega) hL hN hL10 (by omega) (by omega) (hm.grown GA) (hd.grown0 GA) ha ⟨by omega, by omega⟩ (fun j hj => cv_bound hva.ws hva.ws (by omega)) (by rw [hK]; exact ONE)
  rw [etr]
  have hn0 : n ≤ 10000000 := by omega
  have MY := fun w => may_yes w al.length al.length hla hla (by omega)
  obtain ⟨n1, hn1⟩ : ∃ n1, n1 = al.length := ⟨_, rfl⟩
  rw [← hn1] at hS hn hl c1 JJ MY GA
  rw [← hn1] at hla hca ⊢
  have e1 : 2 * (n1 : Int) = (S : Int) := by omega
  have e2 : (S : Int) - 1 = (n : Int) := by omega
  have HJ := Lib.hid JJ
  have HMY := Lib.hid MY
  have HGA := Lib.hid GA
  have HS := Lib.hid SUM
  clear JJ MY GA ONE hva etr hK hN hL hS hn hd hm hn1 hna SUM
  go_enter Tryd.func52, Tryd.ntmps52
  go_wp2_with fail
  refine (HMY.out _).mono ?_
  rintro e w1 ⟨rfl, hw1⟩
  subst hw1
  go_wp2_with fail
  refine (HJ.out).mono ?_
  rintro e w2 ⟨g, os, rfl, ow, jo, mm, hg, gg⟩
  have CY := Lib.hid (carry_c w2 _ os n ow.cells jo.ws hn0)
  rw [HS.out os jo] at CY
  have M1 := Lib.hid mm
  have G1 := Lib.hid (gb_trans (gb_none HGA.out (some gm)) gg)
  clear ow jo mm gg hg
  go_wp2_with fail
  refine (CY.out).mono ?_
  rintro e w3 ⟨x, rfl, wo, g2⟩
  have KK := Lib.hid (show _ ∧ _ ∧ _ from ⟨wo.mono G1.out.size, M1.out.grown g2, gb_trans G1.out (gb_none g2 (some gm))⟩)
  clear wo g2
  go_wp2
  go_ret2
  exact ⟨x, rfl, KK.out.1, by rw [← Int.add_assoc]; exact KK.out.2.1, KK.out.2.2⟩
set_option maxRecDepth 100000 in
theorem convSqr_no (w : World) (gm : Nat) (va : Value) (al : List Int) (hva : Sl w va al) (hl : al.length = 0) :
    Calls Tryd.prog 52 #[.pointer (some ⟨gm, 0, none⟩), va] w fun e w' => e = .returned (.tuple #[.slice none 0 0, .bool false]) ∧ w.grownBy w' none := by
  obtain ⟨A, ca, rfl, hca, _⟩ := hva.form
  have MY := fun w => may_no w al.length al.length (.inl hl)
  obtain ⟨n1, hn1⟩ : ∃ n1, n1 = al.length := ⟨_, rfl⟩
  rw [← hn1] at MY
  rw [← hn1] at hca ⊢
  have HMY := Lib.hid MY
  clear MY hva hl hn1
  go_enter Tryd.func52, Tryd.ntmps52
  go_wp2_with fail
  refine (HMY.out _).mono ?_
  rintro e w1 ⟨rfl, hw1⟩
  subst hw1
  go_wp2
  go_ret2
  exact ⟨rfl, gb_alloc (gb_refl _ _) _⟩
/-- What the table says of it. -/
theorem transform_cost_c (w : World) (n m k : Nat) (hn : 0 < n) (hm : 0 < m) (hk : k ≤ 3) (h : n + m ≤ 1024) : Calls Tryd.prog 43 #[.int .i64 n, .int .i64 m, .int .i64 k] w fun e w' => e = .returned (.int .i64 (transf n m k : Nat)) ∧ w' = w := by
  obtain ⟨M, hM⟩ : ∃ M : Int, M = (n : Int) + (m : Int) - 1 := ⟨_, rfl⟩
  have eM : (n : Int) + (m : Int) - 1 = M := hM.symm
  have hw : IntKind.u64.wrap M = M := by rw [IntKind.wrap_u64]; omega
  have T := fun w => len64_c M (by omega) (by omega) w
  rw [show M.toNat = n + m - 1 by omega] at T
  obtain ⟨L, hL⟩ : ∃ L, L = blen (n + m - 1) := ⟨_, rfl⟩
  obtain ⟨N, hN⟩ : ∃ N, N = 2 ^ L := ⟨_, rfl⟩
  have hL10 : L ≤ 10 := by rw [hL]; exact blen_le _ 10 (by omega)
  have hN10 : N ≤ 1024 := by rw [hN]; exact Nat.pow_le_pow_right (by decide) hL10
  have eq : (2 : Int) ^ L = (N : Int) := by rw [hN, Int.natCast_pow]; rfl
  have hw1 : IntKind.i64.wrap (2 ^ L) = (N : Int) := by rw [eq, IntKind.wrap_i64]; omega
  have hw2 : IntKind.i64.wrap (1 * 2 ^ L) = (N : Int) := by rw [Int.one_mul]; exact hw1
  obtain ⟨H, hH⟩ : ∃ H : Nat, H = N / 2 := ⟨_, rfl⟩
  have eH : (N : Int) / 2 = (H : Int) := by omega
  have eH2 : (N : Int).tdiv 2 = (H : Int) := by rw [Int.tdiv_eq_ediv_of_nonneg (by omega)]; exact eH
  have k1 : k * H ≤ 3 * 512 := Nat.mul_le_mul hk (by omega)
  obtain ⟨P, hP⟩ : ∃ P : Nat, P = k * H := ⟨_, rfl⟩
  have eP : (k : Int) * (H : Int) = (P : Int) := by rw [hP, Int.natCast_mul]
  have k2 : P * L ≤ 1536 * 10 := Nat.mul_le_mul (by omega) hL10
  obtain ⟨Q, hQ⟩ : ∃ Q : Nat, Q = P * L := ⟨_, rfl⟩
  have eQ : (P : Int) * (L : Int) = (Q : Int) := by rw [hQ, Int.natCast_mul]
  have etr : ((transf n m k : Nat) : Int) = 3 * ((Q : Int) + 2 * (N : Int)) + 6 * (N : Int) := by
    unfold transf
    rw [← hL, ← hN, ← hH, ← hP, ← hQ]; omega
  rw [← hL] at T
  have HT := Lib.hid T
  have bM : 0 ≤ M ∧ M < 100000 := by omega
  have bQ : Q ≤ 15360 := by omega
  have bP : P ≤ 1536 := by omega
  rw [etr]
  clear T hM hL hN eq hH hP hQ etr k1 k2
  go_enter Tryd.func43, Tryd.ntmps43
  go_wp2_with fail
  refine (HT.out _).mono ?_
  rintro e w1 ⟨rfl, hw1⟩
  subst hw1
  go_wp2
  go_ret
  exact ⟨rfl, rfl⟩
end Go.Proofs.YtoiclkaecgpbbaaDoor

/- What is lent and spoilt, further. -/
namespace Go.Proofs.YtoiclkaecgpbbaaDoor
open Go.RowKit

theorem Le.take {xs os : List Int} (h : Le xs os) : os.take xs.length = xs := by
  refine rd_ext (by rw [List.length_take, h.len]; omega) fun j hj => ?_
  have hj' : j < xs.length := by rw [List.length_take, h.len] at hj; omega
  rw [rd_take hj', h.lo j hj']
theorem Le.sl {w : World} {base g : Nat} {xs os : List Int} (h : Le xs os) (ow : Own w base (.slice (some ⟨g, 0, none⟩) (xs.length + 4) (xs.length + 4)) os) : Sl w (.slice (some ⟨g, 0, none⟩) xs.length (xs.length + 4)) xs := by
  have := ow.take xs.length (by rw [h.len]; omega)
  rw [h.take] at this
  exact this.sl
theorem Sl.at {w : World} {A : Option Addr} {n c : Nat} {xs : List Int} (h : Sl w (.slice A n c) xs) (j : Nat) (hj : j < xs.length) : ∃ b o, A = some ⟨b, o, none⟩ ∧ w.cell? ⟨b, o + j, none⟩ = some (.int .u64 (rd xs j)) := by
  obtain ⟨A', c', e, _, _, _, h4⟩ := h
  simp only [Value.slice.injEq] at e
  obtain ⟨rfl, _, rfl⟩ := e
  obtain ⟨b, o, hA, hc⟩ := h4 (by omega)
  exact ⟨b, o, hA, hc j hj⟩
theorem off_some {g gm n c : Nat} (h : g ≠ gm) : Off (.slice (some ⟨g, 0, none⟩) n c) gm := fun b hb => by
  simp only [Value.ownBlock, Option.some.injEq] at hb
  rw [← hb]; exact h
theorem Wo.wd {w : World} {base : Nat} {v : Value} {n : Nat} (h : Wo w base v n) : Wd w v n := by
  obtain ⟨zs, ow, nz, hv⟩ := h
  exact ⟨zs, ow.sl, nz, hv⟩
/-- Cells that may be written. -/
def Wr (w : World) (g c : Nat) : Prop := ∀ j, j < c → w.frozen? ⟨g, j, none⟩ = false ∧ ∃ v, w.cell? ⟨g, j, none⟩ = some v
theorem Wr.set {w : World} {g c : Nat} (h : Wr w g c) (i : Nat) (u : Value) : Wr (w.setCell ⟨g, i, none⟩ u) g c := fun j hj => by
  obtain ⟨h1, v, h2⟩ := h j hj
  refine ⟨by rw [World.frozen?_setCell]; exact h1, ?_⟩
  by_cases e : i = j
  · subst e; exact ⟨_, World.cell?_setCell_same _ _ _ h2⟩
  · exact ⟨v, (cell_ne _ _ _ _ _ e).trans h2⟩
theorem Own.wr {w : World} {base g n c : Nat} {xs : List Int} (h : Own w base (.slice (some ⟨g, 0, none⟩) n c) xs) : Wr w g c ∧ n ≤ c ∧ c ≤ 9223372036854775807 := by
  rcases h.1.2 with ⟨h1, _⟩ | ⟨g', cap, cur, hv, hg, hh, h1, h2, h3, h4⟩
  · simp at h1
  · simp only [Value.slice.injEq, Option.some.injEq, Addr.mk.injEq, and_true] at hv
    obtain ⟨rfl, rfl, rfl⟩ := hv
    refine ⟨fun j hj => ⟨h.free j, ?_⟩, h1, by simpa [maxLen] using h2⟩
    refine ⟨cur[j]'(by omega), ?_⟩
    unfold World.cell?
    simp only [hh]
    simp [show j < cur.size by omega]
set_option maxRecDepth 100000 in
theorem spoilW_c (w : World) (base : Nat) (v : Value) (xs : List Int) (h : Own w base v xs) :
    Calls Tryd.prog 33 #[v] w fun e w' => e = .returned (.tuple #[]) ∧ w.grownBy w' v.ownBlock := by
  rcases h.form with ⟨rfl, rfl⟩ | ⟨g, c, rfl, h1, h2, h3, h4⟩
  · clear h
    go_enter Tryd.func33, Tryd.ntmps33
    go_wp2
    go_loopw [3] (fun v3 wr => v3 = .int .i64 0 ∧ wr = w) (fun _ _ => 0)
    case atStart => exact ⟨rfl, rfl⟩
    case round =>
      obtain ⟨rfl, rfl⟩ := hrel
      go_wp2
      go_end0
      exact ⟨rfl, gb_refl _ _⟩
  · obtain ⟨n, hn⟩ : ∃ n, n = xs.length := ⟨_, rfl⟩
    have W0 := Lib.hid h.wr.1
    rw [← hn] at h3 ⊢
    clear hn h h1 h2
    go_enter Tryd.func33, Tryd.ntmps33
    go_wp2
    go_loopw [3] (fun v3 wr => ∃ (i : Nat), v3 = .int .i64 i ∧ i ≤ c ∧ Wr wr g c ∧ w.grownBy wr (some g)) (fun v3 _ => c - (intOf v3).toNat)
    case atStart => exact ⟨0, rfl, by omega, W0.out, gb_refl _ _⟩
    case round =>
      clear W0
      obtain ⟨i, rfl, hi, wr', G⟩ := hrel
      have WW := Lib.hid wr'
      clear wr'
      by_cases hlt : i < c
      · obtain ⟨fr, v, ce⟩ := WW.out i hlt
        go_wp2
        go_roundw
        case rel => exact ⟨i + 1, by go_num, by omega, WW.out.set i _, gb_rowC G i _⟩
        case measure => simp [intOf]; omega
      · obtain rfl : i = c := by omega
        go_wp2
        go_end0
        exact ⟨rfl, G⟩
end Go.Proofs.YtoiclkaecgpbbaaDoor
