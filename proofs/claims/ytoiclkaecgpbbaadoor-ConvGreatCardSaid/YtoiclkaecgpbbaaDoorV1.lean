/- Contracts of the program's functions, and plain laws (Arith, Mr, Canon, Canon2, Canon3, Mem, Bits), for every input that their premises let in. -/
import Derived.Test.YtoiclkaecgpbbaaDoorProg
import Derived.Orders
import Derived.Tactics
import Derived.Laws.World
import Derived.KernelRfl
import Derived.Laws.Cells
import Derived.Laws.AppendOwn
import Derived.RowKit
import Derived.WalkKit
import Derived.Below
import Derived.OwnWalk
import Derived.Laws.OwnMore
import Derived.Laws.MakeOwn
import Derived.Deep.OwnRows
import Derived.Deep.Draws
import Derived.Lib.Hide
import Derived.Outline
import Derived.Lib.Mul64
import Derived.Laws.Externs
/- Plain facts on residues. -/
namespace Go.Proofs.YtoiclkaecgpbbaaDoor

/-- p is odd: what 2^64 times it is 0 modulo p is 0. -/
theorem odd_cancel {p : Int} (hp : p % 2 = 1) (h0 : 0 < p) {x : Int} (k : Nat) (h : x * 2 ^ k % p = 0) : x % p = 0 := by
  have hd : p ∣ x * 2 ^ k := Int.dvd_of_emod_eq_zero h
  have hc : Nat.Coprime p.natAbs ((2 : Int) ^ k).natAbs := by
    rw [Int.natAbs_pow]
    refine Nat.Coprime.pow_right k ?_
    have : p.natAbs % 2 = 1 := by omega
    show Nat.gcd _ 2 = 1
    rw [Nat.gcd_comm, Nat.gcd_rec, this]; rfl
  have h2 : p.natAbs ∣ x.natAbs * ((2 : Int) ^ k).natAbs := by
    rw [← Int.natAbs_mul]; exact Int.natAbs_dvd_natAbs.2 hd
  have := Nat.Coprime.dvd_of_dvd_mul_right hc h2
  exact Int.emod_eq_zero_of_dvd (Int.natAbs_dvd_natAbs.1 this)
theorem odd_cancel2 {p : Int} (hp : p % 2 = 1) (h0 : 0 < p) {x y : Int} (k : Nat) (h : x * 2 ^ k % p = y * 2 ^ k % p) : x % p = y % p := by
  have h1 : (x - y) * 2 ^ k % p = 0 := by
    rw [Int.sub_mul, Int.sub_emod, h, Int.sub_self]; rfl
  have h2 := odd_cancel hp h0 k h1
  exact Int.emod_eq_emod_iff_emod_sub_eq_zero.2 h2
/-- Alike modulo p. -/
def Cg (p x y : Int) : Prop := x % p = y % p
namespace Cg
variable {p x y z u v : Int}
theorem refl (p x : Int) : Cg p x x := rfl
theorem symm (h : Cg p x y) : Cg p y x := Eq.symm h
theorem trans (h : Cg p x y) (k : Cg p y z) : Cg p x z := Eq.trans h k
theorem of_eq (h : x = y) : Cg p x y := by rw [h]; rfl
theorem add (h : Cg p x y) (k : Cg p u v) : Cg p (x + u) (y + v) := by
  unfold Cg at *; rw [Int.add_emod, h, k, ← Int.add_emod]
theorem sub (h : Cg p x y) (k : Cg p u v) : Cg p (x - u) (y - v) := by
  unfold Cg at *; rw [Int.sub_emod, h, k, ← Int.sub_emod]
theorem mul (h : Cg p x y) (k : Cg p u v) : Cg p (x * u) (y * v) := by
  unfold Cg at *; rw [Int.mul_emod, h, k, ← Int.mul_emod]
theorem neg (h : Cg p x y) : Cg p (-x) (-y) := by
  have := (refl p 0).sub h
  simpa using this
theorem mulr (h : Cg p x y) (u : Int) : Cg p (x * u) (y * u) := h.mul (refl p u)
theorem mull (h : Cg p x y) (u : Int) : Cg p (u * x) (u * y) := (refl p u).mul h
theorem pow (h : Cg p x y) (n : Nat) : Cg p (x ^ n) (y ^ n) := by
  induction n with
  | zero => rw [Int.pow_zero, Int.pow_zero]; exact refl _ _
  | succ n ih => rw [Int.pow_succ, Int.pow_succ]; exact ih.mul h
theorem mod (p x : Int) : Cg p (x % p) x := Int.emod_emod x p
theorem multiple (p k : Int) : Cg p (p * k) 0 := by unfold Cg; rw [Int.mul_emod_right, Int.zero_emod]
theorem add_mult (p x k : Int) : Cg p (x + p * k) x := Int.add_mul_emod_self_left ..
theorem eq (h : Cg p x y) (hx : 0 ≤ x) (hx' : x < p) (hy : 0 ≤ y) (hy' : y < p) : x = y := by
  unfold Cg at h; rwa [Int.emod_eq_of_lt hx hx', Int.emod_eq_of_lt hy hy'] at h
theorem eq_mod (h : Cg p x y) (hx : 0 ≤ x) (hx' : x < p) : x = y % p := by
  unfold Cg at h; rwa [Int.emod_eq_of_lt hx hx'] at h
theorem cancel (hp : p % 2 = 1) (h0 : 0 < p) (k : Nat) (h : Cg p (x * 2 ^ k) (y * 2 ^ k)) : Cg p x y := odd_cancel2 hp h0 k h
theorem cancel64 (hp : p % 2 = 1) (h0 : 0 < p) (h : Cg p (x * 18446744073709551616) (y * 18446744073709551616)) : Cg p x y := cancel hp h0 64 h
end Cg
/-- Newton's step for the inverse modulo 2^64. -/
theorem newton (p x e : Int) (h : p * x = 1 + e) : p * (x * (2 - p * x)) = 1 - e * e := by
  grind
end Go.Proofs.YtoiclkaecgpbbaaDoor

/- The test of primes; the lowest binary digit. Plain. -/
namespace Go.Proofs.YtoiclkaecgpbbaaDoor

theorem low_bit (s e : Nat) (h : 2 ^ s * (2 * e + 1) < 2 ^ 64) : (2 ^ s * (2 * e + 1)) &&& (2 ^ 64 - 2 ^ s * (2 * e + 1)) = 2 ^ s := by
  have hs : s < 64 := by
    by_cases k : s < 64
    · exact k
    · have h1 : 2 ^ 64 ≤ 2 ^ s := Nat.pow_le_pow_right (by decide) (by omega)
      have h2 : 2 ^ s * 1 ≤ 2 ^ s * (2 * e + 1) := Nat.mul_le_mul_left _ (by omega)
      omega
  obtain ⟨k, hk⟩ : ∃ k, k = 63 - s := ⟨_, rfl⟩
  have e64 : (2 : Nat) ^ 64 = 2 ^ s * (2 * 2 ^ k) := by
    rw [show (2 : Nat) * 2 ^ k = 2 ^ (k + 1) by rw [Nat.pow_succ, Nat.mul_comm], ← Nat.pow_add]
    congr 1
    omega
  rw [e64] at h ⊢
  have h1 : 2 * e + 1 < 2 * 2 ^ k := Nat.lt_of_mul_lt_mul_left h
  have h2 : e < 2 ^ k := by omega
  rw [← Nat.mul_sub, show 2 * 2 ^ k - (2 * e + 1) = 2 * (2 ^ k - (e + 1)) + 1 by omega]
  refine Nat.eq_of_testBit_eq fun j => ?_
  rw [Nat.testBit_and, Nat.testBit_two_pow_mul, Nat.testBit_two_pow_mul, Nat.testBit_two_pow]
  by_cases hj : s ≤ j
  · rw [decide_eq_true (show j ≥ s from hj), Bool.true_and, Bool.true_and]
    obtain ⟨i, rfl⟩ : ∃ i, j = s + i := ⟨j - s, by omega⟩
    rw [Nat.add_sub_cancel_left]
    cases i with
    | zero =>
      rw [Nat.testBit_zero, Nat.testBit_zero, decide_eq_true (by omega), decide_eq_true (by omega), Nat.add_zero, decide_eq_true rfl]; rfl
    | succ i =>
      rw [Nat.testBit_succ, Nat.testBit_succ, show (2 * e + 1) / 2 = e by omega, show (2 * (2 ^ k - (e + 1)) + 1) / 2 = 2 ^ k - (e + 1) by omega, Nat.testBit_two_pow_sub_succ h2, decide_eq_false (show ¬ s = s + (i + 1) by omega)]
      cases Nat.testBit e i <;> simp
  · rw [decide_eq_false (show ¬ j ≥ s from hj), Bool.false_and, Bool.false_and, decide_eq_false (by omega)]
/-- The table's entries. -/
def db : List Nat := [0, 1, 56, 2, 57, 49, 28, 3, 61, 58, 42, 50, 38, 29, 17, 4, 62, 47, 59, 36, 45, 43, 51, 22, 53, 39, 33, 30, 24, 18, 12, 5, 63, 55, 48, 27, 60, 41, 37, 16, 46, 35, 44, 21, 52, 32, 23, 11, 54, 26, 40, 15, 34, 20, 31, 10, 25, 14, 19, 9, 13, 8, 7, 6]
theorem db_at (s : Nat) (h : s < 64) : 2 ^ s * 285870213051353865 % 18446744073709551616 / 2 ^ 58 < 64 ∧ db.getD (2 ^ s * 285870213051353865 % 18446744073709551616 / 2 ^ 58) 0 = s := by
  have : ∀ s : Fin 64, 2 ^ s.1 * 285870213051353865 % 18446744073709551616 / 2 ^ 58 < 64 ∧ db.getD (2 ^ s.1 * 285870213051353865 % 18446744073709551616 / 2 ^ 58) 0 = s.1 := by decide +kernel
  exact this ⟨s, h⟩
/-! ### The test -/
def mrL (n : Int) : Nat → Int → Bool
  | 0, _ => true
  | c + 1, x => if x * x % n = n - 1 then false else mrL n c (x * x % n)
/-- Does a say that n is none? -/
def wit (a n : Int) (d s : Nat) : Bool := if a ^ d % n = 0 ∨ a ^ d % n = 1 ∨ a ^ d % n = n - 1 then false else mrL n (s - 1) (a ^ d % n)
def smallP : List Nat := [2, 3, 5, 7, 11, 13, 17, 19, 23, 29, 31, 37]
/-- n - 1 is 2 to the first times the second. -/
def tzF : Nat → Nat → Nat × Nat
  | 0, m => (0, m)
  | k + 1, m => if m % 2 = 1 then (0, m) else ((tzF k (m / 2)).1 + 1, (tzF k (m / 2)).2)
theorem tzF_spec : ∀ k m, 0 < m → m < 2 ^ k → m = 2 ^ (tzF k m).1 * (tzF k m).2 ∧ (tzF k m).2 % 2 = 1 ∧ (tzF k m).1 < k
  | 0, m, h0, h1 => by rw [Nat.pow_zero] at h1; omega
  | k + 1, m, h0, h1 => by
    unfold tzF
    by_cases h : m % 2 = 1
    · rw [if_pos h]; exact ⟨by rw [Nat.pow_zero, Nat.one_mul], h, by omega⟩
    · rw [if_neg h]
      rw [Nat.pow_succ] at h1
      obtain ⟨e, o, l⟩ := tzF_spec k (m / 2) (by omega) (by omega)
      refine ⟨?_, o, by omega⟩
      show m = 2 ^ ((tzF k (m / 2)).1 + 1) * _
      rw [Nat.pow_succ, Nat.mul_assoc, Nat.mul_left_comm, ← e]; omega
def tz (m : Nat) : Nat × Nat := tzF 64 m
def divB (n : Nat) : List Nat → Option Nat
  | [] => none
  | p :: l => if n % p = 0 then some p else divB n l
def isP (n : Nat) : Bool :=
  if n < 2 then false else
    match divB n smallP with
    | some p => n == p
    | none => smallP.all fun p => !wit p n (tz (n - 1)).2 (tz (n - 1)).1
end Go.Proofs.YtoiclkaecgpbbaaDoor

/- A region that draws its order is walked in the order of the text, if operations that no edge orders do not touch each other. -/
namespace Go.Proofs.YtoiclkaecgpbbaaDoor.Canon
open Go

/-! ### What a meaning may do -/
def Dead {α : Type} : Sem α → Prop
  | .pure _ => False
  | .load _ _ k => ∀ v, Dead (k v)
  | .store _ _ _ k => Dead k
  | .new _ k => ∀ v, Dead (k v)
  | .shape _ k => ∀ v, Dead (k v)
  | .freeze _ _ k => Dead k
  | .frozen _ k => ∀ v, Dead (k v)
  | .getObj _ k => ∀ v, Dead (k v)
  | .setObj _ _ k => Dead k
  | .choose _ k => ∀ v, Dead (k v)
  | .sys _ k => ∀ v, Dead (k v)
  | .program k => ∀ v, Dead (k v)
  | .mark _ k => Dead k
  | .halt _ => True

def Calm {α : Type} (P : Program) : Sem α → Prop
  | .pure _ => True
  | .program k => Calm P (k P)
  | .mark _ k => Calm P k
  | .halt _ => True
  | s => Dead s

def ROnly {α : Type} : Sem α → Prop
  | .pure _ => True
  | .load _ _ k => ∀ v, ROnly (k v)
  | .program k => ∀ v, ROnly (k v)
  | .mark _ k => ROnly k
  | .halt _ => True
  | _ => False

theorem Dead.run {α : Type} {P : Program} : ∀ {s : Sem α}, Dead s → ∀ {w v w'}, s.run P w ≠ .ok v w' := by
  intro s
  induction s with
  | pure a => intro h; exact h.elim
  | load m a k ih =>
    intro h w v w'
    simp only [Sem.run]
    split
    · exact ih _ (h _)
    · split
      · exact ih _ (h _)
      · simp
  | store m a v k ih =>
    intro h w v' w' hr
    cases v <;> simp only [Sem.run] at hr
    all_goals first
      | exact absurd hr (by simp)
      | (split at hr
         · split at hr
           · exact absurd hr (by simp)
           · exact ih h hr
         · split at hr
           · exact ih h hr
           · exact absurd hr (by simp))
  | new o k ih => intro h w v w'; simp only [Sem.run]; exact ih _ (h _)
  | shape r k ih => intro h w v w'; simp only [Sem.run]; exact ih _ (h _)
  | freeze a n k ih => intro h w v w'; simp only [Sem.run]; exact ih h
  | frozen a k ih => intro h w v w'; simp only [Sem.run]; exact ih _ (h _)
  | getObj r k ih =>
    intro h w v w'
    simp only [Sem.run]
    split
    · simp
    · exact ih _ (h _)
    · simp
  | setObj r o k ih =>
    intro h w v w'
    simp only [Sem.run]
    split
    · simp
    · exact ih h
    · simp
  | choose q k ih =>
    intro h w v w'
    simp only [Sem.run]
    split
    · exact ih _ (h _)
    · exact ih _ (h _)
  | sys c k ih => intro h w v w'; simp only [Sem.run]; exact ih _ (h _)
  | program k ih => intro h w v w'; simp only [Sem.run]; exact ih _ (h _)
  | mark m k ih => intro h w v w'; simp only [Sem.run]; exact ih h
  | halt x => intro _ w v w'; simp [Sem.run]

theorem Calm.run {α : Type} {P : Program} : ∀ {s : Sem α}, Calm P s → ∀ {w v w'}, s.run P w = .ok v w' → ∀ w2, s.run P w2 = .ok v w2 := by
  intro s
  induction s with
  | pure a => intro _ w v w' h w2; simp only [Sem.run, Result.ok.injEq] at h ⊢; exact ⟨h.1, trivial⟩
  | program k ih => intro hc w v w' h w2; simp only [Sem.run] at h ⊢; exact ih _ hc h w2
  | mark m k ih => intro hc w v w' h w2; simp only [Sem.run] at h ⊢; exact ih hc h w2
  | halt x => intro _ w v w' h; simp [Sem.run] at h
  | _ => intro hc w v w' h; exact absurd h (Dead.run hc)

theorem ROnly.run {α : Type} {P : Program} : ∀ {s : Sem α}, ROnly s → ∀ {w v w'}, s.run P w = .ok v w' → w' = w := by
  intro s
  induction s with
  | pure a => intro _ w v w' h; simp only [Sem.run, Result.ok.injEq] at h; exact h.2.symm
  | load m a k ih =>
    intro hc w v w' h
    simp only [Sem.run] at h
    split at h
    · exact ih _ (hc _) h
    · split at h
      · exact ih _ (hc _) h
      · simp at h
  | program k ih => intro hc w v w' h; simp only [Sem.run] at h; exact ih _ (hc _) h
  | mark m k ih => intro hc w v w' h; simp only [Sem.run] at h; exact ih hc h
  | halt x => intro _ w v w' h; simp [Sem.run] at h
  | _ => intro hc; exact hc.elim

theorem Dead.bind {α β : Type} {f : α → Sem β} : ∀ {s : Sem α}, Dead s → Dead (s.bind f) := by
  intro s
  induction s with
  | pure a => intro h; exact h.elim
  | halt x => intro _; trivial
  | load m a k ih => intro h; exact fun v => ih _ (h v)
  | store m a v k ih => intro h; exact ih h
  | new o k ih => intro h; exact fun v => ih _ (h v)
  | shape r k ih => intro h; exact fun v => ih _ (h v)
  | freeze a n k ih => intro h; exact ih h
  | frozen a k ih => intro h; exact fun v => ih _ (h v)
  | getObj r k ih => intro h; exact fun v => ih _ (h v)
  | setObj r o k ih => intro h; exact ih h
  | choose q k ih => intro h; exact fun v => ih _ (h v)
  | sys c k ih => intro h; exact fun v => ih _ (h v)
  | program k ih => intro h; exact fun v => ih _ (h v)
  | mark m k ih => intro h; exact ih h

theorem Calm.bind {α β : Type} {P : Program} {f : α → Sem β} : ∀ {s : Sem α}, Calm P s → (∀ a, Calm P (f a)) → Calm P (s >>= f) := by
  intro s
  show Calm P s → _ → Calm P (s.bind f)
  induction s with
  | pure a => intro _ hf; exact hf a
  | halt x => intro _ _; trivial
  | program k ih => intro h hf; exact ih _ h hf
  | mark m k ih => intro h hf; exact ih h hf
  | _ => intro h hf; exact Dead.bind (f := f) h

theorem ROnly.bind {α β : Type} {f : α → Sem β} : ∀ {s : Sem α}, ROnly s → (∀ a, ROnly (f a)) → ROnly (s >>= f) := by
  intro s
  show ROnly s → _ → ROnly (s.bind f)
  induction s with
  | pure a => intro _ hf; exact hf a
  | halt x => intro _ _; trivial
  | load m a k ih => intro h hf; exact fun v => ih _ (h v) hf
  | program k ih => intro h hf; exact fun v => ih _ (h v) hf
  | mark m k ih => intro h hf; exact ih h hf
  | _ => intro h _; exact h.elim

theorem calm_pure {α : Type} {P : Program} (a : α) : Calm P (pure a : Sem α) := trivial
theorem calm_stuck {α : Type} {P : Program} (s : String) : Calm P (stuck s : Sem α) := trivial
theorem calm_unsupported {α : Type} {P : Program} (u : Unsupported) : Calm P (unsupported u : Sem α) := trivial
theorem dead_runtimePanic {α : Type} (x y : Int) (b : Bool) (c : BoundsCode) : Dead (runtimePanic (.bounds x y b c) : Sem α) := fun _ => trivial
theorem calm_bounds {α : Type} {P : Program} (x y : Int) (b : Bool) (c : BoundsCode) : Calm P (runtimePanic (.bounds x y b c) : Sem α) := trivial
theorem calm_error {α : Type} {P : Program} (s : String) : Calm P (runtimePanic (.error s) : Sem α) := trivial
theorem calm_nil {α : Type} {P : Program} : Calm P (runtimePanic .nilDeref : Sem α) := trivial
theorem calm_boundsPanic {α : Type} {P : Program} (k : IntKind) (x y : Int) (c : BoundsCode) : Calm P (boundsPanic k x y c : Sem α) := by
  unfold boundsPanic
  split
  · exact fun _ _ => trivial
  · exact calm_bounds ..
theorem calm_underlying {P : Program} (t : TypeId) : Calm P (underlying t) := by
  show Calm P (match P.underlying t with | some d => pure d | none => stuck "no such type")
  split <;> trivial
theorem calm_typeInfo {P : Program} (t : TypeId) : Calm P (typeInfo t) := by
  show Calm P (match P.info? t with | some d => pure d | none => stuck "no such type")
  split <;> trivial
theorem calm_sizeOf {P : Program} (t : TypeId) : Calm P (sizeOf t) := (calm_typeInfo t).bind fun _ => trivial
theorem calm_isAgg {P : Program} (t : TypeId) : Calm P (isAgg t) := (calm_underlying t).bind fun d => by split <;> trivial
theorem calm_part {P : Program} (t : TypeId) (cs : Array Value) (o : Nat) : Calm P (part t cs o) := by
  refine (calm_isAgg t).bind fun b => ?_
  cases b
  · show Calm P (match cs[o]? with | some v => pure v | none => stuck "part: no such cell")
    split <;> trivial
  · exact (calm_sizeOf t).bind fun _ => trivial
theorem calm_sureAddr {P : Program} (v : Value) : Calm P (Instr.sureAddr v) := by unfold Instr.sureAddr; split <;> trivial
theorem calm_asAddr {P : Program} (v : Value) : Calm P (asAddr v) := by unfold asAddr; split <;> trivial
theorem calm_asAgg {P : Program} (v : Value) : Calm P (asAgg v) := by unfold asAgg; split <;> trivial
theorem calm_asIntOf {P : Program} (v : Value) : Calm P (asIntOf v) := by unfold asIntOf; split <;> trivial
theorem calm_asBool {P : Program} (v : Value) : Calm P (asBool v) := by unfold asBool; split <;> trivial
theorem calm_extract {P : Program} (v : Value) (i : Nat) : Calm P (Instr.extract v i) := by
  unfold Instr.extract
  split
  · split <;> trivial
  · trivial
theorem calm_field {P : Program} (t : TypeId) (v : Value) (i : Nat) : Calm P (Instr.field t v i) := by
  refine (calm_underlying t).bind fun d => ?_
  split
  · split
    · exact (calm_asAgg v).bind fun _ => calm_part ..
    · trivial
  · trivial
theorem calm_index {P : Program} (t : TypeId) (v i : Value) : Calm P (Instr.index t v i) := by
  refine (calm_asIntOf i).bind fun q => ?_
  refine (calm_underlying t).bind fun d => ?_
  split
  · split
    · exact (calm_sizeOf _).bind fun _ => calm_part ..
    · exact calm_boundsPanic ..
  · split
    · trivial
    · exact calm_boundsPanic ..
  · trivial
theorem calm_indexAt {P : Program} (t : TypeId) (v i : Value) : Calm P (Instr.indexAt t v i) := by
  refine (calm_asIntOf i).bind fun q => ?_
  refine (calm_underlying t).bind fun d => ?_
  have rest : ∀ (b : Option Addr) (l : Nat) (e : TypeId), Calm P (do
      let tiny := l ≤ 1 && (match ← underlying t with | .array .. => true | _ => false)
      match b with
      | some a =>
        if 0 ≤ q.2 ∧ q.2 < l then pure (.pointer (some (a.add (q.2.toNat * (← sizeOf e)))))
        else if tiny then unsupported (.noEntry "op/indexAddr.an index out of range at an array of length 0 or 1 (ledger 616)")
        else boundsPanic q.1 q.2 l .index
      | none => boundsPanic q.1 q.2 0 .index : Sem Value) := by
    intro b l e
    refine (calm_underlying t).bind fun d => ?_
    extract_lets tiny
    cases b with
    | some a =>
      dsimp only
      split
      · exact (calm_sizeOf _).bind fun _ => trivial
      · split
        · trivial
        · exact calm_boundsPanic ..
    | none => exact calm_boundsPanic ..
  split
  · exact (calm_sureAddr v).bind fun a => rest (some a) _ _
  · exact rest _ _ _
  · trivial
theorem calm_sliceBound {P : Program} (x : Value) (y : Nat) (c : BoundsCode) : Calm P (Instr.sliceBound x y c) := by
  refine (calm_asIntOf x).bind fun q => ?_
  obtain ⟨k, i⟩ := q
  dsimp only
  split
  · trivial
  · exact calm_boundsPanic ..
theorem calm_sliceBounds {P : Program} (b : Bool) (l c : Nat) (lo hi mx : Option Value) : Calm P (Instr.sliceBounds b l c lo hi mx) := by
  unfold Instr.sliceBounds
  cases mx <;> cases hi <;> cases lo <;> dsimp only <;>
    repeat (first | exact calm_sliceBound .. | exact trivial | refine Calm.bind (calm_sliceBound ..) fun _ => ?_ | refine Calm.bind (s := pure _) trivial fun _ => ?_ | refine Calm.bind (s := stuck _) trivial fun _ => ?_)
theorem calm_slice {P : Program} (t : TypeId) (x : Value) (lo hi mx : Option Value) : Calm P (Instr.slice t x lo hi mx) := by
  refine (calm_underlying t).bind fun d => ?_
  split
  · split
    · exact Calm.bind (s := stuck _) trivial fun _ => (calm_sliceBounds ..).bind fun _ => trivial
    · exact (calm_sliceBounds ..).bind fun _ => trivial
  · exact (calm_sliceBounds ..).bind fun _ => (calm_sizeOf _).bind fun _ => trivial
  · refine (calm_asAddr _).bind fun _ => (calm_underlying _).bind fun d => ?_
    split
    · exact (calm_sliceBounds ..).bind fun _ => (calm_sizeOf _).bind fun _ => trivial
    · trivial
  · trivial
theorem calm_sliceAt {P : Program} (t : TypeId) (x : Value) (lo hi mx : Option Value) : Calm P (Instr.sliceAt t x lo hi mx) := by
  refine (calm_underlying t).bind fun d => ?_
  split
  · exact (calm_sureAddr _).bind fun _ => (calm_sliceBounds ..).bind fun _ => (calm_sizeOf _).bind fun _ => trivial
  · exact calm_slice ..
theorem ronly_underlying (t : TypeId) : ROnly (underlying t) := fun P => by
  show ROnly (match P.underlying t with | some d => pure d | none => stuck "no such type")
  split <;> trivial
theorem ronly_typeInfo (t : TypeId) : ROnly (typeInfo t) := fun P => by
  show ROnly (match P.info? t with | some d => pure d | none => stuck "no such type")
  split <;> trivial
theorem ronly_sizeOf (t : TypeId) : ROnly (sizeOf t) := (ronly_typeInfo t).bind fun _ => trivial
theorem ronly_isAgg (t : TypeId) : ROnly (isAgg t) := (ronly_underlying t).bind fun d => by split <;> trivial
theorem ronly_loadCellsFrom (a : Addr) : ∀ (n i : Nat) (acc : Array Value), ROnly (loadCellsFrom a i n acc) := by
  intro n
  induction n with
  | zero => intro i acc; trivial
  | succ n ih => intro i acc; exact fun v => ih _ _
theorem ronly_loadAt (t : TypeId) (v : Value) : ROnly (Instr.loadAt t v) := by
  refine ROnly.bind (s := Instr.sureAddr v) (by unfold Instr.sureAddr; split <;> trivial) fun a => ?_
  refine (ronly_isAgg t).bind fun b => ?_
  cases b
  · exact fun _ => trivial
  · exact (ronly_sizeOf t).bind fun n => ROnly.bind (ronly_loadCellsFrom ..) fun _ => trivial
end Go.Proofs.YtoiclkaecgpbbaaDoor.Canon

/- A region that draws its order, walked in the order of the text: the law. -/
namespace Go.Proofs.YtoiclkaecgpbbaaDoor.Canon
open Go

def pureKind (o : Oper) : Bool := match o.op with
  | .move _ | .assign _ | .pick .. | .nilCheck _ | .binOp .. | .unOp .. | .convert .. | .fieldAddr .. | .field .. | .indexAddr .. | .index .. | .slice .. | .extract .. => true
  | .call c => match c.callee with
    | .builtin .len | .builtin .max | .builtin .min => true
    | _ => false
  | _ => false
def loadKind (o : Oper) : Bool := match o.op with | .load .. => true | _ => false
def isInt : Value → Bool | .int .. => true | _ => false
def isBool : Value → Bool | .bool _ => true | _ => false
def calmB (P : Program) (ρ : Operand → Value) (o : Oper) : Bool := match o.op with
  | .nilCheck x => match ρ x with | .pointer _ => true | _ => false
  | .binOp op _ x y _ => (isInt (ρ x) && isInt (ρ y)) || ((match op with | .eql | .neq => true | _ => false) && isBool (ρ x) && isBool (ρ y))
  | .unOp _ _ x => isInt (ρ x) || isBool (ρ x)
  | .convert _ dst x => isInt (ρ x) && (match P.underlying dst with | some (.int _) => true | _ => false)
  | .fieldAddr t _ f => match P.underlying t with
    | some (.struct fs) => match fs[f]? with
      | some g => match P.info? g.type with
        | some i => i.size != 0
        | none => false
      | none => false
    | _ => false
  | .call c => match c.callee, c.args.toList.map ρ with
    | .builtin .len, [.slice ..] | .builtin .len, [.string _] => true
    | .builtin .max, l | .builtin .min, l => l.all isInt
    | _, _ => false
  | _ => true

theorem calm_max (P : Program) : ∀ (l : List Value) (x : Value), isInt x = true → l.all isInt = true → Calm P (l.foldlM Builtin.max2 x) := by
  intro l
  induction l with
  | nil => intro x _ _; trivial
  | cons y l ih =>
    intro x hx hl
    simp only [List.all_cons, Bool.and_eq_true] at hl
    cases x <;> simp [isInt] at hx
    obtain ⟨h1, h2⟩ := hl
    cases y <;> simp [isInt] at h1
    exact ih (.int _ _) rfl h2
theorem calm_min (P : Program) : ∀ (l : List Value) (x : Value), isInt x = true → l.all isInt = true → Calm P (l.foldlM Builtin.min2 x) := by
  intro l
  induction l with
  | nil => intro x _ _; trivial
  | cons y l ih =>
    intro x hx hl
    simp only [List.all_cons, Bool.and_eq_true] at hl
    cases x <;> simp [isInt] at hx
    obtain ⟨h1, h2⟩ := hl
    cases y <;> simp [isInt] at h1
    exact ih (.int _ _) rfl h2
theorem calm_binInt (P : Program) (op : BinOp) (t : TypeId) (k k' : IntKind) (x y : Int) : Calm P (binOp op t (.int k x) (.int k' y)) := by
  have hs : ∀ op : BinOp, Calm P (Op.shift op k x k' y) := fun op => by
    unfold Op.shift
    split
    · exact calm_error _
    · cases op <;> trivial
  have hd : ∀ op : BinOp, Calm P (Op.intDiv op k x y) := fun op => by
    unfold Op.intDiv
    split
    · exact calm_error _
    · cases op <;> trivial
  cases op <;> first
    | exact hs _
    | (unfold binOp
       dsimp only
       first
         | exact hs _
         | (split
            · trivial
            · first | exact hd _ | trivial))
theorem calm_binBool (P : Program) (op : BinOp) (h : (match op with | .eql | .neq => true | _ => false) = true) (t : TypeId) (x y : Bool) : Calm P (binOp op t (.bool x) (.bool y)) := by
  have he : Calm P (Op.equal t (.bool x) (.bool y)) := by
    refine (calm_underlying t).bind fun d => ?_
    cases d <;> trivial
  cases op <;> first | exact absurd h (by decide) | exact he.bind fun _ => trivial
theorem calm_und {α : Type} {P : Program} {t : TypeId} {d : TypeDesc} (h : P.underlying t = some d) {f : TypeDesc → Sem α} (hf : Calm P (f d)) : Calm P (underlying t >>= f) := by
  show Calm P ((match P.underlying t with | some d => pure d | none => stuck "no such type" : Sem TypeDesc).bind f)
  rw [h]; exact hf
theorem calm_size {α : Type} {P : Program} {t : TypeId} {d : TypeInfo} (h : P.info? t = some d) {f : Nat → Sem α} (hf : Calm P (f d.size)) : Calm P (sizeOf t >>= f) := by
  show Calm P (((match P.info? t with | some d => pure d | none => stuck "no such type" : Sem TypeInfo).bind fun i => pure i.size).bind f)
  rw [h]; exact hf
/-- What a pure operation means, is calm. -/
theorem calm_of (P : Program) (ρ : Operand → Value) (o : Oper) (hk : pureKind o = true) (hc : calmB P ρ o = true) :
    ∃ s : Sem Value, execOp ρ o = (s >>= fun v => pure (Next.value v)) ∧ Calm P s := by
  obtain ⟨dst, op, type, pos, after, guard⟩ := o
  cases op <;> simp only [pureKind, Bool.false_eq_true] at hk
  case move x => exact ⟨pure (ρ x), rfl, trivial⟩
  case assign x => exact ⟨pure (ρ x), rfl, trivial⟩
  case pick c x y => exact ⟨asBool (ρ c) >>= fun b => pure (if b then ρ x else ρ y), by
    simp only [execOp]
    cases ρ c <;> rfl, (calm_asBool _).bind fun _ => trivial⟩
  case nilCheck x =>
    simp only [calmB] at hc
    split at hc
    · rename_i q hx
      cases q with
      | none => exact ⟨runtimePanic .nilDeref, by simp only [execOp, hx]; rfl, calm_nil⟩
      | some q => exact ⟨pure (ρ x), by simp only [execOp, hx]; rfl, trivial⟩
    · exact absurd hc (by decide)
  case binOp op t x y yt =>
    simp only [calmB, Bool.or_eq_true, Bool.and_eq_true] at hc
    rcases hc with ⟨h1, h2⟩ | ⟨⟨h0, h1⟩, h2⟩
    · cases hx : ρ x <;> simp [isInt, hx] at h1
      cases hy : ρ y <;> simp [isInt, hy] at h2
      refine ⟨_, rfl, ?_⟩
      rw [hx, hy]
      refine Calm.bind ?_ fun _ => calm_binInt ..
      unfold eqGuard
      split <;> trivial
    · cases hx : ρ x <;> simp [isBool, hx] at h1
      cases hy : ρ y <;> simp [isBool, hy] at h2
      refine ⟨_, rfl, ?_⟩
      rw [hx, hy]
      refine Calm.bind ?_ fun _ => calm_binBool P op h0 ..
      unfold eqGuard
      split <;> trivial
  case unOp op t x =>
    simp only [calmB, Bool.or_eq_true] at hc
    refine ⟨_, rfl, ?_⟩
    cases hx : ρ x <;> simp [isInt, isBool, hx] at hc <;> cases op <;> trivial
  case convert src dst' x =>
    simp only [calmB, Bool.and_eq_true] at hc
    obtain ⟨h1, h2⟩ := hc
    cases hx : ρ x <;> simp [isInt, hx] at h1
    split at h2
    · rename_i k hk'
      refine ⟨_, rfl, ?_⟩
      rw [hx]
      refine (calm_underlying src).bind fun d => ?_
      show Calm P (underlying dst' >>= _)
      have e : (underlying dst' : Sem TypeDesc) = .program fun p => match p.underlying dst' with | some d => pure d | none => stuck "no such type" := rfl
      rw [e]
      show Calm P ((match P.underlying dst' with | some d => pure d | none => stuck "no such type" : Sem TypeDesc) >>= _)
      rw [hk']
      cases d <;> trivial
    · exact absurd h2 (by decide)
  case fieldAddr t x f =>
    simp only [calmB] at hc
    refine ⟨_, rfl, ?_⟩
    split at hc
    · rename_i fs hfs
      split at hc
      · rename_i g hg
        split at hc
        · rename_i i hi
          have hne : i.size ≠ 0 := by simpa using hc
          refine calm_und hfs ?_
          show Calm P (match fs[f]? with
            | some f => (do
              let a ← Instr.sureAddr (ρ x)
              pure (.pointer (some (← fieldPlace a f))) : Sem Value)
            | _ => stuck "fieldAddr: no such field")
          rw [hg]
          refine (calm_sureAddr _).bind fun a => ?_
          refine Calm.bind ?_ fun _ => trivial
          refine calm_size hi ?_
          rw [if_neg hne]
          trivial
        · exact absurd hc (by decide)
      · exact absurd hc (by decide)
    · exact absurd hc (by decide)
  case field t x f => exact ⟨_, rfl, calm_field ..⟩
  case indexAddr t x i => exact ⟨_, rfl, calm_indexAt ..⟩
  case index t x i => exact ⟨_, rfl, calm_index ..⟩
  case slice t x lo hi mx => exact ⟨_, rfl, calm_sliceAt ..⟩
  case extract x i => exact ⟨_, rfl, calm_extract ..⟩
  case call c =>
    obtain ⟨callee, args, ats⟩ := c
    cases callee with
    | value f => simp at hk
    | invoke r m => simp at hk
    | builtin b =>
      cases b <;> simp only [Bool.false_eq_true] at hk
      case len =>
        simp only [calmB] at hc
        refine ⟨Builtin.len_ ats type (args.map ρ), rfl, ?_⟩
        unfold Builtin.len_
        split at hc
        all_goals try (exact absurd hc (by decide))
        all_goals first
          | (rename_i h0; cases h0; done)
          | (rename_i h0 h1; cases h0; done)
          | skip
        all_goals
          rename_i h1
          have e : args.map ρ = _ := Array.toList_inj.1 ((Array.toList_map ..).trans h1)
          rw [e]
          cases ats[0]? with
          | none => trivial
          | some t =>
            refine (calm_underlying t).bind fun d => ?_
            cases d <;> first | trivial | skip
            refine (calm_underlying _).bind fun d => ?_
            cases d <;> trivial
      case max =>
        simp only [calmB] at hc
        refine ⟨Builtin.max_ ats type (args.map ρ), rfl, ?_⟩
        have hc' : (args.map ρ).toList.all isInt = true := by rw [Array.toList_map]; exact hc
        unfold Builtin.max_
        cases hl : (args.map ρ).toList with
        | nil => trivial
        | cons x l =>
          rw [hl] at hc'
          simp only [List.all_cons, Bool.and_eq_true] at hc'
          exact calm_max P l x hc'.1 hc'.2
      case min =>
        simp only [calmB] at hc
        refine ⟨Builtin.min_ ats type (args.map ρ), rfl, ?_⟩
        have hc' : (args.map ρ).toList.all isInt = true := by rw [Array.toList_map]; exact hc
        unfold Builtin.min_
        cases hl : (args.map ρ).toList with
        | nil => trivial
        | cons x l =>
          rw [hl] at hc'
          simp only [List.all_cons, Bool.and_eq_true] at hc'
          exact calm_min P l x hc'.1 hc'.2

/-! ### The walk of one operation, without panics -/
section
variable (P : Program) (ops : Array Oper)
def QF : Exit → Act → World → Prop := fun _ _ _ => False
def Wants (o : Oper) (a : Act) : Prop := Region.wanted o (yielded ops a.tmps) = true
def Cal (o : Oper) (a : Act) : Prop := pureKind o = true → Wants ops o a → calmB P a.eval o = true
def Step (o : Oper) (K : Act → World → Prop) (a : Act) (w : World) : Prop :=
  if Region.wanted o (yielded ops a.tmps) = true then o.upon P a K QF ((execOp a.eval o).run P w) else K (a.put o.dst undef) w
/-- Only the plain way out. -/
def Only (K : Act → World → Prop) : Exit → Act → World → Prop := fun e a w => match e with | .normal => K a w | _ => False
end
section
variable {P : Program} {ops : Array Oper}
theorem upon_mono {o : Oper} {a a1 : Act} {Q Q' : Exit → Act → World → Prop} {K K' : Act → World → Prop} {r : Result Next}
    (hQ : ∀ c w, Q (.panic c) a w → Q' (.panic c) a1 w) (hL : LetsOut Q → LetsOut Q')
    (hK : ∀ ds v w, K ({ a with defers := ds }.put o.dst v) w → K' ({ a1 with defers := ds }.put o.dst v) w) (hd : a1.defers = a.defers)
    (h : o.upon P a K Q r) : o.upon P a1 K' Q' r := by
  cases r with
  | ok n w =>
    cases n <;> simp only [Oper.upon] at h ⊢
    case value v => have := hK a.defers v w h; rw [← hd] at this; exact this
    case skip => have := hK a.defers undef w h; rw [← hd] at this; exact this
    case defer d => have := hK (d :: a.defers) undef w h; rw [← hd] at this; exact this
    case enter f args =>
      refine Calls.mono h fun e w'' he => ?_
      cases e with
      | returned v => have := hK a.defers v w'' he; rw [← hd] at this; exact this
      | panicked c => exact hQ _ _ he
      | outgrown => exact hL he
    case row row args => exact Rows.mono h fun v w'' he => by have := hK a.defers v w'' he; rw [← hd] at this; exact this
  | halt x w => cases x <;> simp only [Oper.upon] at h ⊢; exact hQ _ _ h
theorem lets_QF : ¬ LetsOut QF := fun ⟨_, _, h⟩ => h
theorem lets_Only {K : Act → World → Prop} : ¬ LetsOut (Only K) := fun ⟨_, _, h⟩ => h
theorem step_of_wpOp {K0 K : Act → World → Prop} {i : Nat} {o : Oper} (ho : ops[i]? = some o) {a : Act} {w : World} (h : wpOp P ops (Only K0) i K a w) : Step P ops o K a w := by
  unfold wpOp at h
  simp only [ho] at h
  unfold Step
  split at h
  · rename_i hw
    rw [if_pos hw]
    rcases h with h | h
    · exact upon_mono (fun _ _ h => h.elim) (fun h => absurd h lets_Only) (fun _ _ _ h => h) rfl h
    · exact absurd h.2 lets_Only
  · rename_i hw
    rw [if_neg hw]; exact h
theorem Step.wpOp {Q : Exit → Act → World → Prop} {K : Act → World → Prop} {i : Nat} {o : Oper} (ho : ops[i]? = some o) {a : Act} {w : World} (h : Step P ops o K a w) : wpOp P ops Q i K a w := by
  unfold Go.wpOp
  simp only [ho]
  unfold Step at h
  split at h
  · rename_i hw
    rw [if_pos hw]
    exact .inl (upon_mono (fun _ _ h => h.elim) (fun h => absurd h lets_QF) (fun _ _ _ h => h) rfl h)
  · rename_i hw
    rw [if_neg hw]; exact h
theorem Step.mono {o : Oper} {K K' : Act → World → Prop} {a : Act} {w : World} (h : Step P ops o K a w)
    (hK : ∀ (a1 : Act) (v : Value) (w' : World), a1.tmps = a.tmps → K (a1.put o.dst v) w' → K' (a1.put o.dst v) w') : Step P ops o K' a w := by
  unfold Step at *
  split at h
  · rename_i hw
    rw [if_pos hw]
    exact upon_mono (fun _ _ h => h) (fun h => h) (fun ds v w h => hK { a with defers := ds } v w rfl h) rfl h
  · rename_i hw
    rw [if_neg hw]; exact hK a undef w rfl h
/-- There is a way out. -/
theorem Step.out {o : Oper} {K : Act → World → Prop} {a : Act} {w : World} (h : Step P ops o K a w) : ∃ (a1 : Act) (v : Value) (w' : World), a1.tmps = a.tmps ∧ K (a1.put o.dst v) w' := by
  unfold Step at h
  split at h
  · generalize (execOp a.eval o).run P w = r at h
    cases r with
    | ok n w1 =>
      cases n <;> simp only [Oper.upon] at h
      case value v => exact ⟨a, v, w1, rfl, h⟩
      case skip => exact ⟨a, undef, w1, rfl, h⟩
      case defer d => exact ⟨{ a with defers := d :: a.defers }, undef, w1, rfl, h⟩
      case enter f args =>
        obtain ⟨e, w2, fr, he, _⟩ := h []
        cases e with
        | returned v => exact ⟨a, v, w2, rfl, he⟩
        | panicked c => exact he.elim
        | outgrown => exact absurd he lets_QF
      case row row args =>
        obtain ⟨v, w2, hv, _⟩ := h default []
        exact ⟨a, v, w2, rfl, hv⟩
    | halt x w1 => cases x <;> simp only [Oper.upon] at h; exact h.elim
  · exact ⟨a, undef, w, rfl, h⟩
theorem eval_tmps {a a1 : Act} (h : a1.tmps = a.tmps) : a1.eval = a.eval := by funext x; cases x <;> simp [Act.eval, h]
theorem Cal.tmps {o : Oper} {a a1 : Act} (h : a1.tmps = a.tmps) (hc : Cal P ops o a) : Cal P ops o a1 := by
  unfold Cal Wants at *; rw [eval_tmps h, h]; exact hc
/-- The slots that an operation looks at are alike. -/
def Agree (o : Oper) (a a1 : Act) : Prop := (∀ x ∈ o.op.operands, a1.eval x = a.eval x) ∧ Region.wanted o (yielded ops a1.tmps) = Region.wanted o (yielded ops a.tmps)
theorem agree_put {o oj : Oper} {a a1 : Act} {v : Value} (h1 : a1.tmps = a.tmps) (h : ∀ d, oj.dst = some d → d ∉ o.looksAt ops) : Agree (ops := ops) o a (a1.put oj.dst v) := by
  refine ⟨fun x hx => ?_, ?_⟩
  · rw [Act.eval_put (a := a1)]
    · rw [eval_tmps h1]
    · intro d hd hxd
      refine h d hd ?_
      subst hxd
      exact List.mem_append_left _ (List.mem_filterMap.2 ⟨.tmp d, by simpa using hx, rfl⟩)
  · rw [wanted_put (ops := ops) o a1 oj.dst v h, h1]
theorem Agree.symm {o : Oper} {a a1 : Act} (h : Agree (ops := ops) o a a1) : Agree (ops := ops) o a1 a := ⟨fun x hx => (h.1 x hx).symm, h.2.symm⟩
theorem Agree.trans {o : Oper} {a a1 a2 : Act} (h : Agree (ops := ops) o a a1) (k : Agree (ops := ops) o a1 a2) : Agree (ops := ops) o a a2 := ⟨fun x hx => (k.1 x hx).trans (h.1 x hx), k.2.trans h.2⟩
theorem calmB_congr {ρ ρ' : Operand → Value} {o : Oper} (h : ∀ x ∈ o.op.operands, ρ x = ρ' x) : calmB P ρ o = calmB P ρ' o := by
  obtain ⟨dst, op, type, pos, after, guard⟩ := o
  cases op <;> simp only [Op.operands] at h <;> simp only [calmB]
  case nilCheck x => rw [h x (by simp)]
  case binOp op t x y yt => rw [h x (by simp), h y (by simp)]
  case unOp op t x => rw [h x (by simp)]
  case convert s d x => rw [h x (by simp)]
  case call c =>
    have e : c.args.toList.map ρ = c.args.toList.map ρ' := List.map_congr_left fun x hx => h x (by simp only [Call.operands, Array.mem_append]; exact .inr (by simpa using hx))
    rw [e]
theorem Agree.cal {o : Oper} {a a1 : Act} (h : Agree (ops := ops) o a a1) (hc : Cal P ops o a) : Cal P ops o a1 := by
  intro hk hw
  rw [calmB_congr h.1]
  exact hc hk (by unfold Wants at *; rw [← h.2]; exact hw)
theorem Agree.exec {o : Oper} {a a1 : Act} (h : Agree (ops := ops) o a a1) (hs : ∀ cs b, o.op ≠ .select cs b) : execOp a1.eval o = execOp a.eval o := execOp_congr o hs h.1
/-- What a pure operation yields, it yields in each world. -/
theorem Step.yields {o : Oper} {K : Act → World → Prop} {a : Act} {w : World} (hk : pureKind o = true) (hc : Cal P ops o a) (h : Step P ops o K a w) : ∃ v, Yields P ops o v a ∧ K (a.put o.dst v) w := by
  unfold Step at h
  split at h
  · rename_i hw
    obtain ⟨s, hs, hcs⟩ := calm_of P a.eval o hk (hc hk hw)
    have hcn : Calm P (execOp a.eval o) := by rw [hs]; exact hcs.bind fun _ => trivial
    cases hr : (execOp a.eval o).run P w with
    | ok n w1 =>
      have hall := hcn.run hr
      have hw1 : w1 = w := by
        have := hall w
        rw [hr] at this
        injection this
      subst hw1
      obtain ⟨v, rfl⟩ : ∃ v, n = .value v := by
        have : ∀ {s : Sem Value} {w w' n}, Sem.run P (s >>= fun v => (pure (Next.value v) : Sem Next)) w = .ok n w' → ∃ v, n = .value v := by
          intro s w w' n h
          rw [Sem.run_bind] at h
          cases hq : s.run P w with
          | ok v w2 => rw [hq] at h; exact ⟨v, by have : Result.ok (Next.value v) w2 = Result.ok n w' := h; injection this with h1; exact h1.symm⟩
          | halt x w2 => rw [hq] at h; exact absurd h (by simp)
        rw [hs] at hr
        exact this hr
      rw [hr] at h
      exact ⟨v, .inl ⟨hw, hall⟩, h⟩
    | halt x w1 =>
      rw [hr] at h
      cases x <;> simp only [Oper.upon] at h
      exact h.elim
  · rename_i hw
    exact ⟨undef, .inr ⟨by simpa using hw, rfl⟩, h⟩
/-- What a load gives leaves the world. -/
theorem Step.loads {o : Oper} {K : Act → World → Prop} {a : Act} {w : World} (hk : loadKind o = true) (h : Step P ops o K a w) :
    (Wants ops o a ∧ ∃ v, (execOp a.eval o).run P w = .ok (.value v) w ∧ K (a.put o.dst v) w) ∨ (¬ Wants ops o a ∧ K (a.put o.dst undef) w) := by
  unfold Step at h
  split at h
  · rename_i hw
    refine .inl ⟨hw, ?_⟩
    obtain ⟨dst, op, type, pos, after, guard⟩ := o
    cases op <;> simp only [loadKind, Bool.false_eq_true] at hk
    rename_i t x
    have e : execOp a.eval ⟨dst, .load t x, type, pos, after, guard⟩ = (Instr.loadAt t (a.eval x) >>= fun v => pure (Next.value v)) := rfl
    rw [e] at h ⊢
    rw [Sem.run_bind] at h ⊢
    cases hq : (Instr.loadAt t (a.eval x)).run P w with
    | ok v w2 =>
      obtain rfl := (ronly_loadAt t (a.eval x)).run hq
      rw [hq] at h
      exact ⟨v, rfl, h⟩
    | halt y w2 =>
      rw [hq] at h
      cases y <;> exact h.elim
  · rename_i hw
    exact .inr ⟨hw, h⟩
theorem Step.of_loads {o : Oper} {K : Act → World → Prop} {a : Act} {w : World} {v : Value} (hw : Wants ops o a) (hr : (execOp a.eval o).run P w = .ok (.value v) w) (h : K (a.put o.dst v) w) : Step P ops o K a w := by
  unfold Wants at hw; unfold Step; rw [if_pos hw, hr]; exact h
theorem Step.of_yields0 {o : Oper} {K : Act → World → Prop} {a : Act} {w : World} {v : Value} (hy : Yields P ops o v a) (h : K (a.put o.dst v) w) : Step P ops o K a w := by
  unfold Step
  rcases hy with ⟨hw, hr⟩ | ⟨hw, rfl⟩
  · rw [if_pos hw, hr w]; exact h
  · rw [if_neg (by rw [hw]; decide)]; exact h

/-! ### Cells that the region leaves as they are -/
/-- These cells hold these values. -/
def Holds (w : World) (p : Addr) : Value → Prop
  | .agg xs => ∀ j u, xs.toList[j]? = some u → w.cell? (p.add j) = some u
  | v => w.cell? p = some v
def SF (F : List (Addr × Value)) (w : World) : Prop := ∀ q ∈ F, Holds w q.1 q.2
/-- A load, among the named ones, of what may be held. -/
def heldB (H : List Nat) (o : Oper) : Bool := match o.op with
  | .load .. => match o.dst with
    | some d => H.contains d
    | none => false
  | _ => false
def isAggB : Value → Bool
  | .agg _ => true
  | _ => false
def aggFit (P : Program) (t : TypeId) : Value → Bool
  | .agg xs => match P.info? t with | some i => i.size == xs.size | none => false
  | _ => false
/-- May the load's type have this value? -/
def fitB (P : Program) (o : Oper) (v : Value) : Bool := match o.op with
  | .load t _ => match P.underlying t with
    | some (.struct _) => aggFit P t v
    | some (.array ..) => aggFit P t v
    | some _ => !isAggB v
    | none => false
  | _ => true
theorem holds_cell {w : World} {p : Addr} {v : Value} (h : Holds w p v) (hv : (!isAggB v) = true) : w.cell? p = some v := by
  cases v <;> first | exact h | (simp [isAggB] at hv)
theorem holds_one {w : World} {p : Addr} {v : Value} (h : w.cell? p = some v) (hv : (!isAggB v) = true) : Holds w p v := by
  cases v <;> first | exact h | (simp [isAggB] at hv)
theorem aggFit_spec {P : Program} {t : TypeId} {v : Value} (h : aggFit P t v = true) : ∃ xs i, v = .agg xs ∧ P.info? t = some i ∧ i.size = xs.toList.length := by
  unfold aggFit at h
  split at h
  · split at h
    · rename_i xs _ i hi
      exact ⟨xs, i, rfl, hi, by simpa using h⟩
    · cases h
  · cases h
def softB (H : List Nat) (o : Oper) : Bool := pureKind o || heldB H o
def addrOf (ρ : Operand → Value) (o : Oper) : Option Addr := match o.op with
  | .load _ x => match ρ x with
    | .pointer p => p
    | _ => none
  | _ => none
/-- All that is asked of an operation at its frame. -/
def Cal2 (P : Program) (ops : Array Oper) (H : List Nat) (F : List (Addr × Value)) (o : Oper) (a : Act) : Prop :=
  Cal P ops o a ∧ (heldB H o = true → Wants ops o a → ∃ q ∈ F, addrOf a.eval o = some q.1 ∧ fitB P o q.2 = true)
def YS (P : Program) (ops : Array Oper) (F : List (Addr × Value)) (o : Oper) (v : Value) (a : Act) : Prop :=
  (Region.wanted o (yielded ops a.tmps) = true ∧ ∀ w, SF F w → (execOp a.eval o).run P w = .ok (.value v) w) ∨
  (Region.wanted o (yielded ops a.tmps) = false ∧ v = undef)
theorem addrOf_congr {ρ ρ' : Operand → Value} {o : Oper} (h : ∀ x ∈ o.op.operands, ρ x = ρ' x) : addrOf ρ o = addrOf ρ' o := by
  obtain ⟨dst, op, type, pos, after, guard⟩ := o
  cases op <;> simp only [Op.operands] at h <;> simp only [addrOf]
  case load t x => rw [h x (by simp)]
variable {H : List Nat} {F : List (Addr × Value)}
theorem Agree.cal2 {o : Oper} {a a1 : Act} (h : Agree (ops := ops) o a a1) (hc : Cal2 P ops H F o a) : Cal2 P ops H F o a1 := by
  refine ⟨h.cal hc.1, fun hh hw => ?_⟩
  rw [addrOf_congr h.1]
  exact hc.2 hh (by unfold Wants at *; rw [← h.2]; exact hw)
theorem load_run {o : Oper} {a : Act} {w : World} {p : Addr} {v : Value} (hone : fitB P o v = true) (hl : loadKind o = true) (ha : addrOf a.eval o = some p) (hc : Holds w p v) : (execOp a.eval o).run P w = .ok (.value v) w := by
  obtain ⟨dst, op, type, pos, after, guard⟩ := o
  cases op <;> simp only [loadKind, Bool.false_eq_true] at hl
  rename_i t x
  simp only [addrOf] at ha
  simp only [fitB] at hone
  have e : execOp a.eval ⟨dst, .load t x, type, pos, after, guard⟩ = (Instr.loadAt t (a.eval x) >>= fun v => pure (Next.value v)) := rfl
  rw [e]
  cases hx : a.eval x <;> rw [hx] at ha <;> simp only [reduceCtorEq] at ha
  subst ha
  have e2 : (Instr.loadAt t (.pointer (some p)) : Sem Value) = (underlying t >>= fun d => (match d with | .struct _ | .array _ _ => pure true | _ => pure false) >>= fun b => if b = true then (sizeOf t >>= fun n => loadCells p n >>= fun cs => pure (.agg cs)) else load p) := by
    show (pure p >>= fun a => loadVar t a) = _
    show loadVar t p = _
    unfold loadVar isAgg
    show (Sem.bind (Sem.bind (underlying t) _) _) = _
    rw [Sem.bind_assoc']
    rfl
  rw [e2]
  have hu : ∀ (f : TypeDesc → Sem Value) (d : TypeDesc), P.underlying t = some d → (underlying t >>= f).run P w = (f d).run P w := by
    intro f d hd
    show (Sem.bind (match P.underlying t with | some d => pure d | none => stuck "no such type" : Sem TypeDesc) f).run P w = _
    rw [hd]; rfl
  have hz : ∀ (f : Nat → Sem Value) (i : TypeInfo), P.info? t = some i → (sizeOf t >>= f).run P w = (f i.size).run P w := by
    intro f i hi
    show (((match P.info? t with | some d => pure d | none => stuck "no such type" : Sem TypeInfo).bind fun i => pure i.size).bind f).run P w = _
    rw [hi]; rfl
  have hagg : aggFit P t v = true → (sizeOf t >>= fun n => loadCells p n >>= fun cs => pure (.agg cs) : Sem Value).run P w = .ok v w := by
    intro hs
    obtain ⟨xs, i, rfl, hi, hs'⟩ := aggFit_spec hs
    rw [hz _ i hi, Sem.run_bind, hs', run_loadCells_list w p xs.toList hc]
    rfl
  rw [Sem.run_bind]
  cases hd : P.underlying t with
  | none => rw [hd] at hone; cases hone
  | some d =>
    rw [hu _ d hd]
    rw [hd] at hone
    have el : (!isAggB v) = true → (load p : Sem Value).run P w = .ok v w := by
      intro hv
      have hc2 := holds_cell hc hv
      unfold load
      simp only [Sem.run, hc2]
    cases d
    case struct fs =>
      show (Result.andThen ((sizeOf t >>= fun n => loadCells p n >>= fun cs => pure (.agg cs) : Sem Value).run P w) _) = _
      rw [hagg hone]; rfl
    case array n e =>
      show (Result.andThen ((sizeOf t >>= fun n => loadCells p n >>= fun cs => pure (.agg cs) : Sem Value).run P w) _) = _
      rw [hagg hone]; rfl
    all_goals
      (show ((load p : Sem Value).run P w).andThen _ = _
       rw [el hone]; rfl)
theorem heldB_load {o : Oper} (h : heldB H o = true) : loadKind o = true := by
  unfold heldB at h; unfold loadKind
  split at h <;> simp_all
/-- What a soft operation yields, it yields in each world that holds the cells. -/
theorem Step.yieldsS {o : Oper} {K : Act → World → Prop} {a : Act} {w : World} (hk : softB H o = true) (hc : Cal2 P ops H F o a) (hw : SF F w) (h : Step P ops o K a w) : ∃ v, YS P ops F o v a ∧ K (a.put o.dst v) w := by
  unfold softB at hk
  rw [Bool.or_eq_true] at hk
  rcases hk with hk | hk
  · obtain ⟨v, hy, hK⟩ := h.yields hk hc.1
    refine ⟨v, ?_, hK⟩
    rcases hy with ⟨h1, h2⟩ | h1
    · exact .inl ⟨h1, fun w _ => h2 w⟩
    · exact .inr h1
  · have hl := heldB_load hk
    rcases h.loads hl with ⟨hwt, v, hr, hK⟩ | ⟨hwt, hK⟩
    · obtain ⟨q, hq, hp, hf⟩ := hc.2 hk hwt
      refine ⟨v, .inl ⟨hwt, fun w2 hw2 => ?_⟩, hK⟩
      have e1 := load_run (P := P) (a := a) (w := w) hf hl hp (hw q hq)
      have e2 := load_run (P := P) (a := a) (w := w2) hf hl hp (hw2 q hq)
      have : v = q.2 := by rw [hr] at e1; injection e1 with e1; injection e1
      rw [this]; exact e2
    · exact ⟨undef, .inr ⟨by unfold Wants at hwt; simpa using hwt, rfl⟩, hK⟩
theorem Step.of_yields {o : Oper} {K : Act → World → Prop} {a : Act} {w : World} {v : Value} (hw : SF F w) (hy : YS P ops F o v a) (h : K (a.put o.dst v) w) : Step P ops o K a w := by
  unfold Step
  rcases hy with ⟨hw1, hr⟩ | ⟨hw1, rfl⟩
  · rw [if_pos hw1, hr w hw]; exact h
  · rw [if_neg (by rw [hw1]; decide)]; exact h

/-- Two operations that do not touch each other. -/
def compat (H : List Nat) (ops : Array Oper) (x y : Oper) : Bool := x.apart ops y && (softB H x || softB H y || (loadKind x && loadKind y))
def plain (o : Oper) : Bool := match o.op with | .select .. => false | _ => true
theorem plain_spec {o : Oper} (h : plain o = true) (cs : Array SelectCase) (b : Bool) : o.op ≠ .select cs b := by
  intro e; simp [plain, e] at h

theorem yields_agree {o : Oper} {v : Value} {a a1 : Act} (hp : plain o = true) (h : Agree (ops := ops) o a a1) (hy : YS P ops F o v a) : YS P ops F o v a1 := by
  unfold YS at *
  rw [h.exec (plain_spec hp), h.2]
  exact hy
/-- Behind a step of i and a constant put of j: the same with the put ahead. -/
theorem step_put {oi oj : Oper} {K : Act → World → Prop} {a : Act} {w : World} {v : Value} (hp : plain oi = true) (hap : oi.apart ops oj = true)
    (h : Step P ops oi (fun a1 w1 => K (a1.put oj.dst v) w1) a w) : Step P ops oi K (a.put oj.dst v) w := by
  obtain ⟨h1, h2, h3⟩ := Oper.apart_spec hap
  have hag : Agree (ops := ops) oi a (a.put oj.dst v) := agree_put rfl h3
  have hc : ∀ (u : Value) (ds : List Deferred), ({ a.put oj.dst v with defers := ds } : Act).put oi.dst u = (({ a with defers := ds } : Act).put oi.dst u).put oj.dst v := by
    intro u ds
    rw [Act.put_comm _ u v h2]
    cases oj.dst <;> rfl
  have hd : (a.put oj.dst v).defers = a.defers := by cases oj.dst <;> rfl
  unfold Step at *
  rw [hag.exec (plain_spec hp), hag.2]
  split at h
  · rename_i hw
    rw [if_pos hw]
    exact upon_mono (a := a) (a1 := a.put oj.dst v) (K := fun a1 w1 => K (a1.put oj.dst v) w1) (fun _ _ h => h) (fun h => h) (fun ds u w h => by rw [hc]; exact h) hd h
  · rename_i hw
    rw [if_neg hw]
    have := hc undef a.defers
    have e : ({ a.put oj.dst v with defers := a.defers } : Act) = a.put oj.dst v := by cases oj.dst <;> rfl
    rw [e] at this
    rw [this]
    exact h

/-- What a step, and what is asked of its operation, say. -/
def S (P : Program) (ops : Array Oper) (H : List Nat) (F : List (Addr × Value)) (o : Oper) (K : Act → World → Prop) (a : Act) (w : World) : Prop :=
  SF F w ∧ Cal2 P ops H F o a ∧ Step P ops o (fun a w => SF F w ∧ K a w) a w
theorem S.mono {o : Oper} {K K' : Act → World → Prop} {a : Act} {w : World} (h : S P ops H F o K a w)
    (hK : ∀ (a1 : Act) (v : Value) (w' : World), a1.tmps = a.tmps → K (a1.put o.dst v) w' → K' (a1.put o.dst v) w') : S P ops H F o K' a w :=
  ⟨h.1, h.2.1, h.2.2.mono fun a1 v w1 e hh => ⟨hh.1, hK a1 v w1 e hh.2⟩⟩

theorem swap {oi oj : Oper} {K : Act → World → Prop} {a : Act} {w : World} (hpi : plain oi = true) (hpj : plain oj = true) (hc : compat H ops oi oj = true)
    (h : S P ops H F oi (S P ops H F oj K) a w) : S P ops H F oj (S P ops H F oi K) a w := by
  unfold compat at hc
  simp only [Bool.and_eq_true, Bool.or_eq_true] at hc
  obtain ⟨hap, hk⟩ := hc
  obtain ⟨h1, h2, h3⟩ := Oper.apart_spec hap
  obtain ⟨hsw, hci, hi⟩ := h
  have agj : ∀ {a1 : Act} {v : Value}, a1.tmps = a.tmps → Agree (ops := ops) oj a (a1.put oi.dst v) := fun e => agree_put e h1
  have agi : ∀ {a1 : Act} {v : Value}, a1.tmps = a.tmps → Agree (ops := ops) oi a (a1.put oj.dst v) := fun e => agree_put e h3
  have hcj : Cal2 P ops H F oj a := by
    obtain ⟨a1, v, w1, e1, _, _, hc1, _⟩ := hi.out
    exact (agj e1).symm.cal2 hc1
  refine ⟨hsw, hcj, ?_⟩
  rcases hk with (hk | hk) | ⟨hk1, hk2⟩
  · -- i is soft
    obtain ⟨v, hy, _, _, hcj', hj⟩ := hi.yieldsS hk hci hsw
    have hj2 : Step P ops oj (fun a1 w1 => YS P ops F oi v a1 ∧ SF F w1 ∧ K (a1.put oi.dst v) w1) a w := by
      have hag := agj (v := v) (rfl : a.tmps = a.tmps)
      have hcm : ∀ (u : Value) (ds : List Deferred), ({ a.put oi.dst v with defers := ds } : Act).put oj.dst u = (({ a with defers := ds } : Act).put oj.dst u).put oi.dst v := by
        intro u ds
        have e : ({ a.put oi.dst v with defers := ds } : Act) = ({ a with defers := ds } : Act).put oi.dst v := by cases oi.dst <;> rfl
        rw [e, Act.put_comm _ v u h2]
      have hd : a.defers = (a.put oi.dst v).defers := by cases oi.dst <;> rfl
      unfold Step at hj ⊢
      rw [hag.exec (plain_spec hpj), hag.2] at hj
      split at hj
      · rename_i hw
        rw [if_pos hw]
        refine upon_mono (a := a.put oi.dst v) (a1 := a) (fun _ _ h => h) (fun h => h) (fun ds u w h => ?_) hd hj
        rw [hcm] at h
        exact ⟨yields_agree hpi (agi rfl) hy, h⟩
      · rename_i hw
        rw [if_neg hw]
        have := hcm undef a.defers
        have e : ({ a.put oi.dst v with defers := a.defers } : Act) = a.put oi.dst v := by cases oi.dst <;> rfl
        rw [e] at this
        rw [this] at hj
        exact ⟨yields_agree hpi (agi rfl) hy, hj⟩
    exact hj2.mono fun a1 u w1 e1 hh => ⟨hh.2.1, hh.2.1, (agi e1).cal2 hci, Step.of_yields hh.2.1 hh.1 ⟨hh.2.1, hh.2.2⟩⟩
  · -- j is soft
    obtain ⟨a1, u, w1, e1, hs1w, _, hc1, hs1⟩ := hi.out
    obtain ⟨v, hy1, _⟩ := hs1.yieldsS hk hc1 hs1w
    have hy : YS P ops F oj v a := yields_agree hpj (agj e1).symm hy1
    refine Step.of_yields hsw hy ⟨hsw, hsw, (agi rfl).cal2 hci, step_put hpi hap ?_⟩
    refine hi.mono fun a2 u2 w2 e2 ⟨hw2s, _, hc2, hs2⟩ => ?_
    obtain ⟨v2, hy2, hK⟩ := hs2.yieldsS hk hc2 hw2s
    have hyy : YS P ops F oj v (a2.put oi.dst u2) := yields_agree hpj (agj e2) hy
    have : v2 = v := by
      rcases hy2 with ⟨hw, hr⟩ | ⟨hw, rfl⟩ <;> rcases hyy with ⟨hw', hr'⟩ | ⟨hw', rfl⟩
      · have := (hr w2 hw2s).symm.trans (hr' w2 hw2s); injection this with h; injection h
      · rw [hw] at hw'; exact absurd hw' (by decide)
      · rw [hw] at hw'; exact absurd hw' (by decide)
      · rfl
    rw [this] at hK
    exact hK
  · -- both are loads
    rcases hi.loads hk1 with ⟨hwi, vi, hri, _, _, hcj', hj⟩ | ⟨hwi, _, _, hcj', hj⟩
    · have hag := agj (v := vi) (rfl : a.tmps = a.tmps)
      rcases hj.loads hk2 with ⟨hwj, vj, hrj, hK⟩ | ⟨hwj, hK⟩
      · have hwj' : Wants ops oj a := by unfold Wants at *; rw [← hag.2]; exact hwj
        rw [hag.exec (plain_spec hpj)] at hrj
        have hagi := agi (v := vj) (rfl : a.tmps = a.tmps)
        refine Step.of_loads hwj' hrj ⟨hsw, hsw, hagi.cal2 hci, Step.of_loads (by unfold Wants at *; rw [hagi.2]; exact hwi) (by rw [hagi.exec (plain_spec hpi)]; exact hri) ?_⟩
        rw [← Act.put_comm _ vi vj h2]; exact hK
      · have hwj' : ¬ Wants ops oj a := by unfold Wants at *; rw [← hag.2]; exact hwj
        have hagi := agi (v := undef) (rfl : a.tmps = a.tmps)
        unfold Wants at hwj'; unfold Step
        rw [if_neg hwj']
        refine ⟨hsw, hsw, hagi.cal2 hci, Step.of_loads (by unfold Wants at *; rw [hagi.2]; exact hwi) (by rw [hagi.exec (plain_spec hpi)]; exact hri) ?_⟩
        rw [← Act.put_comm _ vi undef h2]; exact hK
    · have hag := agj (v := undef) (rfl : a.tmps = a.tmps)
      rcases hj.loads hk2 with ⟨hwj, vj, hrj, hK⟩ | ⟨hwj, hK⟩
      · have hwj' : Wants ops oj a := by unfold Wants at *; rw [← hag.2]; exact hwj
        rw [hag.exec (plain_spec hpj)] at hrj
        have hagi := agi (v := vj) (rfl : a.tmps = a.tmps)
        refine Step.of_loads hwj' hrj ⟨hsw, hsw, hagi.cal2 hci, ?_⟩
        unfold Step
        rw [if_neg (by unfold Wants at hwi; rw [hagi.2]; exact hwi)]
        rw [← Act.put_comm _ undef vj h2]; exact hK
      · have hwj' : ¬ Wants ops oj a := by unfold Wants at *; rw [← hag.2]; exact hwj
        have hagi := agi (v := undef) (rfl : a.tmps = a.tmps)
        unfold Wants at hwj'; unfold Step
        rw [if_neg hwj']
        refine ⟨hsw, hsw, hagi.cal2 hci, ?_⟩
        unfold Step
        rw [if_neg (by unfold Wants at hwi; rw [hagi.2]; exact hwi)]
        rw [← Act.put_comm _ undef undef h2]; exact hK
end
end Go.Proofs.YtoiclkaecgpbbaaDoor.Canon

/- A region that draws its order is walked in the order of the text, if operations that no edge orders do not touch each other: the law 'region_canon'. -/
namespace Go.Proofs.YtoiclkaecgpbbaaDoor.Canon
open Go

section
variable {P : Program} {ops : Array Oper} {H : List Nat} {F : List (Addr × Value)}

/-- The operations of the listed places, each calm, one behind the other. -/
def Run (P : Program) (ops : Array Oper) (H : List Nat) (F : List (Addr × Value)) : List Nat → (Act → World → Prop) → Act → World → Prop
  | [], K, a, w => K a w
  | i :: l, K, a, w => match ops[i]? with
    | some o => S P ops H F o (Run P ops H F l K) a w
    | none => Run P ops H F l K a w

theorem run_mono {K K' : Act → World → Prop} (hK : ∀ a w, K a w → K' a w) : ∀ (l : List Nat) (a : Act) (w : World), Run P ops H F l K a w → Run P ops H F l K' a w := by
  intro l
  induction l with
  | nil => intro a w h; exact hK a w h
  | cons i l ih =>
    intro a w h
    unfold Run at h ⊢
    cases ho : ops[i]? with
    | none => rw [ho] at h; exact ih a w h
    | some o => rw [ho] at h; exact S.mono h fun _ _ _ _ h => ih _ _ h

/-- The i-th is moved ahead of those with which it is compatible. -/
theorem run_front {K : Act → World → Prop} {i : Nat} {oi : Oper} (hi : ops[i]? = some oi) (hpi : plain oi = true) (c2 : List Nat) :
    ∀ (c1 : List Nat), (∀ j ∈ c1, ∃ oj, ops[j]? = some oj ∧ plain oj = true ∧ compat H ops oj oi = true) →
      ∀ (a : Act) (w : World), Run P ops H F (c1 ++ i :: c2) K a w → Run P ops H F (i :: (c1 ++ c2)) K a w := by
  intro c1
  induction c1 with
  | nil => intro _ a w h; exact h
  | cons j c1 ih =>
    intro hc a w h
    obtain ⟨oj, hj, hpj, hcj⟩ := hc j List.mem_cons_self
    have ih' := ih (fun k hk => hc k (List.mem_cons_of_mem _ hk))
    simp only [List.cons_append, Run, hj, hi] at h ⊢
    refine swap hpj hpi hcj (S.mono h fun a1 v w1 _ h1 => ?_)
    have := ih' _ _ h1
    simp only [Run, hi] at this
    exact this

/-! ### The check -/
def maskOf (acc : List Nat) (o : Oper) : Nat := o.after.toList.foldl (fun m e => if Region.binds .any e then m ||| (1 <<< e.on) ||| acc.getD e.on 0 else m) 0
def masksFrom : List Nat → List Oper → List Nat
  | acc, [] => acc
  | acc, o :: l => masksFrom (acc ++ [maskOf acc o]) l
def low (ops : Array Oper) : Bool := ops.toList.zipIdx.all fun (o, i) => o.after.toList.all fun e => !Region.binds .any e || decide (e.on < i)
def justified (ms : List Nat) (ops : Array Oper) : Bool := ops.toList.zipIdx.all fun (o, i) => (List.range i).all fun j =>
  !(ms.getD i 0).testBit j || o.after.toList.any fun e => Region.binds .any e && (e.on == j || (decide (j < e.on) && (ms.getD e.on 0).testBit j))
def unordered (H : List Nat) (ms : List Nat) (ops : Array Oper) : Bool := ops.toList.zipIdx.all fun (o, i) => ops.toList.zipIdx.all fun (o', j) =>
  decide (i ≤ j) || (ms.getD i 0).testBit j || compat H ops o' o
def needs (o : Oper) : Bool := match o.op with
  | .nilCheck _ | .binOp .. | .unOp .. | .convert .. | .call _ => pureKind o
  | _ => false
def wants2 (H : List Nat) (o : Oper) : Bool := needs o || heldB H o
def static (P : Program) (ops : Array Oper) : Bool := ops.toList.all fun o => plain o && (needs o || !pureKind o || calmB P (fun _ => undef) o)
def steady (H : List Nat) (ops : Array Oper) : Bool := ops.toList.zipIdx.all fun (o, i) => !wants2 H o || ops.toList.zipIdx.all fun (o', k) =>
  decide (k < i) || (match o'.dst with | some d => !(o.looksAt ops).contains d | none => true)
/-- May the region be walked in the order of the text? -/
def check (P : Program) (H : List Nat) (ops : Array Oper) : Bool :=
  let ms := masksFrom [] ops.toList
  low ops && justified ms ops && unordered H ms ops && static P ops && steady H ops
/-- Of the frame behind the region: do the operations that need it have numbers and bools? -/
def shapes (P : Program) (ops : Array Oper) (a : Act) : Bool := ops.toList.all fun o => !needs o || !Region.wanted o (yielded ops a.tmps) || calmB P a.eval o

theorem all_zip {p : Oper × Nat → Bool} (h : ops.toList.zipIdx.all p = true) {i : Nat} {o : Oper} (ho : ops[i]? = some o) : p (o, i) = true := by
  refine List.all_eq_true.1 h (o, i) ?_
  rw [List.mem_zipIdx_iff_getElem?]
  simpa using ho

theorem low_spec (h : low ops = true) {i : Nat} {o : Oper} (ho : ops[i]? = some o) {e : Edge} (he : e ∈ o.after) (hb : Region.binds .any e = true) : e.on < i := by
  have := List.all_eq_true.1 (all_zip h ho) e (by simpa using he)
  simpa [hb] using this

/-- All that a listed place waits for is listed. -/
def Closed (ops : Array Oper) (listed : Array Bool) : Prop := ∀ i o, ops[i]? = some o → listed.getD i false = true → ∀ e ∈ o.after, Region.binds .any e = true → listed.getD e.on false = true

theorem bit_listed {ms : List Nat} (hl : low ops = true) (hj : justified ms ops = true) {listed : Array Bool} (hc : Closed ops listed) :
    ∀ (i : Nat) (o : Oper), ops[i]? = some o → (∀ e ∈ o.after, Region.binds .any e = true → listed.getD e.on false = true) →
      ∀ j, j < i → (ms.getD i 0).testBit j = true → listed.getD j false = true := by
  intro i
  induction i using Nat.strongRecOn with
  | ind i ih =>
    intro o ho hall j hji hb
    have := List.all_eq_true.1 (all_zip hj ho) j (by simpa using hji)
    simp only [hb, Bool.not_true, Bool.false_or, List.any_eq_true, Bool.and_eq_true, Bool.or_eq_true, beq_iff_eq, decide_eq_true_eq] at this
    obtain ⟨e, he, hbe, h⟩ := this
    have he' : e ∈ o.after := by simpa using he
    have hel := hall e he' hbe
    have hlt := low_spec hl ho he' hbe
    rcases h with rfl | ⟨hjo, h⟩
    · exact hel
    · cases hoe : ops[e.on]? with
      | none =>
        have h1 : ops.size ≤ e.on := Array.getElem?_eq_none_iff.1 hoe
        have h2 : i < ops.size := (Array.getElem?_eq_some_iff.1 ho).1
        omega
      | some o' => exact ih e.on hlt o' hoe (hc e.on o' hoe hel) j hjo h

theorem pairs {ms : List Nat} (hu : unordered H ms ops = true) {i j : Nat} {o o' : Oper} (ho : ops[i]? = some o) (ho' : ops[j]? = some o') (hji : j < i) (hb : (ms.getD i 0).testBit j = false) : compat H ops o' o = true := by
  have := all_zip (all_zip hu ho) ho'
  simp only [hb, Bool.or_false, Bool.or_eq_true, decide_eq_true_eq] at this
  rcases this with h | h
  · omega
  · exact h

theorem main_order {ms : List Nat} {Q : Exit → Act → World → Prop} (hl : low ops = true) (hj : justified ms ops = true) (hu : unordered H ms ops = true) (hp : ∀ (i : Nat) (o : Oper), ops[i]? = some o → plain o = true) :
    ∀ (fuel : Nat) (listed : Array Bool) (c : List Nat) (a : Act) (w : World), fuel = c.length → listed.size = ops.size →
      (∀ i, i ∈ c ↔ i < ops.size ∧ listed.getD i false = false) → c.Pairwise (· < ·) → Closed ops listed →
      Run P ops H F c (fun a w => Q .normal a w) a w → wpAny P .any ops Q fuel listed a w := by
  intro fuel
  induction fuel with
  | zero =>
    intro listed c a w hlen hsz hmem _ _ h
    obtain rfl : c = [] := List.eq_nil_of_length_eq_zero hlen.symm
    refine ⟨?_, h⟩
    refine List.eq_nil_iff_forall_not_mem.2 fun i hi => ?_
    obtain ⟨h0, o, ho, _⟩ := mem_ready.1 hi
    have h2 : i < ops.size := (Array.getElem?_eq_some_iff.1 ho).1
    have : i ∈ ([] : List Nat) := (hmem i).2 ⟨h2, by
      rw [Array.getD_eq_getD_getElem?, Array.getElem?_eq_getElem (by omega)] at h0 ⊢; exact h0⟩
    cases this
  | succ fuel ih =>
    intro listed c a w hlen hsz hmem hsort hcl h
    have hlst : ∀ i, i < ops.size → listed.getD i true = listed.getD i false := fun i hi => by
      rw [Array.getD_eq_getD_getElem?, Array.getD_eq_getD_getElem?, Array.getElem?_eq_getElem (by omega)]; rfl
    have hlt : ∀ i, i ∈ c → i < ops.size := fun i hi => ((hmem i).1 hi).1
    refine ⟨fun hr => ?_, fun i hi => ?_⟩
    · exfalso
      cases c with
      | nil => simp at hlen
      | cons i c =>
        have hi := (hmem i).1 List.mem_cons_self
        have ho : ops[i]? = some ops[i] := Array.getElem?_eq_getElem hi.1
        have : i ∈ Region.ready .any ops listed := mem_ready.2 ⟨by rw [hlst i hi.1]; exact hi.2, ops[i], ho, fun e he hb => by
          have hlo := low_spec hl ho he hb
          cases hb2 : listed.getD e.on false with
          | true => rfl
          | false =>
            have hm := (hmem e.on).2 ⟨by omega, hb2⟩
            rcases List.mem_cons.1 hm with h1 | h1
            · omega
            · have := List.rel_of_pairwise_cons hsort h1; omega⟩
        rw [hr] at this
        cases this
    · obtain ⟨h0, o, ho, hall⟩ := mem_ready.1 hi
      have hin : i < ops.size := (Array.getElem?_eq_some_iff.1 ho).1
      have hic : i ∈ c := (hmem i).2 ⟨hin, by rw [← hlst i hin]; exact h0⟩
      obtain ⟨c1, c2, rfl⟩ := List.append_of_mem hic
      have hs := List.pairwise_append.1 hsort
      have hfront := run_front ho (hp i o ho) c2 c1 (fun j hj1 => by
        have hjn := hlt j (by simp [hj1])
        have hoj : ops[j]? = some ops[j] := Array.getElem?_eq_getElem hjn
        have hji : j < i := hs.2.2 j hj1 i List.mem_cons_self
        refine ⟨ops[j], hoj, hp j _ hoj, pairs hu ho hoj hji ?_⟩
        cases hb : (ms.getD i 0).testBit j with
        | false => rfl
        | true =>
          have := bit_listed hl hj hcl i o ho hall j hji hb
          rw [((hmem j).1 (by simp [hj1])).2] at this
          cases this) a w h
      simp only [Run, ho] at hfront
      refine hfront.2.2.wpOp ho |> wpOp_mono fun a1 w1 h1 => ?_
      have hset : ∀ k, (listed.setIfInBounds i true).getD k false = if k = i then true else listed.getD k false := fun k => by
        by_cases hk : k = i
        · subst hk; rw [if_pos rfl]; simp [show k < listed.size by omega]
        · rw [if_neg hk, getD_set_ne false (Ne.symm hk)]
      have hnotin : i ∉ c1 ++ c2 := by
        intro hm
        rcases List.mem_append.1 hm with h2 | h2
        · have := hs.2.2 i h2 i List.mem_cons_self; omega
        · have := List.rel_of_pairwise_cons hs.2.1 h2; omega
      refine ih (listed.setIfInBounds i true) (c1 ++ c2) a1 w1 (by simp at hlen ⊢; omega) (by simpa using hsz) (fun k => ?_) ?_ ?_ h1.2
      · rw [hset k]
        by_cases hk : k = i
        · subst hk; simp only [if_true]
          exact ⟨fun hm => absurd hm hnotin, fun hm => by simp at hm⟩
        · rw [if_neg hk, ← hmem k]
          simp [hk]
      · refine List.pairwise_append.2 ⟨hs.1, (List.pairwise_cons.1 hs.2.1).2, fun x hx y hy => hs.2.2 x hx y (List.mem_cons_of_mem _ hy)⟩
      · intro k ok hok hlk e he hb
        rw [hset] at hlk ⊢
        by_cases hei : e.on = i
        · rw [if_pos hei]
        · rw [if_neg hei]
          by_cases hk : k = i
          · subst hk
            have : ok = o := Option.some.inj (hok.symm.trans ho)
            subst this
            exact hall e he hb
          · rw [if_neg hk] at hlk
            exact hcl k ok hok hlk e he hb

/-- The addresses of the named loads. -/
def heldAddrs (ops : Array Oper) (H : List Nat) (a : Act) : List (Option Addr) := ops.toList.filterMap fun o =>
  if heldB H o && Region.wanted o (yielded ops a.tmps) then some (addrOf a.eval o) else none
/-- Do the cells' values fit the named loads' types? -/
def heldFits (P : Program) (ops : Array Oper) (H : List Nat) (F : List (Addr × Value)) (a : Act) : Bool :=
  ((ops.toList.filter fun o => heldB H o && Region.wanted o (yielded ops a.tmps)).zip F).all fun (o, q) => fitB P o q.2
def effB (o : Oper) : Bool := !(pureKind o || loadKind o)
/-- The walk in the order of the text; behind each operation with an effect the cells are asked for. -/
def segs (P : Program) (ops : Array Oper) (F : List (Addr × Value)) (K : Act → World → Prop) : List Oper → Act → World → Prop
  | [], a, w => K a w
  | o :: l, a, w => wpList P ops (Only (if effB o = true then (fun a w => SF F w ∧ segs P ops F K l a w) else segs P ops F K l)) [o] a w

theorem step_of_list {K : Act → World → Prop} {o : Oper} {rest : List Oper} {a : Act} {w : World} (h : wpList P ops (Only K) (o :: rest) a w) : Step P ops o (wpList P ops (Only K) rest) a w := by
  unfold wpList at h
  unfold Step
  split at h
  · rename_i hw
    rw [if_pos hw]
    rcases h with h | h
    · exact upon_mono (fun _ _ h => h.elim) (fun h => absurd h lets_Only) (fun _ _ _ h => h) rfl h
    · exact absurd h.2 lets_Only
  · rename_i hw
    rw [if_neg hw]; exact h
theorem step_of_one {K : Act → World → Prop} {o : Oper} {a : Act} {w : World} (h : wpList P ops (Only K) [o] a w) : Step P ops o K a w :=
  (step_of_list h).mono fun _ _ _ _ h => h
theorem one_of_step {K : Act → World → Prop} {o : Oper} {a : Act} {w : World} (h : Step P ops o K a w) : wpList P ops (Only K) [o] a w := by
  unfold wpList
  unfold Step at h
  split at h
  · rename_i hw
    rw [if_pos hw]
    exact .inl (upon_mono (fun _ _ h => h.elim) (fun h => absurd h lets_QF) (fun _ _ _ h => h) rfl h)
  · rename_i hw
    rw [if_neg hw]; exact h
theorem segs_of_list {K : Act → World → Prop} : ∀ (l : List Oper) (a : Act) (w : World), wpList P ops (Only K) l a w → segs P ops [] K l a w := by
  intro l
  induction l with
  | nil => intro a w h; exact h
  | cons o l ih =>
    intro a w h
    refine one_of_step ((step_of_list h).mono fun a1 v w1 _ h1 => ?_)
    split
    · exact ⟨(fun q hq => (by cases hq)), ih _ _ h1⟩
    · exact ih _ _ h1
/-- A step of the walk keeps the cells. -/
theorem segs_step {K : Act → World → Prop} {o : Oper} {l : List Oper} {a : Act} {w : World} (hs : SF F w) (hc : Cal P ops o a) (h : segs P ops F K (o :: l) a w) :
    Step P ops o (fun a w => SF F w ∧ segs P ops F K l a w) a w := by
  have h1 := step_of_one h
  cases he : effB o with
  | true => rw [he, if_pos rfl] at h1; exact h1
  | false =>
    rw [he, if_neg (by decide)] at h1
    unfold effB at he
    simp only [Bool.not_eq_false', Bool.or_eq_true] at he
    rcases he with hp | hl
    · obtain ⟨v, hy, hK⟩ := h1.yields hp hc
      rcases hy with ⟨hw, hr⟩ | ⟨hw, rfl⟩
      · unfold Step; rw [if_pos hw, hr w]; exact ⟨hs, hK⟩
      · unfold Step; rw [if_neg (by rw [hw]; decide)]; exact ⟨hs, hK⟩
    · rcases h1.loads hl with ⟨hw, v, hr, hK⟩ | ⟨hw, hK⟩
      · exact Step.of_loads hw hr ⟨hs, hK⟩
      · unfold Wants at hw; unfold Step; rw [if_neg hw]; exact ⟨hs, hK⟩

/-- There is an end, and its frame differs in the slots of the operations alone. -/
theorem segs_out {K : Act → World → Prop} : ∀ (l : List Oper) (a : Act) (w : World), segs P ops F K l a w →
    ∃ (a' : Act) (w' : World), K a' w' ∧ ∀ t, (∀ o ∈ l, o.dst ≠ some t) → a'.tmps[t]? = a.tmps[t]? := by
  intro l
  induction l with
  | nil => intro a w h; exact ⟨a, w, h, fun _ _ => rfl⟩
  | cons o l ih =>
    intro a w h
    obtain ⟨a1, v, w1, e1, h1⟩ := (step_of_one h).out
    have h1' : segs P ops F K l (a1.put o.dst v) w1 := by
      split at h1
      · exact h1.2
      · exact h1
    obtain ⟨a', w', hK, hag⟩ := ih _ _ h1'
    refine ⟨a', w', hK, fun t ht => (hag t fun o' ho' => ht o' (List.mem_cons_of_mem _ ho')).trans ?_⟩
    have hne := ht o List.mem_cons_self
    cases hd : o.dst with
    | none => simp [Act.put, e1]
    | some d =>
      have hdt : d ≠ t := fun e => hne (by rw [hd, e])
      simp [Act.put, e1, Array.getElem?_setIfInBounds_ne hdt]

theorem cal_static (hst : static P ops = true) {o : Oper} (ho : o ∈ ops.toList) (hn : needs o = false) (a : Act) : Cal P ops o a := by
  intro hk _
  have := List.all_eq_true.1 hst o ho
  simp only [hn, hk, Bool.not_true, Bool.false_or, Bool.and_eq_true] at this
  obtain ⟨_, this⟩ := this
  obtain ⟨dst, op, type, pos, after, guard⟩ := o
  cases op <;> simp only [needs, pureKind, Bool.false_eq_true] at hn hk <;> first | rfl | exact this | (simp_all; done)

theorem to_run {K : Act → World → Prop} (hst : static P ops = true) (hsd : steady H ops = true) :
    ∀ (l : List Oper) (i : Nat) (a : Act) (w : World), l = ops.toList.drop i → SF F w → segs P ops F (fun a w => shapes P ops a = true ∧ heldAddrs ops H a = F.map (fun q => some q.1) ∧ heldFits P ops H F a = true ∧ K a w) l a w →
      Run P ops H F (List.range' i l.length) K a w := by
  intro l
  induction l with
  | nil => intro i a w _ _ h; exact h.2.2.2
  | cons o l ih =>
    intro i a w hl hsf h
    have ho : ops[i]? = some o := by
      have := congrArg (·[0]?) hl
      simpa using this.symm
    have hl' : l = ops.toList.drop (i + 1) := by
      have := congrArg List.tail hl
      simpa [List.tail_drop] using this
    have hmem : o ∈ ops.toList := List.mem_of_getElem? (by simpa using ho : ops.toList[i]? = some o)
    have hcal : Cal2 P ops H F o a := by
      cases hn : wants2 H o with
      | false =>
        unfold wants2 at hn
        rw [Bool.or_eq_false_iff] at hn
        exact ⟨cal_static hst hmem hn.1 a, fun hh => by rw [hn.2] at hh; cases hh⟩
      | true =>
        obtain ⟨a', w', ⟨hsh, hha, hft, _⟩, hag⟩ := segs_out _ _ _ h
        have hlook : ∀ t ∈ o.looksAt ops, a'.tmps[t]? = a.tmps[t]? := fun t ht => hag t fun o' ho' hd => by
          have h1 := all_zip hsd ho
          simp only [hn, Bool.not_true, Bool.false_or] at h1
          have ho'' : o' ∈ ops.toList.drop i := by rw [← hl]; exact ho'
          obtain ⟨k, hk⟩ := List.mem_iff_getElem?.1 ho''
          rw [List.getElem?_drop] at hk
          have h2 := all_zip (p := fun (o', k) => decide (k < i) || (match o'.dst with | some d => !(o.looksAt ops).contains d | none => true)) h1 (i := i + k) (o := o') (by simpa using hk)
          simp [hd] at h2
          rcases h2 with h2 | h2
          · omega
          · exact h2 ht
        have hw : Region.wanted o (yielded ops a'.tmps) = Region.wanted o (yielded ops a.tmps) := by
          unfold Region.wanted
          cases hg : o.guard with
          | none => rfl
          | some gw =>
            obtain ⟨g, want⟩ := gw
            have : yielded ops a'.tmps g = yielded ops a.tmps g := by
              unfold yielded
              cases ht : (ops[g]?).bind (·.dst) with
              | none => rfl
              | some t =>
                have := hlook t (List.mem_append_right _ (by simp [hg, ht]))
                simp [this]
            simp only [this]
        have hag2 : Agree (ops := ops) o a' a := Agree.symm ⟨fun x hx => by
          cases x with
          | tmp t =>
            have := hlook t (List.mem_append_left _ (List.mem_filterMap.2 ⟨.tmp t, by simpa using hx, rfl⟩))
            simp [Act.eval, this]
          | _ => rfl, hw⟩
        refine hag2.cal2 ⟨?_, fun hh hwa => ?_⟩
        · cases hne : needs o with
          | false => exact cal_static hst hmem hne a'
          | true =>
            intro hk hwa
            have := List.all_eq_true.1 hsh o hmem
            unfold Wants at hwa
            simpa [hne, hwa] using this
        · have hin : o ∈ ops.toList.filter (fun o => heldB H o && Region.wanted o (yielded ops a'.tmps)) := List.mem_filter.2 ⟨hmem, by unfold Wants at hwa; simp [hh, hwa]⟩
          have hha2 : (ops.toList.filter (fun o => heldB H o && Region.wanted o (yielded ops a'.tmps))).map (fun o => addrOf a'.eval o) = F.map (fun q => some q.1) := by
            rw [← hha]
            unfold heldAddrs
            induction ops.toList with
            | nil => rfl
            | cons x l ih =>
              rw [List.filterMap_cons, List.filter_cons]
              by_cases hx : (heldB H x && Region.wanted x (yielded ops a'.tmps)) = true
              · rw [if_pos hx, if_pos hx, List.map_cons, ih]
              · rw [if_neg hx, if_neg hx, ih]
          obtain ⟨k, hk⟩ := List.mem_iff_getElem?.1 hin
          have hk2 := congrArg (·[k]?) hha2
          simp only [List.getElem?_map, hk, Option.map_some] at hk2
          cases hq : F[k]? with
          | none => rw [hq] at hk2; cases hk2
          | some q =>
            rw [hq] at hk2
            have he : addrOf a'.eval o = some q.1 := by simpa using hk2
            refine ⟨q, List.mem_of_getElem? hq, he, ?_⟩
            have hz : (o, q) ∈ (ops.toList.filter (fun o => heldB H o && Region.wanted o (yielded ops a'.tmps))).zip F := List.mem_of_getElem? (i := k) (by rw [List.getElem?_zip_eq_some]; exact ⟨hk, hq⟩)
            exact List.all_eq_true.1 hft (o, q) hz
    simp only [List.length_cons, List.range'_succ, Run, ho]
    exact ⟨hsf, hcal, (segs_step hsf hcal.1 h).mono fun a1 v w1 _ h1 => ⟨h1.1, ih (i + 1) _ _ hl' h1.1 h1.2⟩⟩

theorem region_of {id : Nat} {Q : Exit → Act → World → Prop} {a : Act} {w : World} (hm : P.follows .mixedOrders = true) (hc : check P H ops = true) (hs : SF F w.drew)
    (h : segs P ops F (fun a w => shapes P ops a = true ∧ heldAddrs ops H a = F.map (fun q => some q.1) ∧ heldFits P ops H F a = true ∧ Q .normal a w) ops.toList a w.drew) : (Code.region id ops true).wp P Q a w := by
  unfold check at hc
  simp only [Bool.and_eq_true] at hc
  obtain ⟨⟨⟨⟨hl, hj⟩, hu⟩, hst⟩, hsd⟩ := hc
  refine wp_region_any hm ?_
  have hr := to_run (P := P) (K := fun a w => Q .normal a w) hst hsd ops.toList 0 a w.drew (by simp) hs h
  refine main_order hl hj hu (fun i o ho => ?_) ops.size _ (List.range' 0 ops.toList.length) a w.drew (by simp) (by simp) (fun i => ?_) ?_ ?_ hr
  · have hmem : o ∈ ops.toList := List.mem_of_getElem? (by simpa using ho : ops.toList[i]? = some o)
    have := List.all_eq_true.1 hst o hmem
    simp only [Bool.and_eq_true] at this
    exact this.1
  · have : (Array.replicate ops.size false).getD i false = false := by
      rw [Array.getD_eq_getD_getElem?, Array.getElem?_replicate]; split <;> rfl
    rw [this]
    simp [List.mem_range']
  · exact List.pairwise_lt_range'
  · intro i o ho hl
    have : (Array.replicate ops.size false).getD i false = false := by
      rw [Array.getD_eq_getD_getElem?, Array.getElem?_replicate]; split <;> rfl
    rw [this] at hl
    exact absurd hl (by decide)
theorem heldB_nil (o : Oper) : heldB [] o = false := by
  unfold heldB
  split
  · cases o.dst <;> rfl
  · rfl
/-- ████ THE LAW ████ -/
theorem region_canon {id : Nat} {Q : Exit → Act → World → Prop} {a : Act} {w : World} (hm : P.follows .mixedOrders = true) (hc : check P [] ops = true)
    (h : wpList P ops (Only fun a w => shapes P ops a = true ∧ Q .normal a w) ops.toList a w.drew) : (Code.region id ops true).wp P Q a w := by
  refine region_of (H := []) (F := []) hm hc (fun q hq => (by cases hq)) ?_
  have hz : ∀ a : Act, heldAddrs ops [] a = [] := fun a => by
    unfold heldAddrs
    refine List.filterMap_eq_nil_iff.2 fun o _ => ?_
    rw [heldB_nil]; rfl
  have h2 := segs_of_list _ _ _ h
  have hf : ∀ a : Act, heldFits P ops [] [] a = true := fun a => by
    unfold heldFits
    rw [List.zip_nil_right]; rfl
  have e : (fun (a : Act) (w : World) => shapes P ops a = true ∧ heldAddrs ops [] a = List.map (fun q : Addr × Value => some q.1) [] ∧ heldFits P ops [] [] a = true ∧ Q .normal a w) = fun (a : Act) (w : World) => shapes P ops a = true ∧ Q .normal a w := by
    funext a w
    rw [hz a, hf a]; simp
  rw [e]
  exact h2
/-- Up to the n-th operation (from 0 on), the first one with an effect. -/
def cutOk : Nat → List Oper → Bool
  | 0, o :: _ => effB o
  | n + 1, o :: l => !effB o && cutOk n l
  | _, [] => false
theorem segs_at {K : Act → World → Prop} : ∀ (n : Nat) (l : List Oper) (a : Act) (w : World), cutOk n l = true →
    wpList P ops (Only fun a w => SF F w ∧ segs P ops F K (l.drop (n + 1)) a w) (l.take (n + 1)) a w → segs P ops F K l a w := by
  intro n
  induction n with
  | zero =>
    intro l a w hc h
    cases l with
    | nil => cases hc
    | cons o l =>
      unfold segs
      rw [if_pos (show effB o = true from hc)]
      exact h
  | succ n ih =>
    intro l a w hc h
    cases l with
    | nil => cases hc
    | cons o l =>
      simp only [cutOk, Bool.and_eq_true, Bool.not_eq_true'] at hc
      unfold segs
      rw [if_neg (by rw [hc.1]; decide)]
      exact one_of_step ((step_of_list h).mono fun a1 v w1 _ h1 => ih l _ _ hc.2 h1)
/-- No operation with an effect is left. -/
theorem segs_end {K : Act → World → Prop} : ∀ (l : List Oper) (a : Act) (w : World), (l.all fun o => !effB o) = true → wpList P ops (Only K) l a w → segs P ops F K l a w := by
  intro l
  induction l with
  | nil => intro a w _ h; exact h
  | cons o l ih =>
    intro a w hc h
    simp only [List.all_cons, Bool.and_eq_true, Bool.not_eq_true'] at hc
    unfold segs
    rw [if_neg (by rw [hc.1]; decide)]
    exact one_of_step ((step_of_list h).mono fun a1 v w1 _ h1 => ih _ _ (by simpa using hc.2) h1)
/-- The law with cells that are held: H names the loads by their slots, F their cells in the text's order. -/
theorem region_held (H : List Nat) (F : List (Addr × Value)) {id : Nat} {Q : Exit → Act → World → Prop} {a : Act} {w : World} (hm : P.follows .mixedOrders = true) (hc : check P H ops = true) (hs : SF F w)
    (h : segs P ops F (fun a w => shapes P ops a = true ∧ heldAddrs ops H a = F.map (fun q => some q.1) ∧ heldFits P ops H F a = true ∧ Q .normal a w) ops.toList a w.drew) : (Code.region id ops true).wp P Q a w :=
  region_of hm hc hs h
theorem SF.drew {w : World} (h : SF F w) : SF F w.drew := h
theorem sf_nil (w : World) : SF [] w := fun q hq => (by cases hq)
theorem sf_cons {w : World} {p : Addr} {v : Value} (h : w.cell? p = some v) (k : SF F w) (hv : (!isAggB v) = true := by rfl) : SF ((p, v) :: F) w := fun q hq => by
  rcases List.mem_cons.1 hq with rfl | hq
  · exact holds_one h hv
  · exact k q hq
/-- The cells of an array, of a struct. -/
theorem sf_agg {w : World} {p : Addr} {xs : Array Value} (h : ∀ j u, xs.toList[j]? = some u → w.cell? (p.add j) = some u) (k : SF F w) : SF ((p, .agg xs) :: F) w := fun q hq => by
  rcases List.mem_cons.1 hq with rfl | hq
  · exact h
  · exact k q hq
theorem Holds.to {w w' : World} {p : Addr} {v : Value} (h : Holds w p v) (hk : ∀ p' u, p'.block = p.block → w.cell? p' = some u → w'.cell? p' = some u) : Holds w' p v := by
  cases v with
  | agg xs => exact fun j u hu => hk _ u (by unfold Addr.add; split <;> rfl) (h j u hu)
  | _ => exact hk p _ rfl h
theorem sf_grown {w w' : World} {row : Option Nat} (h : SF F w) (hg : w.grownBy w' row) (hr : ∀ q ∈ F, some q.1.block ≠ row) : SF F w' := fun q hq =>
  (h q hq).to fun p' u hb hc => by
    rw [← hc]
    exact World.cell?_of_block (hg.block p'.block (World.block_lt_of_cell? w _ hc) (by rw [hb]; exact hr q hq))
theorem sf_grown0 {w w' : World} (h : SF F w) (hg : w.grownBy w' none) : SF F w' := sf_grown h hg (fun _ _ => by simp)
end
end Go.Proofs.YtoiclkaecgpbbaaDoor.Canon

/- Memory: rows of words that are read, rows of the call's own. -/
namespace Go.Proofs.YtoiclkaecgpbbaaDoor
open Go.RowKit

/-! ### Words -/
def Ws (xs : List Int) : Prop := ∀ x ∈ xs, 0 ≤ x ∧ x < 18446744073709551616
def rd (xs : List Int) (i : Nat) : Int := xs.getD i 0
def nums (xs : List Int) : List Value := xs.map fun x => .int .u64 x
theorem rd_w {xs : List Int} (h : Ws xs) (i : Nat) : 0 ≤ rd xs i ∧ rd xs i < 18446744073709551616 := by
  unfold rd
  by_cases hi : i < xs.length
  · rw [List.getD_eq_getElem?_getD, List.getElem?_eq_getElem hi]; exact h _ (List.getElem_mem hi)
  · rw [List.getD_eq_getElem?_getD, List.getElem?_eq_none (by omega)]; exact ⟨by decide, by decide⟩
theorem ws_nil : Ws [] := fun _ h => by cases h
theorem ws_append {xs ys : List Int} (h : Ws xs) (k : Ws ys) : Ws (xs ++ ys) := fun x hx => (List.mem_append.1 hx).elim (h x) (k x)
theorem ws_one {x : Int} (h0 : 0 ≤ x) (h1 : x < 18446744073709551616) : Ws [x] := fun y hy => by obtain rfl := List.mem_singleton.1 hy; exact ⟨h0, h1⟩
theorem ws_take {xs : List Int} (h : Ws xs) (k : Nat) : Ws (xs.take k) := fun x hx => h x (List.mem_of_mem_take hx)
theorem ws_drop {xs : List Int} (h : Ws xs) (k : Nat) : Ws (xs.drop k) := fun x hx => h x (List.mem_of_mem_drop hx)
theorem ws_set {xs : List Int} (h : Ws xs) (k : Nat) {y : Int} (h0 : 0 ≤ y) (h1 : y < 18446744073709551616) : Ws (xs.set k y) := fun x hx => by
  rcases List.mem_or_eq_of_mem_set hx with hx | rfl
  · exact h x hx
  · exact ⟨h0, h1⟩
theorem ws_replicate (n : Nat) : Ws (List.replicate n 0) := fun x hx => by rw [List.eq_of_mem_replicate hx]; exact ⟨by decide, by decide⟩
theorem nums_length (xs : List Int) : (nums xs).length = xs.length := by simp [nums]
theorem nums_get {xs : List Int} {j : Nat} (hj : j < xs.length) : (nums xs)[j]? = some (.int .u64 (rd xs j)) := by
  simp [nums, rd, List.getD_eq_getElem?_getD, List.getElem?_eq_getElem hj]

/-! ### Worlds -/
theorem gb_refl (w : World) (row : Option Nat) : w.grownBy w row := ⟨rfl, rfl, rfl, Nat.le_refl _, fun _ _ _ => rfl⟩
theorem gb_trans {a b c : World} {row : Option Nat} (h : a.grownBy b row) (k : b.grownBy c row) : a.grownBy c row :=
  ⟨k.os.trans h.os, k.tape.trans h.tape, k.output.trans h.output, Nat.le_trans h.size k.size, fun i hi hr => (k.block i (Nat.lt_of_lt_of_le hi h.size) hr).trans (h.block i hi hr)⟩
theorem gb_none {a b : World} (h : a.grownBy b none) (row : Option Nat) : a.grownBy b row := ⟨h.os, h.tape, h.output, h.size, fun i hi _ => h.block i hi (by simp)⟩
theorem gb_drew {a b : World} {row : Option Nat} (h : a.grownBy b row) : a.grownBy b.drew row := ⟨h.os, h.tape, h.output, h.size, h.block⟩
theorem gb_alloc {a b : World} {row : Option Nat} (h : a.grownBy b row) (o : Obj) : a.grownBy (b.alloc o) row :=
  gb_trans h ⟨rfl, rfl, rfl, by simp, fun k hk _ => Below.heap_alloc _ _ _ hk⟩
/-- A row written that is not among the old ones. -/
theorem gb_new {a b c : World} {row row' : Option Nat} (h : a.grownBy b row) (k : b.grownBy c row') (hn : ∀ i, row' = some i → a.heap.size ≤ i) : a.grownBy c row :=
  ⟨k.os.trans h.os, k.tape.trans h.tape, k.output.trans h.output, Nat.le_trans h.size k.size, fun i hi hr =>
    (k.block i (Nat.lt_of_lt_of_le hi h.size) (fun e => by have := hn i e.symm; omega)).trans (h.block i hi hr)⟩
theorem gb_set {a b : World} {row : Option Nat} (h : a.grownBy b row) {p : Addr} (hp : a.heap.size ≤ p.block) (u : Value) : a.grownBy (b.setCell p u) row :=
  gb_new (row' := some p.block) h ⟨rfl, rfl, rfl, by simp [World.setCell], fun k _ hk => Below.heap_setCell _ _ _ _ (fun e => hk (by rw [e]))⟩ (fun i hi => by cases hi; exact hp)
theorem gb_below {a b : World} (h : a.grownBy b none) : Below a.heap.size a b := ⟨h.os, h.tape, h.output, h.size, fun i hi => h.block i hi (by simp)⟩
theorem gb_cell {a b : World} {row : Option Nat} (h : a.grownBy b row) {p : Addr} {v : Value} (hc : a.cell? p = some v) (hr : some p.block ≠ row) : b.cell? p = some v := by
  rw [← hc]; exact World.cell?_of_block (h.block p.block (World.block_lt_of_cell? a _ hc) hr)
theorem gb_cell0 {a b : World} (h : a.grownBy b none) {p : Addr} {v : Value} (hc : a.cell? p = some v) : b.cell? p = some v := gb_cell h hc (by simp)
theorem gb_block {a b : World} {row : Option Nat} (h : a.grownBy b row) {k : Nat} {o : Obj} (hc : a.heap[k]? = some o) (hr : some k ≠ row) : b.heap[k]? = some o := by
  rw [← hc]; exact h.block k (Array.getElem?_eq_some_iff.1 hc).1 hr

/-! ### A row that is read -/
def Sl (w : World) (v : Value) (xs : List Int) : Prop :=
  ∃ A c, v = .slice A xs.length c ∧ xs.length ≤ c ∧ c ≤ 9223372036854775807 ∧ Ws xs ∧
    (0 < xs.length → ∃ b o, A = some ⟨b, o, none⟩ ∧ ∀ j, j < xs.length → w.cell? ⟨b, o + j, none⟩ = some (.int .u64 (rd xs j)))
theorem Sl.ws {w : World} {v : Value} {xs : List Int} (h : Sl w v xs) : Ws xs := by obtain ⟨A, c, _, _, _, hw, _⟩ := h; exact hw
theorem Sl.grown {w w' : World} {v : Value} {xs : List Int} {row : Option Nat} (h : Sl w v xs) (hg : w.grownBy w' row) (hr : ∀ b, v.ownBlock = some b → some b ≠ row) : Sl w' v xs := by
  obtain ⟨A, c, rfl, h1, h2, h3, h4⟩ := h
  refine ⟨A, c, rfl, h1, h2, h3, fun hn => ?_⟩
  obtain ⟨b, o, rfl, hc⟩ := h4 hn
  exact ⟨b, o, rfl, fun j hj => gb_cell hg (hc j hj) (hr b rfl)⟩
theorem Sl.grown0 {w w' : World} {v : Value} {xs : List Int} (h : Sl w v xs) (hg : w.grownBy w' none) : Sl w' v xs := h.grown hg (fun _ _ => by simp)
/-- The row lies in memory that is there. -/
theorem Sl.lt {w : World} {v : Value} {xs : List Int} (h : Sl w v xs) (hn : 0 < xs.length) : ∃ b, v.ownBlock = some b ∧ b < w.heap.size := by
  obtain ⟨A, c, rfl, h1, h2, h3, h4⟩ := h
  obtain ⟨b, o, rfl, hc⟩ := h4 hn
  exact ⟨b, rfl, World.block_lt_of_cell? w _ (hc 0 hn)⟩

/-! ### A row of the call's own -/
def Own (w : World) (base : Nat) (v : Value) (xs : List Int) : Prop := w.ownsRow base 22 1 v xs.length (nums xs) ∧ Ws xs
theorem Own.ws {w : World} {base : Nat} {v : Value} {xs : List Int} (h : Own w base v xs) : Ws xs := h.2
theorem own_nil (w : World) (base : Nat) : Own w base (.slice none 0 0) [] := ⟨⟨by simp [nums], .inl ⟨rfl, rfl⟩⟩, ws_nil⟩
theorem Own.grown {w w' : World} {base : Nat} {v : Value} {xs : List Int} {row : Option Nat} (h : Own w base v xs) (hg : w.grownBy w' row) (hr : v.ownBlock = none ∨ v.ownBlock ≠ row) : Own w' base v xs := ⟨h.1.kept hg hr, h.2⟩
theorem Own.grown0 {w w' : World} {base : Nat} {v : Value} {xs : List Int} (h : Own w base v xs) (hg : w.grownBy w' none) : Own w' base v xs :=
  h.grown hg (by cases v.ownBlock <;> simp)
theorem Own.mono {w : World} {base base' : Nat} {v : Value} {xs : List Int} (h : Own w base v xs) (hb : base' ≤ base) : Own w base' v xs := by
  refine ⟨⟨h.1.1, ?_⟩, h.2⟩
  rcases h.1.2 with h1 | ⟨g, cap, cur, hv, hg, r⟩
  · exact .inl h1
  · exact .inr ⟨g, cap, cur, hv, Nat.le_trans hb hg, r⟩
theorem Own.drew {w : World} {base : Nat} {v : Value} {xs : List Int} (h : Own w base v xs) : Own w.drew base v xs := h
/-- Of which form the value is. -/
theorem Own.form {w : World} {base : Nat} {v : Value} {xs : List Int} (h : Own w base v xs) :
    (v = .slice none 0 0 ∧ xs = []) ∨ ∃ g c, v = .slice (some ⟨g, 0, none⟩) xs.length c ∧ base ≤ g ∧ g < w.heap.size ∧ xs.length ≤ c ∧ c ≤ 9223372036854775807 := by
  rcases h.1.2 with ⟨h1, h2⟩ | ⟨g, cap, cur, hv, hg, hh, h1, h2, _⟩
  · exact .inl ⟨h1, List.eq_nil_of_length_eq_zero h2⟩
  · exact .inr ⟨g, cap, hv, hg, (Array.getElem?_eq_some_iff.1 hh).1, h1, by simpa [maxLen] using h2⟩
theorem Own.cell {w : World} {base g c : Nat} {n : Nat} {xs : List Int} (h : Own w base (.slice (some ⟨g, 0, none⟩) n c) xs) (j : Nat) (hj : j < xs.length) : w.cell? ⟨g, j, none⟩ = some (.int .u64 (rd xs j)) := by
  have hn : n = xs.length := by
    rcases h.1.2 with ⟨h1, _⟩ | ⟨g, cap, cur, hv, _⟩
    · simp at h1
    · simp only [Value.slice.injEq] at hv; exact hv.2.1
  subst hn
  have := World.ownsRow.cellAt h.1 j (by omega)
  rw [this, nums_get hj]
theorem Own.free {w : World} {base g c : Nat} {n : Nat} {xs : List Int} (h : Own w base (.slice (some ⟨g, 0, none⟩) n c) xs) (j : Nat) : w.frozen? ⟨g, j, none⟩ = false := by
  have hn : n = xs.length := by
    rcases h.1.2 with ⟨h1, _⟩ | ⟨g, cap, cur, hv, _⟩
    · simp at h1
    · simp only [Value.slice.injEq] at hv; exact hv.2.1
  subst hn
  exact World.ownsRow.frozenAt h.1 j
theorem Own.store {w : World} {base g c : Nat} {n : Nat} {xs : List Int} (h : Own w base (.slice (some ⟨g, 0, none⟩) n c) xs) (j : Nat) {x : Int} (h0 : 0 ≤ x) (h1 : x < 18446744073709551616) :
    Own (w.setCell ⟨g, j, none⟩ (.int .u64 x)) base (.slice (some ⟨g, 0, none⟩) n c) (xs.set j x) := by
  have hn : n = xs.length := by
    rcases h.1.2 with ⟨h1, _⟩ | ⟨g, cap, cur, hv, _⟩
    · simp at h1
    · simp only [Value.slice.injEq] at hv; exact hv.2.1
  subst hn
  refine ⟨?_, ws_set h.2 j h0 h1⟩
  have := (World.ownsRow.stored h.1 j (.int .u64 x)).1
  have e : (nums xs).set j (.int .u64 x) = nums (xs.set j x) := by simp [nums, List.map_set]
  rw [e] at this
  simpa using this
theorem Own.base_le {w : World} {base g c : Nat} {n : Nat} {xs : List Int} (h : Own w base (.slice (some ⟨g, 0, none⟩) n c) xs) : base ≤ g ∧ g < w.heap.size := by
  rcases h.form with ⟨h1, _⟩ | ⟨g', c', hv, h1, h2, _⟩
  · simp at h1
  · simp only [Value.slice.injEq, Option.some.injEq, Addr.mk.injEq, and_true] at hv
    rw [hv.1]; exact ⟨h1, h2⟩
theorem Own.sl {w : World} {base : Nat} {v : Value} {xs : List Int} (h : Own w base v xs) : Sl w v xs := by
  rcases h.form with ⟨rfl, rfl⟩ | ⟨g, c, rfl, h1, h2, h3, h4⟩
  · exact ⟨none, 0, rfl, by simp, by omega, ws_nil, fun h => by simp at h⟩
  · exact ⟨_, c, rfl, h3, h4, h.2, fun _ => ⟨g, 0, rfl, fun j hj => by rw [Nat.zero_add]; exact h.cell j hj⟩⟩
/-- A piece of it from its head on. -/
theorem Own.take {w : World} {base : Nat} {A : Option Addr} {n c : Nat} {xs : List Int} (h : Own w base (.slice A n c) xs) (k : Nat) (hk : k ≤ xs.length) : Own w base (.slice A k c) (xs.take k) := by
  refine ⟨⟨by simp [nums, hk], ?_⟩, ws_take h.2 k⟩
  have e : (xs.take k).length = k := by simp [hk]
  rw [e]
  rcases h.1.2 with ⟨h1, h2⟩ | ⟨g, cap, cur, hv, hg, hh, h1, h2, h3, h4⟩
  · have : k = 0 := by omega
    subst this
    simp only [Value.slice.injEq] at h1
    exact .inl ⟨by rw [h1.1, h1.2.2], rfl⟩
  · simp only [Value.slice.injEq] at hv
    refine .inr ⟨g, cap, cur, by rw [hv.1, hv.2.2], hg, hh, by omega, h2, h3, ?_⟩
    have : (cur.toList.take (xs.length * 1)).take k = (nums xs).take k := by rw [h4]
    rw [List.take_take] at this
    rw [show min k (xs.length * 1) = k * 1 by omega] at this
    rw [this]; simp [nums, List.map_take]
theorem Own.len {w : World} {base : Nat} {A : Option Addr} {n c : Nat} {xs : List Int} (h : Own w base (.slice A n c) xs) : n = xs.length := by
  rcases h.form with ⟨h1, rfl⟩ | ⟨g, c, h1, _⟩ <;> simp only [Value.slice.injEq] at h1 <;> simp [h1.2.1]
theorem own_made (w : World) (base n c : Nat) (hb : base ≤ w.heap.size) (hnc : n ≤ c) (hn : c ≤ 9223372036854775807) :
    Own (w.alloc (.cells (madeCells #[.int .u64 0] c) 22)) base (.slice (some ⟨w.heap.size, 0, none⟩) n c) (List.replicate n 0) := by
  have := World.ownsRow_lit (base := base) (e := 22) (size := 1) w (madeCells #[.int .u64 0] c) c hb (by simpa [maxLen] using hn) (by simp [madeCells])
  have e : (madeCells #[.int .u64 0] c).toList = nums (List.replicate c 0) := by
    rw [toList_madeCells_one]; simp [nums]
  rw [e] at this
  have h : Own (w.alloc (.cells (madeCells #[.int .u64 0] c) 22)) base (.slice (some ⟨w.heap.size, 0, none⟩) c c) (List.replicate c 0) := ⟨by simpa using this, ws_replicate c⟩
  have h2 := h.take n (by simpa using hnc)
  rw [List.take_replicate, Nat.min_eq_left hnc] at h2
  exact h2
theorem info_u64 : (Tryd.prog.info? 22).map (fun i => (i.zero, i.size, i.bytes)) = some (some (.int .u64 0), 1, 8) := by kernel_rfl
/-- 'make([]uint64, l, c)': laid ahead of go_enter. -/
theorem run_make64 (t : TypeId) (ht : Tryd.prog.underlying t = some (.slice 22)) (l c : Int) (h0 : 0 ≤ l) (hlc : l ≤ c) (hc : c ≤ 35184372088832) (W : World) :
    (Instr.makeSlice t (.int .i64 l) (.int .i64 c)).run Tryd.prog W = .ok (.slice (some ⟨W.heap.size, 0, none⟩) l.toNat c.toNat) (W.alloc (.cells (madeCells #[.int .u64 0] c.toNat) 22)) := by
  obtain ⟨i, hi, hzz⟩ := Option.map_eq_some_iff.1 info_u64
  simp only [Prod.mk.injEq] at hzz
  obtain ⟨hz, hs, hb⟩ := hzz
  have := run_make (P := Tryd.prog) (w := W) t 22 i (.int .u64 0) ht hi hz .i64 .i64 l c h0 hlc (by rw [hb]; omega) (by omega)
  rw [hs, Nat.mul_one] at this
  exact this
/-! ### What comes in -/
theorem wf_u64 {n : Int} (h : (Lit.int .u64 n).wf = true) : 0 ≤ n ∧ n < 18446744073709551616 := by
  simp [Lit.wf, IntKind.min, IntKind.max, IntKind.bits, IntKind.signed] at h
  omega
theorem wf_i64 {n : Int} (h : (Lit.int .i64 n).wf = true) : -9223372036854775808 ≤ n ∧ n ≤ 9223372036854775807 := by
  simp [Lit.wf, IntKind.min, IntKind.max, IntKind.bits, IntKind.signed] at h
  omega
theorem sl_none (W : World) : Sl W (.slice none 0 0) [] := ⟨none, 0, rfl, by simp, by omega, ws_nil, fun h => by simp at h⟩
theorem sl_of_cells {W : World} {x : Addr} {len cap : Nat} {zs : List Int} (hl : len ≤ cap) (hm : cap ≤ maxLen) (hz : zs.length = cap)
    (hc : ∀ i, i < zs.length → W.cell? (x.add i) = some (.int .u64 (zs.getD i 0))) (hw : ∀ n ∈ zs, (Lit.int .u64 n).wf = true) : Sl W (.slice (some x) len cap) (zs.take len) := by
  have e : (zs.take len).length = len := by simp; omega
  refine ⟨some x, cap, by rw [e], by omega, by simpa [maxLen] using hm, fun y hy => wf_u64 (hw y (List.mem_of_mem_take hy)), fun hn => ?_⟩
  have h0 : x.spot = none := by
    have := hc 0 (by omega)
    unfold World.cell? at this
    simp only [Addr.add, if_true] at this
    split at this
    · split at this
      · cases this
      · rename_i h; cases hs : x.spot with
        | none => rfl
        | some q => rw [hs] at h; simp at h
    · cases this
  obtain ⟨b, o, sp⟩ := x
  simp only at h0
  subst h0
  refine ⟨b, o, rfl, fun j hj => ?_⟩
  have := hc j (by omega)
  have e2 : (⟨b, o, none⟩ : Addr).add j = ⟨b, o + j, none⟩ := by unfold Addr.add; split <;> simp_all
  rw [e2] at this
  rw [this]
  have : zs.getD j 0 = rd (zs.take len) j := by
    unfold rd
    rw [List.getD_eq_getElem?_getD, List.getD_eq_getElem?_getD, List.getElem?_take, if_pos (by omega)]
  rw [this]
/-- A slice of n elements of s cells each: the j-th cell is f j. -/
def Cells (w : World) (v : Value) (n s : Nat) (f : Nat → Value) : Prop :=
  ∃ A c, v = .slice A n c ∧ n ≤ c ∧ c ≤ 9223372036854775807 ∧ (0 < n → ∃ b o, A = some ⟨b, o, none⟩ ∧ ∀ j, j < n * s → w.cell? ⟨b, o + j, none⟩ = some (f j))
theorem Cells.grown0 {w w' : World} {v : Value} {n s : Nat} {f : Nat → Value} (h : Cells w v n s f) (hg : w.grownBy w' none) : Cells w' v n s f := by
  obtain ⟨A, c, rfl, h1, h2, h4⟩ := h
  refine ⟨A, c, rfl, h1, h2, fun hn => ?_⟩
  obtain ⟨b, o, rfl, hc⟩ := h4 hn
  exact ⟨b, o, rfl, fun j hj => gb_cell0 hg (hc j hj)⟩
theorem cells_none (W : World) (s : Nat) (f : Nat → Value) : Cells W (.slice none 0 0) 0 s f := ⟨none, 0, rfl, by simp, by omega, fun h => by simp at h⟩
theorem spot_of_cell {W : World} {x : Addr} {v : Value} (h : W.cell? (x.add 0) = some v) : x.spot = none := by
  unfold World.cell? at h
  simp only [Addr.add, if_true] at h
  split at h
  · split at h
    · cases h
    · rename_i h2; cases hs : x.spot with
      | none => rfl
      | some q => rw [hs] at h2; simp at h2
  · cases h
theorem cells_of {W : World} {x : Addr} {len cap s : Nat} {f : Nat → Value} (hl : len ≤ cap) (hm : cap ≤ maxLen) (hs : 0 < s)
    (hc : ∀ j, j < len * s → W.cell? (x.add j) = some (f j)) : Cells W (.slice (some x) len cap) len s f := by
  refine ⟨some x, cap, rfl, hl, by simpa [maxLen] using hm, fun hn => ?_⟩
  have h0 := spot_of_cell (hc 0 (Nat.mul_pos hn hs))
  obtain ⟨b, o, sp⟩ := x
  simp only at h0
  subst h0
  refine ⟨b, o, rfl, fun j hj => ?_⟩
  have := hc j hj
  have e2 : (⟨b, o, none⟩ : Addr).add j = ⟨b, o + j, none⟩ := by unfold Addr.add; split <;> simp_all
  rw [e2] at this
  exact this
end Go.Proofs.YtoiclkaecgpbbaaDoor

/- Words: Add64, Sub64, Mul64, Len64, LeadingZeros64. -/
namespace Go.Proofs.YtoiclkaecgpbbaaDoor
open Go.RowKit

/-! ### Add64 and Sub64: the model's own entries -/
theorem add64_run (x y c : Int) (hx : 0 ≤ x) (hy : 0 ≤ y) (hc0 : 0 ≤ c) (hc : c ≤ 1) (w : World) :
    (callFunc 88 #[.int .u64 x, .int .u64 y, .int .u64 c]).run Tryd.prog w =
      .ok (.value (.tuple #[.int .u64 ((x + y + c) % 18446744073709551616), .int .u64 ((x + y + c) / 18446744073709551616)])) w := by
  rw [run_callFunc_extern Tryd.func88 (by kernel_rfl) (by kernel_rfl) (by kernel_rfl) (e := add64Entry) (by kernel_rfl), run_add64 x y c hx hy hc0 hc]
  rfl

theorem nat_of {x : Int} (h : 0 ≤ x) : ∃ n : Nat, x = (n : Int) := Int.eq_ofNat_of_zero_le h
theorem maskN (a : Nat) (ha : a < 18446744073709551616) : bits .and .u64 (a : Int) 4294967295 = ((a % 4294967296 : Nat) : Int) := by
  have h := bits_and_u64_nat a 4294967295 ha (by omega)
  have e : a &&& 4294967295 = a % 4294967296 := Nat.and_two_pow_sub_one_eq_mod a 32
  rw [e] at h
  exact h
theorem div32N (a : Nat) : (a : Int) / 4294967296 = ((a / 4294967296 : Nat) : Int) := by omega
theorem mulN (a b : Nat) : (a : Int) * (b : Int) = ((a * b : Nat) : Int) := (Int.natCast_mul a b).symm
theorem addN (a b : Nat) : (a : Int) + (b : Int) = ((a + b : Nat) : Int) := (Int.natCast_add a b).symm
theorem divN (a b : Nat) : (a : Int) / (b : Int) = ((a / b : Nat) : Int) := (Int.natCast_ediv a b).symm
theorem modN (a b : Nat) : (a : Int) % (b : Int) = ((a % b : Nat) : Int) := (Int.natCast_emod a b).symm
theorem wrapN (a : Nat) (ha : a < 18446744073709551616) : IntKind.u64.wrap (a : Int) = (a : Int) := by rw [IntKind.wrap_u64]; omega
theorem wrapM (a : Nat) : IntKind.u64.wrap (a : Int) = ((a % 18446744073709551616 : Nat) : Int) := by rw [IntKind.wrap_u64]; omega

theorem mul64_c (a b : Int) (ha : 0 ≤ a) (ha' : a < 18446744073709551616) (hb : 0 ≤ b) (hb' : b < 18446744073709551616) (w : World) :
    Calls Tryd.prog 78 #[.int .u64 a, .int .u64 b] w fun e w' => e = .returned (.tuple #[.int .u64 (a * b / 18446744073709551616), .int .u64 (a * b % 18446744073709551616)]) ∧ w' = w := by
  obtain ⟨x, rfl⟩ := nat_of ha
  obtain ⟨y, rfl⟩ := nat_of hb
  obtain ⟨bd, bt, bw, hhi⟩ := Lib.mul64_hi x y (by omega) (by omega)
  have ba := Lib.half_mul_le (a := x / 4294967296) (b := y / 4294967296) (by omega) (by omega)
  have bb := Lib.half_mul_le (a := x / 4294967296) (b := y % 4294967296) (by omega) (by omega)
  have bc := Lib.half_mul_le (a := x % 4294967296) (b := y / 4294967296) (by omega) (by omega)
  have ba' : x / 4294967296 * (y / 4294967296) < 18446744073709551616 := by omega
  have bb' : x / 4294967296 * (y % 4294967296) < 18446744073709551616 := by omega
  have bc' : x % 4294967296 * (y / 4294967296) < 18446744073709551616 := by omega
  have hx : x < 18446744073709551616 := by omega
  have hy : y < 18446744073709551616 := by omega
  have bh1 : x / 4294967296 * (y / 4294967296) + (x / 4294967296 * (y % 4294967296) + x % 4294967296 * (y % 4294967296) / 4294967296) / 4294967296 < 18446744073709551616 := by omega
  have hlt : x * y / 18446744073709551616 < 18446744073709551616 := by
    rw [Nat.div_lt_iff_lt_mul (by decide)]
    exact Nat.lt_of_le_of_lt (Nat.mul_le_mul (show x ≤ 18446744073709551615 by omega) (show y ≤ 18446744073709551615 by omega)) (by decide)
  clear ha ha' hb hb'
  go_enter Tryd.func78, Tryd.ntmps78
  go_wp2
  simp only [maskN x hx, maskN y hy, div32N, mulN, addN, wrapN _ bd, wrapN _ bb', wrapN _ bt, maskN _ bt, wrapN _ bc', wrapN _ bw, wrapN _ ba', wrapN _ bh1]
  rw [hhi, wrapM (x * y)]
  obtain ⟨q, hq⟩ : ∃ q, q = x * y / 18446744073709551616 := ⟨_, rfl⟩
  obtain ⟨r, hr⟩ : ∃ r, r = x * y % 18446744073709551616 := ⟨_, rfl⟩
  rw [← hq] at hlt ⊢
  rw [← hr, wrapN q hlt]
  have Hq := Lib.hid hq
  have Hr := Lib.hid hr
  clear hq hr hlt hx hy bd bt bw hhi ba bb bc ba' bb' bc' bh1
  go_ret2
  refine ⟨?_, rfl⟩
  rw [Hq.out, Hr.out]
  rfl

def blen (x : Nat) : Nat := if x = 0 then 0 else Nat.log2 x + 1
def len8 : ByteArray := ⟨#[0, 1, 2, 2, 3, 3, 3, 3, 4, 4, 4, 4, 4, 4, 4, 4, 5, 5, 5, 5, 5, 5, 5, 5, 5, 5, 5, 5, 5, 5, 5, 5, 6, 6, 6, 6, 6, 6, 6, 6, 6, 6, 6, 6, 6, 6, 6, 6, 6, 6, 6, 6, 6, 6, 6, 6, 6, 6, 6, 6, 6, 6, 6, 6, 7, 7, 7, 7, 7, 7, 7, 7, 7, 7, 7, 7, 7, 7, 7, 7, 7, 7, 7, 7, 7, 7, 7, 7, 7, 7, 7, 7, 7, 7, 7, 7, 7, 7, 7, 7, 7, 7, 7, 7, 7, 7, 7, 7, 7, 7, 7, 7, 7, 7, 7, 7, 7, 7, 7, 7, 7, 7, 7, 7, 7, 7, 7, 7, 8, 8, 8, 8, 8, 8, 8, 8, 8, 8, 8, 8, 8, 8, 8, 8, 8, 8, 8, 8, 8, 8, 8, 8, 8, 8, 8, 8, 8, 8, 8, 8, 8, 8, 8, 8, 8, 8, 8, 8, 8, 8, 8, 8, 8, 8, 8, 8, 8, 8, 8, 8, 8, 8, 8, 8, 8, 8, 8, 8, 8, 8, 8, 8, 8, 8, 8, 8, 8, 8, 8, 8, 8, 8, 8, 8, 8, 8, 8, 8, 8, 8, 8, 8, 8, 8, 8, 8, 8, 8, 8, 8, 8, 8, 8, 8, 8, 8, 8, 8, 8, 8, 8, 8, 8, 8, 8, 8, 8, 8, 8, 8, 8, 8, 8, 8, 8, 8, 8, 8, 8, 8, 8, 8, 8, 8, 8, 8]⟩
theorem len8_size : len8.size = 256 := by decide +kernel
theorem len8_get (x : Nat) (h : x < len8.size) : (len8[x]'h).toNat = blen x := by
  have H : ∀ x : Fin 256, (len8.data.toList.getD x.val 0).toNat = blen x.val := by decide +kernel
  have h' : x < 256 := by rw [len8_size] at h; exact h
  have := H ⟨x, h'⟩
  simp only at this
  rw [← this, List.getD_eq_getElem?_getD]
  have h2 : x < len8.data.toList.length := h
  rw [List.getElem?_eq_getElem h2]
  rfl
theorem blen_div (k x : Nat) (h : 2 ^ k ≤ x) : blen x = blen (x / 2 ^ k) + k := by
  have h1 : 0 < x / 2 ^ k := Nat.div_pos h (Nat.two_pow_pos k)
  have h2 : 0 < x := Nat.lt_of_lt_of_le (Nat.two_pow_pos k) h
  unfold blen
  rw [if_neg (by omega), if_neg (by omega)]
  have : Nat.log2 x = Nat.log2 (x / 2 ^ k) + k := by
    rw [Nat.log2_eq_iff (by omega)]
    have hh := (Nat.log2_eq_iff (n := x / 2 ^ k) (k := Nat.log2 (x / 2 ^ k)) (by omega)).1 rfl
    rw [Nat.pow_add, Nat.add_right_comm, Nat.pow_add]
    refine ⟨?_, ?_⟩
    · exact (Nat.le_div_iff_mul_le (Nat.two_pow_pos k)).1 hh.1
    · exact (Nat.div_lt_iff_lt_mul (Nat.two_pow_pos k)).1 hh.2
  omega
theorem blen_le (x : Nat) (k : Nat) (h : x < 2 ^ k) : blen x ≤ k := by
  unfold blen
  split
  · omega
  · rename_i h0
    have := (Nat.log2_lt h0).2 h
    omega
theorem wrap_len (x : Nat) (h : x < len8.size) : wrap64 (((len8[x]'h).toNat : Nat) : Int) = (blen x : Nat) := by
  rw [len8_get x h]
  have := blen_le x 8 (by rw [len8_size] at h; omega)
  unfold wrap64; omega
set_option maxRecDepth 100000 in
theorem len64_0 (a : Int) (ha : 0 ≤ a) (ha' : a < 256) (w : World) :
    Calls Tryd.prog 69 #[.int .u64 a] w fun e w' => e = .returned (.int .i64 (blen a.toNat)) ∧ w' = w := by
  have hx : (a).toNat < len8.size := by rw [len8_size]; omega
  have hb : (blen (a).toNat : Int) + 0 = blen a.toNat := by
    rfl
  have hl := blen_le (a).toNat 8 (by rw [len8_size] at hx; omega)
  have h0 : 0 ≤ a := by omega
  have h1 : a < 256 := by omega
  have Hb := Lib.hid hb
  have Hx := Lib.hid hx
  have Hl := Lib.hid hl
  clear hb hx hl
  go_enter Tryd.func69, Tryd.ntmps69
  go_wp2
  go_ret
  refine ⟨?_, rfl⟩
  rw [← Hb.out]
  show Ending.returned (.int .i64 (wrap64 (wrap64 (((len8[(a).toNat]'Hx.out).toNat : Nat) : Int)))) = _
  rw [wrap_len]
  have := Hl.out
  congr 2
  unfold wrap64
  omega
set_option maxRecDepth 100000 in
theorem len64_8 (a : Int) (ha : 256 ≤ a) (ha' : a < 65536) (w : World) :
    Calls Tryd.prog 69 #[.int .u64 a] w fun e w' => e = .returned (.int .i64 (blen a.toNat)) ∧ w' = w := by
  have hx : (a / 256).toNat < len8.size := by rw [len8_size]; omega
  have hb : (blen (a / 256).toNat : Int) + 8 = blen a.toNat := by
    rw [blen_div 8 a.toNat (by omega), show a.toNat / 2 ^ 8 = (a / 256).toNat by omega]; rfl
  have hl := blen_le (a / 256).toNat 8 (by rw [len8_size] at hx; omega)
  have h0 : 0 ≤ a / 256 := by omega
  have h1 : a / 256 < 256 := by omega
  have Hb := Lib.hid hb
  have Hx := Lib.hid hx
  have Hl := Lib.hid hl
  clear hb hx hl
  go_enter Tryd.func69, Tryd.ntmps69
  go_wp2
  go_ret
  refine ⟨?_, rfl⟩
  rw [← Hb.out]
  show Ending.returned (.int .i64 (wrap64 (8 + wrap64 (((len8[(a / 256).toNat]'Hx.out).toNat : Nat) : Int)))) = _
  rw [wrap_len]
  have := Hl.out
  congr 2
  unfold wrap64
  omega
set_option maxRecDepth 100000 in
theorem len64_16 (a : Int) (ha : 65536 ≤ a) (ha' : a < 16777216) (w : World) :
    Calls Tryd.prog 69 #[.int .u64 a] w fun e w' => e = .returned (.int .i64 (blen a.toNat)) ∧ w' = w := by
  have hx : (a / 65536).toNat < len8.size := by rw [len8_size]; omega
  have hb : (blen (a / 65536).toNat : Int) + 16 = blen a.toNat := by
    rw [blen_div 16 a.toNat (by omega), show a.toNat / 2 ^ 16 = (a / 65536).toNat by omega]; rfl
  have hl := blen_le (a / 65536).toNat 8 (by rw [len8_size] at hx; omega)
  have h0 : 0 ≤ a / 65536 := by omega
  have h1 : a / 65536 < 256 := by omega
  have Hb := Lib.hid hb
  have Hx := Lib.hid hx
  have Hl := Lib.hid hl
  clear hb hx hl
  go_enter Tryd.func69, Tryd.ntmps69
  go_wp2
  go_ret
  refine ⟨?_, rfl⟩
  rw [← Hb.out]
  show Ending.returned (.int .i64 (wrap64 (16 + wrap64 (((len8[(a / 65536).toNat]'Hx.out).toNat : Nat) : Int)))) = _
  rw [wrap_len]
  have := Hl.out
  congr 2
  unfold wrap64
  omega
set_option maxRecDepth 100000 in
theorem len64_24 (a : Int) (ha : 16777216 ≤ a) (ha' : a < 4294967296) (w : World) :
    Calls Tryd.prog 69 #[.int .u64 a] w fun e w' => e = .returned (.int .i64 (blen a.toNat)) ∧ w' = w := by
  have hx : (a / 65536 / 256).toNat < len8.size := by rw [len8_size]; omega
  have hb : (blen (a / 65536 / 256).toNat : Int) + 24 = blen a.toNat := by
    rw [blen_div 24 a.toNat (by omega), show a.toNat / 2 ^ 24 = (a / 65536 / 256).toNat by omega]; rfl
  have hl := blen_le (a / 65536 / 256).toNat 8 (by rw [len8_size] at hx; omega)
  have h0 : 0 ≤ a / 65536 / 256 := by omega
  have h1 : a / 65536 / 256 < 256 := by omega
  have Hb := Lib.hid hb
  have Hx := Lib.hid hx
  have Hl := Lib.hid hl
  clear hb hx hl
  go_enter Tryd.func69, Tryd.ntmps69
  go_wp2
  go_ret
  refine ⟨?_, rfl⟩
  rw [← Hb.out]
  show Ending.returned (.int .i64 (wrap64 (24 + wrap64 (((len8[(a / 65536 / 256).toNat]'Hx.out).toNat : Nat) : Int)))) = _
  rw [wrap_len]
  have := Hl.out
  congr 2
  unfold wrap64
  omega
set_option maxRecDepth 100000 in
theorem len64_32 (a : Int) (ha : 4294967296 ≤ a) (ha' : a < 1099511627776) (w : World) :
    Calls Tryd.prog 69 #[.int .u64 a] w fun e w' => e = .returned (.int .i64 (blen a.toNat)) ∧ w' = w := by
  have hx : (a / 4294967296).toNat < len8.size := by rw [len8_size]; omega
  have hb : (blen (a / 4294967296).toNat : Int) + 32 = blen a.toNat := by
    rw [blen_div 32 a.toNat (by omega), show a.toNat / 2 ^ 32 = (a / 4294967296).toNat by omega]; rfl
  have hl := blen_le (a / 4294967296).toNat 8 (by rw [len8_size] at hx; omega)
  have h0 : 0 ≤ a / 4294967296 := by omega
  have h1 : a / 4294967296 < 256 := by omega
  have Hb := Lib.hid hb
  have Hx := Lib.hid hx
  have Hl := Lib.hid hl
  clear hb hx hl
  go_enter Tryd.func69, Tryd.ntmps69
  go_wp2
  go_ret
  refine ⟨?_, rfl⟩
  rw [← Hb.out]
  show Ending.returned (.int .i64 (wrap64 (32 + wrap64 (((len8[(a / 4294967296).toNat]'Hx.out).toNat : Nat) : Int)))) = _
  rw [wrap_len]
  have := Hl.out
  congr 2
  unfold wrap64
  omega
set_option maxRecDepth 100000 in
theorem len64_40 (a : Int) (ha : 1099511627776 ≤ a) (ha' : a < 281474976710656) (w : World) :
    Calls Tryd.prog 69 #[.int .u64 a] w fun e w' => e = .returned (.int .i64 (blen a.toNat)) ∧ w' = w := by
  have hx : (a / 4294967296 / 256).toNat < len8.size := by rw [len8_size]; omega
  have hb : (blen (a / 4294967296 / 256).toNat : Int) + 40 = blen a.toNat := by
    rw [blen_div 40 a.toNat (by omega), show a.toNat / 2 ^ 40 = (a / 4294967296 / 256).toNat by omega]; rfl
  have hl := blen_le (a / 4294967296 / 256).toNat 8 (by rw [len8_size] at hx; omega)
  have h0 : 0 ≤ a / 4294967296 / 256 := by omega
  have h1 : a / 4294967296 / 256 < 256 := by omega
  have Hb := Lib.hid hb
  have Hx := Lib.hid hx
  have Hl := Lib.hid hl
  clear hb hx hl
  go_enter Tryd.func69, Tryd.ntmps69
  go_wp2
  go_ret
  refine ⟨?_, rfl⟩
  rw [← Hb.out]
  show Ending.returned (.int .i64 (wrap64 (40 + wrap64 (((len8[(a / 4294967296 / 256).toNat]'Hx.out).toNat : Nat) : Int)))) = _
  rw [wrap_len]
  have := Hl.out
  congr 2
  unfold wrap64
  omega
set_option maxRecDepth 100000 in
theorem len64_48 (a : Int) (ha : 281474976710656 ≤ a) (ha' : a < 72057594037927936) (w : World) :
    Calls Tryd.prog 69 #[.int .u64 a] w fun e w' => e = .returned (.int .i64 (blen a.toNat)) ∧ w' = w := by
  have hx : (a / 4294967296 / 65536).toNat < len8.size := by rw [len8_size]; omega
  have hb : (blen (a / 4294967296 / 65536).toNat : Int) + 48 = blen a.toNat := by
    rw [blen_div 48 a.toNat (by omega), show a.toNat / 2 ^ 48 = (a / 4294967296 / 65536).toNat by omega]; rfl
  have hl := blen_le (a / 4294967296 / 65536).toNat 8 (by rw [len8_size] at hx; omega)
  have h0 : 0 ≤ a / 4294967296 / 65536 := by omega
  have h1 : a / 4294967296 / 65536 < 256 := by omega
  have Hb := Lib.hid hb
  have Hx := Lib.hid hx
  have Hl := Lib.hid hl
  clear hb hx hl
  go_enter Tryd.func69, Tryd.ntmps69
  go_wp2
  go_ret
  refine ⟨?_, rfl⟩
  rw [← Hb.out]
  show Ending.returned (.int .i64 (wrap64 (48 + wrap64 (((len8[(a / 4294967296 / 65536).toNat]'Hx.out).toNat : Nat) : Int)))) = _
  rw [wrap_len]
  have := Hl.out
  congr 2
  unfold wrap64
  omega
set_option maxRecDepth 100000 in
theorem len64_56 (a : Int) (ha : 72057594037927936 ≤ a) (ha' : a < 18446744073709551616) (w : World) :
    Calls Tryd.prog 69 #[.int .u64 a] w fun e w' => e = .returned (.int .i64 (blen a.toNat)) ∧ w' = w := by
  have hx : (a / 4294967296 / 65536 / 256).toNat < len8.size := by rw [len8_size]; omega
  have hb : (blen (a / 4294967296 / 65536 / 256).toNat : Int) + 56 = blen a.toNat := by
    rw [blen_div 56 a.toNat (by omega), show a.toNat / 2 ^ 56 = (a / 4294967296 / 65536 / 256).toNat by omega]; rfl
  have hl := blen_le (a / 4294967296 / 65536 / 256).toNat 8 (by rw [len8_size] at hx; omega)
  have h0 : 0 ≤ a / 4294967296 / 65536 / 256 := by omega
  have h1 : a / 4294967296 / 65536 / 256 < 256 := by omega
  have Hb := Lib.hid hb
  have Hx := Lib.hid hx
  have Hl := Lib.hid hl
  clear hb hx hl
  go_enter Tryd.func69, Tryd.ntmps69
  go_wp2
  go_ret
  refine ⟨?_, rfl⟩
  rw [← Hb.out]
  show Ending.returned (.int .i64 (wrap64 (56 + wrap64 (((len8[(a / 4294967296 / 65536 / 256).toNat]'Hx.out).toNat : Nat) : Int)))) = _
  rw [wrap_len]
  have := Hl.out
  congr 2
  unfold wrap64
  omega
theorem len64_c (a : Int) (ha : 0 ≤ a) (ha' : a < 18446744073709551616) (w : World) :
    Calls Tryd.prog 69 #[.int .u64 a] w fun e w' => e = .returned (.int .i64 (blen a.toNat)) ∧ w' = w := by
  by_cases h0 : a < 256
  · exact len64_0 a (by omega) h0 w
  by_cases h8 : a < 65536
  · exact len64_8 a (by omega) h8 w
  by_cases h16 : a < 16777216
  · exact len64_16 a (by omega) h16 w
  by_cases h24 : a < 4294967296
  · exact len64_24 a (by omega) h24 w
  by_cases h32 : a < 1099511627776
  · exact len64_32 a (by omega) h32 w
  by_cases h40 : a < 281474976710656
  · exact len64_40 a (by omega) h40 w
  by_cases h48 : a < 72057594037927936
  · exact len64_48 a (by omega) h48 w
  exact len64_56 a (by omega) ha' w
theorem lz64_c (a : Int) (ha : 0 ≤ a) (ha' : a < 18446744073709551616) (w : World) :
    Calls Tryd.prog 92 #[.int .u64 a] w fun e w' => e = .returned (.int .i64 (64 - (blen a.toNat : Int))) ∧ w' = w := by
  have hl := blen_le a.toNat 64 (by omega)
  have h1 : IntKind.i64.wrap (64 - (blen a.toNat : Int)) = 64 - (blen a.toNat : Int) := by rw [IntKind.wrap_i64]; omega
  have h2 : wrap64 (64 - (blen a.toNat : Int)) = 64 - (blen a.toNat : Int) := by unfold wrap64; omega
  have H1 := Lib.hid h1
  have H2 := Lib.hid h2
  clear h1 h2
  go_enter Tryd.func92, Tryd.ntmps92
  go_wp2_with (go_at_call 69; refine (len64_c _ ha ha' _).mono ?_; rintro e w' ⟨rfl, rfl⟩)
  go_ret
  exact ⟨by first | rfl | (rw [H2.out]; rfl) | simp [H2.out], rfl⟩
end Go.Proofs.YtoiclkaecgpbbaaDoor
