/- Digits: a list of them, lowest first, as a number. Plain, no program in sight. -/
import Derived.Test.YtoiclkaecgpbbaaDoorMem
namespace Go.Proofs.YtoiclkaecgpbbaaDoor
open Go.RowKit

def val (B : Nat) : List Int → Nat
  | [] => 0
  | x :: xs => x.toNat + B * val B xs
/-- Without noughts on top. -/
def trimZ : List Int → List Int
  | [] => []
  | x :: xs => if trimZ xs = [] ∧ x = 0 then [] else x :: trimZ xs
/-- Digits below B. -/
def Dg (B : Nat) (xs : List Int) : Prop := ∀ x ∈ xs, 0 ≤ x ∧ x < (B : Int)
/-- No nought on top. -/
def Nz (xs : List Int) : Prop := trimZ xs = xs
theorem Dg.nil (B : Nat) : Dg B [] := fun _ h => by cases h
theorem Dg.head {B : Nat} {x : Int} {xs : List Int} (h : Dg B (x :: xs)) : 0 ≤ x ∧ x < (B : Int) := h x (List.mem_cons_self ..)
theorem Dg.tail {B : Nat} {x : Int} {xs : List Int} (h : Dg B (x :: xs)) : Dg B xs := fun y hy => h y (List.mem_cons_of_mem _ hy)
theorem Dg.cons {B : Nat} {x : Int} {xs : List Int} (h0 : 0 ≤ x) (h1 : x < (B : Int)) (h : Dg B xs) : Dg B (x :: xs) := fun y hy => by
  rcases List.mem_cons.1 hy with rfl | hy
  · exact ⟨h0, h1⟩
  · exact h y hy
theorem Dg.append {B : Nat} {xs ys : List Int} (h : Dg B xs) (k : Dg B ys) : Dg B (xs ++ ys) := fun x hx => (List.mem_append.1 hx).elim (h x) (k x)
theorem Dg.take {B : Nat} {xs : List Int} (h : Dg B xs) (k : Nat) : Dg B (xs.take k) := fun x hx => h x (List.mem_of_mem_take hx)
theorem Dg.drop {B : Nat} {xs : List Int} (h : Dg B xs) (k : Nat) : Dg B (xs.drop k) := fun x hx => h x (List.mem_of_mem_drop hx)
theorem Dg.mono {B C : Nat} {xs : List Int} (h : Dg B xs) (hBC : B ≤ C) : Dg C xs := fun x hx => ⟨(h x hx).1, by have := (h x hx).2; omega⟩
theorem Dg.set {B : Nat} {xs : List Int} (h : Dg B xs) (k : Nat) {y : Int} (h0 : 0 ≤ y) (h1 : y < (B : Int)) : Dg B (xs.set k y) := fun x hx => by
  rcases List.mem_or_eq_of_mem_set hx with hx | rfl
  · exact h x hx
  · exact ⟨h0, h1⟩
theorem Dg.replicate {B : Nat} (hB : 0 < B) (n : Nat) : Dg B (List.replicate n 0) := fun x hx => by
  rw [List.eq_of_mem_replicate hx]; exact ⟨by decide, by omega⟩
theorem Dg.ws {B : Nat} {xs : List Int} (h : Dg B xs) (hB : B ≤ 18446744073709551616) : Ws xs := fun x hx => ⟨(h x hx).1, by have := (h x hx).2; omega⟩
theorem Ws.dg {xs : List Int} (h : Ws xs) : Dg 18446744073709551616 xs := h
theorem Dg.at_ {B : Nat} (hB : 0 < B) {xs : List Int} (h : Dg B xs) (i : Nat) : 0 ≤ rd xs i ∧ rd xs i < (B : Int) := by
  unfold rd
  rw [List.getD_eq_getElem?_getD]
  by_cases hi : i < xs.length
  · rw [List.getElem?_eq_getElem hi]; exact h _ (List.getElem_mem hi)
  · rw [List.getElem?_eq_none (by omega)]; exact ⟨by decide, by simp; omega⟩

theorem trimZ_dg {B : Nat} {xs : List Int} (h : Dg B xs) : Dg B (trimZ xs) := by
  induction xs with
  | nil => exact h
  | cons x xs ih =>
    unfold trimZ
    split
    · exact Dg.nil B
    · exact Dg.cons h.head.1 h.head.2 (ih h.tail)
theorem trimZ_trimZ (xs : List Int) : trimZ (trimZ xs) = trimZ xs := by
  induction xs with
  | nil => rfl
  | cons x xs ih =>
    by_cases h : trimZ xs = [] ∧ x = 0
    · simp only [trimZ, if_pos h]
    · rw [show trimZ (x :: xs) = x :: trimZ xs by simp only [trimZ, if_neg h]]
      simp only [trimZ, ih, if_neg h]
theorem nz_trimZ (xs : List Int) : Nz (trimZ xs) := trimZ_trimZ xs
theorem nz_nil : Nz [] := rfl
theorem Nz.tail {x : Int} {xs : List Int} (h : Nz (x :: xs)) : Nz xs := by
  unfold Nz at h ⊢
  by_cases k : trimZ xs = [] ∧ x = 0
  · simp only [trimZ, if_pos k] at h; cases h
  · simp only [trimZ, if_neg k, List.cons.injEq, true_and] at h; exact h
theorem val_trimZ (B : Nat) (xs : List Int) : val B (trimZ xs) = val B xs := by
  induction xs with
  | nil => rfl
  | cons x xs ih =>
    by_cases k : trimZ xs = [] ∧ x = 0
    · simp only [trimZ, if_pos k, val]
      rw [← ih, k.1, k.2]; simp [val]
    · simp only [trimZ, if_neg k, val, ih]
theorem nz_pos {B : Nat} (hB : 0 < B) {xs : List Int} (h : Dg B xs) (hz : Nz xs) (hne : xs ≠ []) : 0 < val B xs := by
  induction xs with
  | nil => exact absurd rfl hne
  | cons x xs ih =>
    unfold val
    by_cases hx : xs = []
    · subst hx
      have : x ≠ 0 := by
        intro e; subst e
        unfold Nz trimZ at hz
        simp [trimZ] at hz
      have := h.head.1
      simp only [val]; omega
    · have := ih h.tail hz.tail hx
      have := Nat.mul_pos hB this
      omega
/-- Digits are known by their number. -/
theorem dg_ext {B : Nat} (hB : 0 < B) {xs ys : List Int} (hx : Dg B xs) (hy : Dg B ys) (zx : Nz xs) (zy : Nz ys) (h : val B xs = val B ys) : xs = ys := by
  induction xs generalizing ys with
  | nil =>
    by_cases he : ys = []
    · rw [he]
    · have := nz_pos hB hy zy he
      rw [← h] at this; exact absurd this (by simp [val])
  | cons x xs ih =>
    cases ys with
    | nil => have := nz_pos hB hx zx (by simp); rw [h] at this; exact absurd this (by simp [val])
    | cons y ys =>
      simp only [val] at h
      have h1 := hx.head
      have h2 := hy.head
      have e1 : x.toNat = (x.toNat + B * val B xs) % B := by rw [Nat.add_mul_mod_self_left, Nat.mod_eq_of_lt (by omega)]
      have e2 : y.toNat = (y.toNat + B * val B ys) % B := by rw [Nat.add_mul_mod_self_left, Nat.mod_eq_of_lt (by omega)]
      have exy : x.toNat = y.toNat := by rw [e1, e2, h]
      have ev : val B xs = val B ys := by
        rw [exy] at h
        exact Nat.eq_of_mul_eq_mul_left hB (by omega)
      rw [ih hx.tail hy.tail zx.tail zy.tail ev, show x = y by omega]
theorem val_lt {B : Nat} {xs : List Int} (h : Dg B xs) : val B xs < B ^ xs.length := by
  induction xs with
  | nil => simp [val]
  | cons x xs ih =>
    have := ih h.tail
    have h1 := h.head
    simp only [val, List.length_cons, Nat.pow_succ]
    have : B * (val B xs + 1) ≤ B * B ^ xs.length := Nat.mul_le_mul_left _ this
    rw [Nat.mul_comm (B ^ xs.length)]
    rw [Nat.mul_add] at this
    omega
theorem val_append (B : Nat) (xs ys : List Int) : val B (xs ++ ys) = val B xs + B ^ xs.length * val B ys := by
  induction xs with
  | nil => simp [val]
  | cons x xs ih => simp only [List.cons_append, val, ih, List.length_cons, Nat.pow_succ]; grind
theorem val_replicate (B n : Nat) : val B (List.replicate n 0) = 0 := by
  induction n with
  | zero => rfl
  | succ n ih => simp [List.replicate_succ, val, ih]
theorem val_take_drop (B : Nat) (xs : List Int) (k : Nat) (hk : k ≤ xs.length) : val B xs = val B (xs.take k) + B ^ k * val B (xs.drop k) := by
  have h := val_append B (xs.take k) (xs.drop k)
  rw [List.take_append_drop, List.length_take, Nat.min_eq_left hk] at h
  exact h
theorem drop_rd {xs : List Int} {k : Nat} (hk : k < xs.length) : xs.drop k = rd xs k :: xs.drop (k + 1) := by
  rw [List.drop_eq_getElem_cons hk]
  congr 1
  unfold rd
  rw [List.getD_eq_getElem?_getD, List.getElem?_eq_getElem hk]; rfl
theorem take_rd {xs : List Int} {k : Nat} (hk : k < xs.length) : xs.take (k + 1) = xs.take k ++ [rd xs k] := by
  rw [List.take_succ_eq_append_getElem hk]
  congr 2
  unfold rd
  rw [List.getD_eq_getElem?_getD, List.getElem?_eq_getElem hk]; rfl
theorem val_one (B : Nat) (x : Int) : val B [x] = x.toNat := by simp [val]
/-- The value of the lowest digits, one more. -/
theorem val_take_succ (B : Nat) {xs : List Int} {k : Nat} (hk : k < xs.length) : val B (xs.take (k + 1)) = val B (xs.take k) + B ^ k * (rd xs k).toNat := by
  rw [take_rd hk, val_append, val_one, List.length_take, Nat.min_eq_left (by omega)]
theorem val_drop (B : Nat) {xs : List Int} {k : Nat} (hk : k < xs.length) : val B (xs.drop k) = (rd xs k).toNat + B * val B (xs.drop (k + 1)) := by
  rw [drop_rd hk]; rfl
theorem val_set (B : Nat) {xs : List Int} {k : Nat} (hk : k < xs.length) (y : Int) : val B (xs.set k y) + B ^ k * (rd xs k).toNat = val B xs + B ^ k * y.toNat := by
  induction xs generalizing k with
  | nil => simp at hk
  | cons x xs ih =>
    cases k with
    | zero => simp only [List.set_cons_zero, val, Nat.pow_zero, Nat.one_mul]; simp [rd]; omega
    | succ k =>
      have := ih (k := k) (by simpa using hk)
      simp only [List.set_cons_succ, val, Nat.pow_succ]
      have e : rd (x :: xs) (k + 1) = rd xs k := by simp [rd]
      rw [e]
      have := congrArg (B * ·) this
      simp only [Nat.mul_add] at this
      grind
/-- Trimmed by a count. -/
theorem take_trimZ {xs : List Int} {k : Nat} (hk : k ≤ xs.length) (h0 : ∀ j, k ≤ j → rd xs j = 0) (h1 : k = 0 ∨ rd xs (k - 1) ≠ 0) : xs.take k = trimZ xs := by
  induction xs generalizing k with
  | nil => simp [trimZ]
  | cons x xs ih =>
    cases k with
    | zero =>
      have := ih (k := 0) (by omega) (fun j _ => by have := h0 (j + 1) (by omega); simpa [rd] using this) (Or.inl rfl)
      have hx : x = 0 := by have := h0 0 (by omega); simpa [rd] using this
      simp only [List.take_zero] at this ⊢
      simp only [trimZ, ← this, hx, and_self, if_true]
    | succ k =>
      have hk' : k ≤ xs.length := by simpa using hk
      have ht := ih (k := k) hk' (fun j hj => by have := h0 (j + 1) (by omega); simpa [rd] using this) (by
        rcases h1 with h1 | h1
        · omega
        · by_cases hz : k = 0
          · exact Or.inl hz
          · right
            obtain ⟨m, rfl⟩ : ∃ m, k = m + 1 := ⟨k - 1, by omega⟩
            simpa [rd] using h1)
      have hn : ¬ (trimZ xs = [] ∧ x = 0) := by
        rintro ⟨e1, e2⟩
        rw [← ht] at e1
        have : k = 0 := by
          by_cases hz : k = 0
          · exact hz
          · have := congrArg List.length e1
            rw [List.length_take, List.length_nil] at this; omega
        subst this
        rcases h1 with h1 | h1
        · omega
        · exact h1 (by simp [rd, e2])
      rw [List.take_succ_cons, ht]
      simp only [trimZ, if_neg hn]
/-- Three ways of two numbers. -/
def cmpI (m n : Nat) : Int := if m < n then -1 else if n < m then 1 else 0
theorem cmp_top {B : Nat} (hB : 0 < B) {xs ys : List Int} (hx : Dg B xs) (hy : Dg B ys) (hl : xs.length = ys.length) {i : Nat} (hi : i < xs.length)
    (he : ∀ j, i < j → rd xs j = rd ys j) (hlt : rd xs i < rd ys i) : val B xs < val B ys := by
  have hd : xs.drop (i + 1) = ys.drop (i + 1) := by
    apply List.ext_getElem (by rw [List.length_drop, List.length_drop, hl])
    intro j h1 h2
    rw [List.length_drop] at h1 h2
    have := he (i + 1 + j) (by omega)
    simpa [rd, List.getD_eq_getElem?_getD, show i + 1 + j < xs.length by omega, show i + 1 + j < ys.length by omega] using this
  rw [val_take_drop B xs i (by omega), val_take_drop B ys i (by omega), val_drop B hi, val_drop B (show i < ys.length by omega), hd]
  have h1 := val_lt (hx.take i)
  rw [List.length_take, Nat.min_eq_left (by omega)] at h1
  have a := (hx.at_ hB i)
  have b := (hy.at_ hB i)
  have c : (rd xs i).toNat + 1 ≤ (rd ys i).toNat := by omega
  have d := Nat.mul_le_mul_left (B ^ i) c
  simp only [Nat.mul_add] at d ⊢
  omega
theorem cmp_len {B : Nat} (hB : 0 < B) {xs ys : List Int} (hx : Dg B xs) (hy : Dg B ys) (zy : Nz ys) (hl : xs.length < ys.length) : val B xs < val B ys := by
  have h1 := val_lt hx
  have hne : ys.drop (ys.length - 1) ≠ [] := by
    intro e; have := congrArg List.length e; rw [List.length_drop] at this; simp at this; omega
  have h2 : 0 < val B (ys.drop (ys.length - 1)) := nz_pos hB (hy.drop _) (by
    have : ∀ (k : Nat) (l : List Int), Nz l → Nz (l.drop k) := fun k => by
      induction k with
      | zero => intro l h; exact h
      | succ k ih => intro l h; cases l with
        | nil => exact h
        | cons x l => exact ih l h.tail
    exact this _ _ zy) hne
  rw [val_take_drop B ys (ys.length - 1) (by omega)]
  have h3 : B ^ xs.length ≤ B ^ (ys.length - 1) := Nat.pow_le_pow_right hB (by omega)
  have h4 : B ^ (ys.length - 1) * 1 ≤ B ^ (ys.length - 1) * val B (ys.drop (ys.length - 1)) := Nat.mul_le_mul_left _ h2
  omega
end Go.Proofs.YtoiclkaecgpbbaaDoor
