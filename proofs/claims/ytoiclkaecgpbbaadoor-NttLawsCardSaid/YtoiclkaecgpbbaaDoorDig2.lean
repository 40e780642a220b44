/- Digits: doubling, comparing, taking away, bit by bit. Plain. -/
import Derived.Test.YtoiclkaecgpbbaaDoorDig
namespace Go.Proofs.YtoiclkaecgpbbaaDoor
open Go.RowKit

theorem rd_beyond {xs : List Int} {j : Nat} (hj : xs.length ≤ j) : rd xs j = 0 := by
  unfold rd; rw [List.getD_eq_getElem?_getD, List.getElem?_eq_none hj]; rfl
theorem rd_set_self {xs : List Int} {k : Nat} (hk : k < xs.length) (y : Int) : rd (xs.set k y) k = y := by
  unfold rd; rw [List.getD_eq_getElem?_getD, List.getElem?_set_self hk]; rfl
theorem rd_set_ne {xs : List Int} {k j : Nat} (h : k ≠ j) (y : Int) : rd (xs.set k y) j = rd xs j := by
  unfold rd; rw [List.getD_eq_getElem?_getD, List.getD_eq_getElem?_getD, List.getElem?_set_ne h]
theorem take_set {xs : List Int} {k : Nat} (hk : k < xs.length) (y : Int) : (xs.set k y).take (k + 1) = xs.take k ++ [y] := by
  rw [take_rd (by rw [List.length_set]; exact hk), rd_set_self hk, List.take_set_of_le (Nat.le_refl _)]
theorem drop_set {xs : List Int} (k : Nat) (y : Int) : (xs.set k y).drop (k + 1) = xs.drop (k + 1) := List.drop_set_of_lt (by omega)
theorem rd_drop {xs ys : List Int} {k : Nat} (h : xs.drop k = ys.drop k) : rd xs k = rd ys k := by
  have e : ∀ l : List Int, rd l k = rd (l.drop k) 0 := fun l => by
    unfold rd; rw [List.getD_eq_getElem?_getD, List.getD_eq_getElem?_getD, List.getElem?_drop]; rfl
  rw [e xs, e ys, h]
theorem drop_succ {xs ys : List Int} {k : Nat} (h : xs.drop k = ys.drop k) : xs.drop (k + 1) = ys.drop (k + 1) := by
  rw [← List.drop_drop, ← List.drop_drop, h]
/-- The lowest digits' value, one more, whether there or not. -/
theorem val_take_any (B : Nat) (xs : List Int) (k : Nat) : val B (xs.take (k + 1)) = val B (xs.take k) + B ^ k * (rd xs k).toNat := by
  by_cases hk : k < xs.length
  · exact val_take_succ B hk
  · rw [List.take_of_length_le (by omega), List.take_of_length_le (by omega), rd_beyond (by omega)]; simp
theorem dbl_arith {V W b P q t d e : Nat} (hv : V + P * e = 2 * W + b) (k : q + 4294967296 * t = 2 * d + e) : V + P * q + P * 4294967296 * t = 2 * (W + P * d) + b := by
  have h := congrArg (P * ·) k
  simp only [Nat.mul_add] at h
  rw [Nat.mul_assoc P 4294967296 t, Nat.mul_add 2 W, Nat.mul_left_comm 2 P d]
  omega
theorem ge_arith {V D R P x y e t : Nat} (hv : V + D = R + P * e) (k : x = e + y + t) : V + P * t + (D + P * y) = R + P * x := by
  have h := congrArg (P * ·) k
  simp only [Nat.mul_add] at h
  omega
theorem lt_arith {V D R P x y e t : Nat} (hv : V + D = R + P * e) (k : x + 4294967296 = e + y + t) : V + P * t + (D + P * y) = R + P * x + P * 4294967296 := by
  have h := congrArg (P * ·) k
  simp only [Nat.mul_add] at h
  omega
/-- Doubling, i digits done, c carried. -/
structure Dbl (B : Nat) (rs zs : List Int) (i : Nat) (c b : Int) : Prop where
  c0 : 0 ≤ c
  c1 : c ≤ 1
  len : zs.length = rs.length
  dg : Dg B zs
  rest : zs.drop i = rs.drop i
  v : val B (zs.take i) + B ^ i * c.toNat = 2 * val B (rs.take i) + b.toNat
theorem Dbl.start {B : Nat} {rs : List Int} {b : Int} (h : Dg B rs) (b0 : 0 ≤ b) (b1 : b ≤ 1) : Dbl B rs rs 0 b b :=
  ⟨b0, b1, rfl, h, rfl, by simp [val]⟩
theorem Dbl.step {rs zs : List Int} {i : Nat} {c b : Int} (h : Dbl 4294967296 rs zs i c b) (hi : i < rs.length) :
    Dbl 4294967296 rs (zs.set i ((2 * rd zs i + c) % 4294967296)) (i + 1) ((2 * rd zs i + c) / 4294967296) b := by
  have hz : i < zs.length := by rw [h.len]; exact hi
  have hd := h.dg.at_ (by decide) i
  have c0 := h.c0
  have c1 := h.c1
  have hd1 : rd zs i < 4294967296 := hd.2
  refine ⟨by omega, by omega, by rw [List.length_set, h.len], h.dg.set i (by omega) (by show _ < ((4294967296 : Nat) : Int); omega), by rw [drop_set, drop_succ h.rest], ?_⟩
  rw [take_set hz, val_append, val_one, List.length_take, Nat.min_eq_left (by omega), val_take_any 4294967296 rs i, ← rd_drop h.rest]
  have hv := h.v
  have k3 : ((2 * rd zs i + c) % 4294967296).toNat + 4294967296 * ((2 * rd zs i + c) / 4294967296).toNat = 2 * (rd zs i).toNat + c.toNat := by omega
  rw [Nat.pow_succ]
  exact dbl_arith hv k3
theorem Dbl.last {B : Nat} {rs zs : List Int} {c b : Int} (h : Dbl B rs zs rs.length c b) (hlt : 2 * val B rs + b.toNat < B ^ rs.length) : val B zs = 2 * val B rs + b.toNat := by
  have hv := h.v
  rw [List.take_of_length_le (by rw [h.len]; exact Nat.le_refl _), List.take_of_length_le (Nat.le_refl _)] at hv
  have : c.toNat = 0 := by
    by_cases k : c.toNat = 0
    · exact k
    · have : B ^ rs.length * 1 ≤ B ^ rs.length * c.toNat := Nat.mul_le_mul_left _ (by omega)
      omega
  rw [this] at hv; omega
/-- Taking away, i digits done, c borrowed. -/
structure Bor (B : Nat) (rs ds zs : List Int) (i : Nat) (c : Int) : Prop where
  c0 : 0 ≤ c
  c1 : c ≤ 1
  len : zs.length = rs.length
  dg : Dg B zs
  rest : zs.drop i = rs.drop i
  v : val B (zs.take i) + val B (ds.take i) = val B (rs.take i) + B ^ i * c.toNat
theorem Bor.start {B : Nat} {rs : List Int} (ds : List Int) (h : Dg B rs) : Bor B rs ds rs 0 0 :=
  ⟨by decide, by decide, rfl, h, rfl, by simp [val]⟩
theorem Bor.ge {rs ds zs : List Int} {i : Nat} {c : Int} (h : Bor 4294967296 rs ds zs i c) (hd : Dg 4294967296 ds) (hi : i < rs.length) (hge : c + rd ds i ≤ rd zs i) :
    Bor 4294967296 rs ds (zs.set i (rd zs i - (c + rd ds i))) (i + 1) 0 := by
  have hz : i < zs.length := by rw [h.len]; exact hi
  have h1 := h.dg.at_ (by decide) i
  have h2 := hd.at_ (by decide) i
  have c0 := h.c0
  refine ⟨by decide, by decide, by rw [List.length_set, h.len], h.dg.set i (by omega) (by omega), by rw [drop_set, drop_succ h.rest], ?_⟩
  rw [take_set hz, val_append, val_one, List.length_take, Nat.min_eq_left (by omega), val_take_any 4294967296 rs i, val_take_any 4294967296 ds i, ← rd_drop h.rest]
  have hv := h.v
  have k : (rd zs i).toNat = c.toNat + (rd ds i).toNat + (rd zs i - (c + rd ds i)).toNat := by omega
  have := ge_arith hv k
  rw [show (0 : Int).toNat = 0 from rfl, Nat.mul_zero, Nat.add_zero]
  exact this
theorem Bor.lt {rs ds zs : List Int} {i : Nat} {c : Int} (h : Bor 4294967296 rs ds zs i c) (hd : Dg 4294967296 ds) (hi : i < rs.length) (hlt : rd zs i < c + rd ds i) :
    Bor 4294967296 rs ds (zs.set i (rd zs i + (4294967296 - (c + rd ds i)))) (i + 1) 1 := by
  have hz : i < zs.length := by rw [h.len]; exact hi
  have h1 := h.dg.at_ (by decide) i
  have h2 := hd.at_ (by decide) i
  have c0 := h.c0
  have c1 := h.c1
  have h22 : rd ds i < 4294967296 := h2.2
  refine ⟨by decide, by decide, by rw [List.length_set, h.len], h.dg.set i (by omega) (by show _ < ((4294967296 : Nat) : Int); omega), by rw [drop_set, drop_succ h.rest], ?_⟩
  rw [take_set hz, val_append, val_one, List.length_take, Nat.min_eq_left (by omega), val_take_any 4294967296 rs i, val_take_any 4294967296 ds i, ← rd_drop h.rest]
  have hv := h.v
  have k : (rd zs i).toNat + 4294967296 = c.toNat + (rd ds i).toNat + (rd zs i + (4294967296 - (c + rd ds i))).toNat := by omega
  have := lt_arith hv k
  rw [show (1 : Int).toNat = 1 from rfl, Nat.mul_one, Nat.pow_succ]
  exact this
theorem Bor.last {B : Nat} {rs ds zs : List Int} {c : Int} (h : Bor B rs ds zs rs.length c) (hdl : ds.length ≤ rs.length) (hle : val B ds ≤ val B rs) : val B zs = val B rs - val B ds := by
  have hv := h.v
  rw [List.take_of_length_le (by rw [h.len]; exact Nat.le_refl _), List.take_of_length_le (Nat.le_refl _), List.take_of_length_le hdl] at hv
  have hz := val_lt h.dg
  rw [h.len] at hz
  have : c.toNat = 0 := by
    by_cases k : c.toNat = 0
    · exact k
    · have : B ^ rs.length * 1 ≤ B ^ rs.length * c.toNat := Nat.mul_le_mul_left _ (by omega)
      omega
  rw [this] at hv; omega
/-- A binary digit. -/
theorem val_bit {xs : List Int} (h : Dg 4294967296 xs) (q t : Nat) (hq : q < xs.length) (ht : t < 32) : val 4294967296 xs / 2 ^ (32 * q + t) % 2 = (rd xs q).toNat / 2 ^ t % 2 := by
  have h1 := val_lt (h.take q)
  rw [List.length_take, Nat.min_eq_left (by omega)] at h1
  have hB : (4294967296 : Nat) ^ q = 2 ^ (32 * q) := by rw [show (4294967296 : Nat) = 2 ^ 32 from rfl, ← Nat.pow_mul]
  rw [val_take_drop 4294967296 xs q (by omega), val_drop 4294967296 hq, Nat.pow_add, ← Nat.div_div_eq_div_mul, ← hB, Nat.add_mul_div_left _ _ (Nat.pow_pos (by decide)), Nat.div_eq_of_lt h1, Nat.zero_add]
  obtain ⟨s, hs⟩ : ∃ s, 32 = t + (s + 1) := ⟨31 - t, by omega⟩
  have e : 4294967296 * val 4294967296 (xs.drop (q + 1)) = 2 ^ t * (2 * (2 ^ s * val 4294967296 (xs.drop (q + 1)))) := by
    rw [show (4294967296 : Nat) = 2 ^ 32 from rfl, hs, Nat.pow_add, Nat.pow_succ]; grind
  rw [e, Nat.add_mul_div_left _ _ (Nat.pow_pos (by decide)), Nat.add_mul_mod_self_left]
/-- The next binary digit down. -/
theorem div_bit (m i : Nat) : m / 2 ^ i = 2 * (m / 2 ^ (i + 1)) + m / 2 ^ i % 2 := by
  rw [Nat.pow_succ, ← Nat.div_div_eq_div_mul]; omega
/-- One step of the division by binary digits. -/
theorem div_step (x n b : Nat) (hn : 0 < n) (hb : b ≤ 1) : (2 * x + b) / n = 2 * (x / n) + (if n ≤ 2 * (x % n) + b then 1 else 0) ∧ (2 * x + b) % n = 2 * (x % n) + b - (if n ≤ 2 * (x % n) + b then n else 0) := by
  have h1 := Nat.div_add_mod x n
  have h2 := Nat.mod_lt x hn
  generalize x / n = q at *
  generalize x % n = r at *
  split
  · have e : 2 * x + b = (2 * r + b - n) + n * (2 * q + 1) := by grind
    rw [e, Nat.add_mul_div_left _ _ hn, Nat.add_mul_mod_self_left, Nat.div_eq_of_lt (by omega), Nat.mod_eq_of_lt (by omega)]
    omega
  · have e : 2 * x + b = (2 * r + b) + n * (2 * q) := by grind
    rw [e, Nat.add_mul_div_left _ _ hn, Nat.add_mul_mod_self_left, Nat.div_eq_of_lt (by omega), Nat.mod_eq_of_lt (by omega)]
    omega
theorem rd_pad (xs : List Int) (k j : Nat) : rd (xs ++ List.replicate k 0) j = rd xs j := by
  unfold rd
  rw [List.getD_eq_getElem?_getD, List.getD_eq_getElem?_getD]
  by_cases h : j < xs.length
  · rw [List.getElem?_append_left h]
  · rw [List.getElem?_append_right (by omega), List.getElem?_eq_none (show xs.length ≤ j by omega), List.getElem?_replicate]
    split <;> rfl
theorem val_pad (B : Nat) (xs : List Int) (k : Nat) : val B (xs ++ List.replicate k 0) = val B xs := by rw [val_append, val_replicate]; omega
theorem cmp_any {xs ys : List Int} (hx : Dg 4294967296 xs) (hy : Dg 4294967296 ys) {i : Nat} (he : ∀ j, i < j → rd xs j = rd ys j) (hlt : rd xs i < rd ys i) : val 4294967296 xs < val 4294967296 ys := by
  have h := cmp_top (B := 4294967296) (by decide) (xs := xs ++ List.replicate (ys.length + i + 1) 0) (ys := ys ++ List.replicate (xs.length + i + 1) 0)
    (hx.append (Dg.replicate (by decide) _)) (hy.append (Dg.replicate (by decide) _)) (by simp; omega) (i := i) (by simp; omega)
    (fun j hj => by rw [rd_pad, rd_pad]; exact he j hj) (by rw [rd_pad, rd_pad]; exact hlt)
  rwa [val_pad, val_pad] at h
theorem val_any {B : Nat} {xs ys : List Int} (he : ∀ j, 0 ≤ j → rd xs j = rd ys j) : val B xs = val B ys := by
  have h : xs ++ List.replicate ys.length 0 = ys ++ List.replicate xs.length 0 := by
    apply List.ext_getElem (by simp; omega)
    intro j h1 h2
    have := he j (by omega)
    rw [← rd_pad xs ys.length, ← rd_pad ys xs.length] at this
    unfold rd at this
    rw [List.getD_eq_getElem?_getD, List.getD_eq_getElem?_getD, List.getElem?_eq_getElem h1, List.getElem?_eq_getElem h2] at this
    exact this
  have := congrArg (val B) h
  rwa [val_pad, val_pad] at this
end Go.Proofs.YtoiclkaecgpbbaaDoor
