/- Words: Add64, Sub64, Mul64, Len64, LeadingZeros64. -/
import Derived.Test.YtoiclkaecgpbbaaDoorMem
import Derived.Lib.Mul64
import Derived.Laws.Externs
namespace Go.Proofs.YtoiclkaecgpbbaaDoor
open Go.RowKit

/-! ### Add64 and Sub64: the model's own entries -/
theorem add64_run (x y c : Int) (hx : 0 ≤ x) (hy : 0 ≤ y) (hc0 : 0 ≤ c) (hc : c ≤ 1) (w : World) :
    (callFunc 88 #[.int .u64 x, .int .u64 y, .int .u64 c]).run Tryd.prog w =
      .ok (.value (.tuple #[.int .u64 ((x + y + c) % 18446744073709551616), .int .u64 ((x + y + c) / 18446744073709551616)])) w := by
  rw [run_callFunc_extern Tryd.func88 (by kernel_rfl) (by kernel_rfl) (by kernel_rfl) (e := add64Entry) (by kernel_rfl), run_add64 x y c hx hy hc0 hc]
  rfl

theorem nat_of {x : Int} (h : 0 ≤ x) : ∃ n : Nat, x = (n : Int) := Int.eq_ofNat_of_zero_le h
theorem maskN (a : Nat) (ha : a < 18446744073709551616) : bits .and .u64 (a : Int) 4294967295 = ((a % 4294967296 : Nat) : Int) := by
  have h := bits_and_u64_nat a 4294967295 ha (by omega)
  have e : a &&& 4294967295 = a % 4294967296 := Nat.and_two_pow_sub_one_eq_mod a 32
  rw [e] at h
  exact h
theorem div32N (a : Nat) : (a : Int) / 4294967296 = ((a / 4294967296 : Nat) : Int) := by omega
theorem mulN (a b : Nat) : (a : Int) * (b : Int) = ((a * b : Nat) : Int) := (Int.natCast_mul a b).symm
theorem addN (a b : Nat) : (a : Int) + (b : Int) = ((a + b : Nat) : Int) := (Int.natCast_add a b).symm
theorem divN (a b : Nat) : (a : Int) / (b : Int) = ((a / b : Nat) : Int) := (Int.natCast_ediv a b).symm
theorem modN (a b : Nat) : (a : Int) % (b : Int) = ((a % b : Nat) : Int) := (Int.natCast_emod a b).symm
theorem wrapN (a : Nat) (ha : a < 18446744073709551616) : IntKind.u64.wrap (a : Int) = (a : Int) := by rw [IntKind.wrap_u64]; omega
theorem wrapM (a : Nat) : IntKind.u64.wrap (a : Int) = ((a % 18446744073709551616 : Nat) : Int) := by rw [IntKind.wrap_u64]; omega

theorem mul64_c (a b : Int) (ha : 0 ≤ a) (ha' : a < 18446744073709551616) (hb : 0 ≤ b) (hb' : b < 18446744073709551616) (w : World) :
    Calls Tryd.prog 78 #[.int .u64 a, .int .u64 b] w fun e w' => e = .returned (.tuple #[.int .u64 (a * b / 18446744073709551616), .int .u64 (a * b % 18446744073709551616)]) ∧ w' = w := by
  obtain ⟨x, rfl⟩ := nat_of ha
  obtain ⟨y, rfl⟩ := nat_of hb
  obtain ⟨bd, bt, bw, hhi⟩ := Lib.mul64_hi x y (by omega) (by omega)
  have ba := Lib.half_mul_le (a := x / 4294967296) (b := y / 4294967296) (by omega) (by omega)
  have bb := Lib.half_mul_le (a := x / 4294967296) (b := y % 4294967296) (by omega) (by omega)
  have bc := Lib.half_mul_le (a := x % 4294967296) (b := y / 4294967296) (by omega) (by omega)
  have ba' : x / 4294967296 * (y / 4294967296) < 18446744073709551616 := by omega
  have bb' : x / 4294967296 * (y % 4294967296) < 18446744073709551616 := by omega
  have bc' : x % 4294967296 * (y / 4294967296) < 18446744073709551616 := by omega
  have hx : x < 18446744073709551616 := by omega
  have hy : y < 18446744073709551616 := by omega
  have bh1 : x / 4294967296 * (y / 4294967296) + (x / 4294967296 * (y % 4294967296) + x % 4294967296 * (y % 4294967296) / 4294967296) / 4294967296 < 18446744073709551616 := by omega
  have hlt : x * y / 18446744073709551616 < 18446744073709551616 := by
    rw [Nat.div_lt_iff_lt_mul (by decide)]
    exact Nat.lt_of_le_of_lt (Nat.mul_le_mul (show x ≤ 18446744073709551615 by omega) (show y ≤ 18446744073709551615 by omega)) (by decide)
  clear ha ha' hb hb'
  go_enter Tryd.func78, Tryd.ntmps78
  go_wp2
  simp only [maskN x hx, maskN y hy, div32N, mulN, addN, wrapN _ bd, wrapN _ bb', wrapN _ bt, maskN _ bt, wrapN _ bc', wrapN _ bw, wrapN _ ba', wrapN _ bh1]
  rw [hhi, wrapM (x * y)]
  obtain ⟨q, hq⟩ : ∃ q, q = x * y / 18446744073709551616 := ⟨_, rfl⟩
  obtain ⟨r, hr⟩ : ∃ r, r = x * y % 18446744073709551616 := ⟨_, rfl⟩
  rw [← hq] at hlt ⊢
  rw [← hr, wrapN q hlt]
  have Hq := Lib.hid hq
  have Hr := Lib.hid hr
  clear hq hr hlt hx hy bd bt bw hhi ba bb bc ba' bb' bc' bh1
  go_ret2
  refine ⟨?_, rfl⟩
  rw [Hq.out, Hr.out]
  rfl

def blen (x : Nat) : Nat := if x = 0 then 0 else Nat.log2 x + 1
def len8 : ByteArray := ⟨#[0, 1, 2, 2, 3, 3, 3, 3, 4, 4, 4, 4, 4, 4, 4, 4, 5, 5, 5, 5, 5, 5, 5, 5, 5, 5, 5, 5, 5, 5, 5, 5, 6, 6, 6, 6, 6, 6, 6, 6, 6, 6, 6, 6, 6, 6, 6, 6, 6, 6, 6, 6, 6, 6, 6, 6, 6, 6, 6, 6, 6, 6, 6, 6, 7, 7, 7, 7, 7, 7, 7, 7, 7, 7, 7, 7, 7, 7, 7, 7, 7, 7, 7, 7, 7, 7, 7, 7, 7, 7, 7, 7, 7, 7, 7, 7, 7, 7, 7, 7, 7, 7, 7, 7, 7, 7, 7, 7, 7, 7, 7, 7, 7, 7, 7, 7, 7, 7, 7, 7, 7, 7, 7, 7, 7, 7, 7, 7, 8, 8, 8, 8, 8, 8, 8, 8, 8, 8, 8, 8, 8, 8, 8, 8, 8, 8, 8, 8, 8, 8, 8, 8, 8, 8, 8, 8, 8, 8, 8, 8, 8, 8, 8, 8, 8, 8, 8, 8, 8, 8, 8, 8, 8, 8, 8, 8, 8, 8, 8, 8, 8, 8, 8, 8, 8, 8, 8, 8, 8, 8, 8, 8, 8, 8, 8, 8, 8, 8, 8, 8, 8, 8, 8, 8, 8, 8, 8, 8, 8, 8, 8, 8, 8, 8, 8, 8, 8, 8, 8, 8, 8, 8, 8, 8, 8, 8, 8, 8, 8, 8, 8, 8, 8, 8, 8, 8, 8, 8, 8, 8, 8, 8, 8, 8, 8, 8, 8, 8, 8, 8, 8, 8, 8, 8, 8, 8]⟩
theorem len8_size : len8.size = 256 := by decide +kernel
theorem len8_get (x : Nat) (h : x < len8.size) : (len8[x]'h).toNat = blen x := by
  have H : ∀ x : Fin 256, (len8.data.toList.getD x.val 0).toNat = blen x.val := by decide +kernel
  have h' : x < 256 := by rw [len8_size] at h; exact h
  have := H ⟨x, h'⟩
  simp only at this
  rw [← this, List.getD_eq_getElem?_getD]
  have h2 : x < len8.data.toList.length := h
  rw [List.getElem?_eq_getElem h2]
  rfl
theorem blen_div (k x : Nat) (h : 2 ^ k ≤ x) : blen x = blen (x / 2 ^ k) + k := by
  have h1 : 0 < x / 2 ^ k := Nat.div_pos h (Nat.two_pow_pos k)
  have h2 : 0 < x := Nat.lt_of_lt_of_le (Nat.two_pow_pos k) h
  unfold blen
  rw [if_neg (by omega), if_neg (by omega)]
  have : Nat.log2 x = Nat.log2 (x / 2 ^ k) + k := by
    rw [Nat.log2_eq_iff (by omega)]
    have hh := (Nat.log2_eq_iff (n := x / 2 ^ k) (k := Nat.log2 (x / 2 ^ k)) (by omega)).1 rfl
    rw [Nat.pow_add, Nat.add_right_comm, Nat.pow_add]
    refine ⟨?_, ?_⟩
    · exact (Nat.le_div_iff_mul_le (Nat.two_pow_pos k)).1 hh.1
    · exact (Nat.div_lt_iff_lt_mul (Nat.two_pow_pos k)).1 hh.2
  omega
theorem blen_le (x : Nat) (k : Nat) (h : x < 2 ^ k) : blen x ≤ k := by
  unfold blen
  split
  · omega
  · rename_i h0
    have := (Nat.log2_lt h0).2 h
    omega
theorem wrap_len (x : Nat) (h : x < len8.size) : wrap64 (((len8[x]'h).toNat : Nat) : Int) = (blen x : Nat) := by
  rw [len8_get x h]
  have := blen_le x 8 (by rw [len8_size] at h; omega)
  unfold wrap64; omega
set_option maxRecDepth 100000 in
theorem len64_0 (a : Int) (ha : 0 ≤ a) (ha' : a < 256) (w : World) :
    Calls Tryd.prog 69 #[.int .u64 a] w fun e w' => e = .returned (.int .i64 (blen a.toNat)) ∧ w' = w := by
  have hx : (a).toNat < len8.size := by rw [len8_size]; omega
  have hb : (blen (a).toNat : Int) + 0 = blen a.toNat := by
    rfl
  have hl := blen_le (a).toNat 8 (by rw [len8_size] at hx; omega)
  have h0 : 0 ≤ a := by omega
  have h1 : a < 256 := by omega
  have Hb := Lib.hid hb
  have Hx := Lib.hid hx
  have Hl := Lib.hid hl
  clear hb hx hl
  go_enter Tryd.func69, Tryd.ntmps69
  go_wp2
  go_ret
  refine ⟨?_, rfl⟩
  rw [← Hb.out]
  show Ending.returned (.int .i64 (wrap64 (wrap64 (((len8[(a).toNat]'Hx.out).toNat : Nat) : Int)))) = _
  rw [wrap_len]
  have := Hl.out
  congr 2
  unfold wrap64
  omega
set_option maxRecDepth 100000 in
theorem len64_8 (a : Int) (ha : 256 ≤ a) (ha' : a < 65536) (w : World) :
    Calls Tryd.prog 69 #[.int .u64 a] w fun e w' => e = .returned (.int .i64 (blen a.toNat)) ∧ w' = w := by
  have hx : (a / 256).toNat < len8.size := by rw [len8_size]; omega
  have hb : (blen (a / 256).toNat : Int) + 8 = blen a.toNat := by
    rw [blen_div 8 a.toNat (by omega), show a.toNat / 2 ^ 8 = (a / 256).toNat by omega]; rfl
  have hl := blen_le (a / 256).toNat 8 (by rw [len8_size] at hx; omega)
  have h0 : 0 ≤ a / 256 := by omega
  have h1 : a / 256 < 256 := by omega
  have Hb := Lib.hid hb
  have Hx := Lib.hid hx
  have Hl := Lib.hid hl
  clear hb hx hl
  go_enter Tryd.func69, Tryd.ntmps69
  go_wp2
  go_ret
  refine ⟨?_, rfl⟩
  rw [← Hb.out]
  show Ending.returned (.int .i64 (wrap64 (8 + wrap64 (((len8[(a / 256).toNat]'Hx.out).toNat : Nat) : Int)))) = _
  rw [wrap_len]
  have := Hl.out
  congr 2
  unfold wrap64
  omega
set_option maxRecDepth 100000 in
theorem len64_16 (a : Int) (ha : 65536 ≤ a) (ha' : a < 16777216) (w : World) :
    Calls Tryd.prog 69 #[.int .u64 a] w fun e w' => e = .returned (.int .i64 (blen a.toNat)) ∧ w' = w := by
  have hx : (a / 65536).toNat < len8.size := by rw [len8_size]; omega
  have hb : (blen (a / 65536).toNat : Int) + 16 = blen a.toNat := by
    rw [blen_div 16 a.toNat (by omega), show a.toNat / 2 ^ 16 = (a / 65536).toNat by omega]; rfl
  have hl := blen_le (a / 65536).toNat 8 (by rw [len8_size] at hx; omega)
  have h0 : 0 ≤ a / 65536 := by omega
  have h1 : a / 65536 < 256 := by omega
  have Hb := Lib.hid hb
  have Hx := Lib.hid hx
  have Hl := Lib.hid hl
  clear hb hx hl
  go_enter Tryd.func69, Tryd.ntmps69
  go_wp2
  go_ret
  refine ⟨?_, rfl⟩
  rw [← Hb.out]
  show Ending.returned (.int .i64 (wrap64 (16 + wrap64 (((len8[(a / 65536).toNat]'Hx.out).toNat : Nat) : Int)))) = _
  rw [wrap_len]
  have := Hl.out
  congr 2
  unfold wrap64
  omega
set_option maxRecDepth 100000 in
theorem len64_24 (a : Int) (ha : 16777216 ≤ a) (ha' : a < 4294967296) (w : World) :
    Calls Tryd.prog 69 #[.int .u64 a] w fun e w' => e = .returned (.int .i64 (blen a.toNat)) ∧ w' = w := by
  have hx : (a / 65536 / 256).toNat < len8.size := by rw [len8_size]; omega
  have hb : (blen (a / 65536 / 256).toNat : Int) + 24 = blen a.toNat := by
    rw [blen_div 24 a.toNat (by omega), show a.toNat / 2 ^ 24 = (a / 65536 / 256).toNat by omega]; rfl
  have hl := blen_le (a / 65536 / 256).toNat 8 (by rw [len8_size] at hx; omega)
  have h0 : 0 ≤ a / 65536 / 256 := by omega
  have h1 : a / 65536 / 256 < 256 := by omega
  have Hb := Lib.hid hb
  have Hx := Lib.hid hx
  have Hl := Lib.hid hl
  clear hb hx hl
  go_enter Tryd.func69, Tryd.ntmps69
  go_wp2
  go_ret
  refine ⟨?_, rfl⟩
  rw [← Hb.out]
  show Ending.returned (.int .i64 (wrap64 (24 + wrap64 (((len8[(a / 65536 / 256).toNat]'Hx.out).toNat : Nat) : Int)))) = _
  rw [wrap_len]
  have := Hl.out
  congr 2
  unfold wrap64
  omega
set_option maxRecDepth 100000 in
theorem len64_32 (a : Int) (ha : 4294967296 ≤ a) (ha' : a < 1099511627776) (w : World) :
    Calls Tryd.prog 69 #[.int .u64 a] w fun e w' => e = .returned (.int .i64 (blen a.toNat)) ∧ w' = w := by
  have hx : (a / 4294967296).toNat < len8.size := by rw [len8_size]; omega
  have hb : (blen (a / 4294967296).toNat : Int) + 32 = blen a.toNat := by
    rw [blen_div 32 a.toNat (by omega), show a.toNat / 2 ^ 32 = (a / 4294967296).toNat by omega]; rfl
  have hl := blen_le (a / 4294967296).toNat 8 (by rw [len8_size] at hx; omega)
  have h0 : 0 ≤ a / 4294967296 := by omega
  have h1 : a / 4294967296 < 256 := by omega
  have Hb := Lib.hid hb
  have Hx := Lib.hid hx
  have Hl := Lib.hid hl
  clear hb hx hl
  go_enter Tryd.func69, Tryd.ntmps69
  go_wp2
  go_ret
  refine ⟨?_, rfl⟩
  rw [← Hb.out]
  show Ending.returned (.int .i64 (wrap64 (32 + wrap64 (((len8[(a / 4294967296).toNat]'Hx.out).toNat : Nat) : Int)))) = _
  rw [wrap_len]
  have := Hl.out
  congr 2
  unfold wrap64
  omega
set_option maxRecDepth 100000 in
theorem len64_40 (a : Int) (ha : 1099511627776 ≤ a) (ha' : a < 281474976710656) (w : World) :
    Calls Tryd.prog 69 #[.int .u64 a] w fun e w' => e = .returned (.int .i64 (blen a.toNat)) ∧ w' = w := by
  have hx : (a / 4294967296 / 256).toNat < len8.size := by rw [len8_size]; omega
  have hb : (blen (a / 4294967296 / 256).toNat : Int) + 40 = blen a.toNat := by
    rw [blen_div 40 a.toNat (by omega), show a.toNat / 2 ^ 40 = (a / 4294967296 / 256).toNat by omega]; rfl
  have hl := blen_le (a / 4294967296 / 256).toNat 8 (by rw [len8_size] at hx; omega)
  have h0 : 0 ≤ a / 4294967296 / 256 := by omega
  have h1 : a / 4294967296 / 256 < 256 := by omega
  have Hb := Lib.hid hb
  have Hx := Lib.hid hx
  have Hl := Lib.hid hl
  clear hb hx hl
  go_enter Tryd.func69, Tryd.ntmps69
  go_wp2
  go_ret
  refine ⟨?_, rfl⟩
  rw [← Hb.out]
  show Ending.returned (.int .i64 (wrap64 (40 + wrap64 (((len8[(a / 4294967296 / 256).toNat]'Hx.out).toNat : Nat) : Int)))) = _
  rw [wrap_len]
  have := Hl.out
  congr 2
  unfold wrap64
  omega
set_option maxRecDepth 100000 in
theorem len64_48 (a : Int) (ha : 281474976710656 ≤ a) (ha' : a < 72057594037927936) (w : World) :
    Calls Tryd.prog 69 #[.int .u64 a] w fun e w' => e = .returned (.int .i64 (blen a.toNat)) ∧ w' = w := by
  have hx : (a / 4294967296 / 65536).toNat < len8.size := by rw [len8_size]; omega
  have hb : (blen (a / 4294967296 / 65536).toNat : Int) + 48 = blen a.toNat := by
    rw [blen_div 48 a.toNat (by omega), show a.toNat / 2 ^ 48 = (a / 4294967296 / 65536).toNat by omega]; rfl
  have hl := blen_le (a / 4294967296 / 65536).toNat 8 (by rw [len8_size] at hx; omega)
  have h0 : 0 ≤ a / 4294967296 / 65536 := by omega
  have h1 : a / 4294967296 / 65536 < 256 := by omega
  have Hb := Lib.hid hb
  have Hx := Lib.hid hx
  have Hl := Lib.hid hl
  clear hb hx hl
  go_enter Tryd.func69, Tryd.ntmps69
  go_wp2
  go_ret
  refine ⟨?_, rfl⟩
  rw [← Hb.out]
  show Ending.returned (.int .i64 (wrap64 (48 + wrap64 (((len8[(a / 4294967296 / 65536).toNat]'Hx.out).toNat : Nat) : Int)))) = _
  rw [wrap_len]
  have := Hl.out
  congr 2
  unfold wrap64
  omega
set_option maxRecDepth 100000 in
theorem len64_56 (a : Int) (ha : 72057594037927936 ≤ a) (ha' : a < 18446744073709551616) (w : World) :
    Calls Tryd.prog 69 #[.int .u64 a] w fun e w' => e = .returned (.int .i64 (blen a.toNat)) ∧ w' = w := by
  have hx : (a / 4294967296 / 65536 / 256).toNat < len8.size := by rw [len8_size]; omega
  have hb : (blen (a / 4294967296 / 65536 / 256).toNat : Int) + 56 = blen a.toNat := by
    rw [blen_div 56 a.toNat (by omega), show a.toNat / 2 ^ 56 = (a / 4294967296 / 65536 / 256).toNat by omega]; rfl
  have hl := blen_le (a / 4294967296 / 65536 / 256).toNat 8 (by rw [len8_size] at hx; omega)
  have h0 : 0 ≤ a / 4294967296 / 65536 / 256 := by omega
  have h1 : a / 4294967296 / 65536 / 256 < 256 := by omega
  have Hb := Lib.hid hb
  have Hx := Lib.hid hx
  have Hl := Lib.hid hl
  clear hb hx hl
  go_enter Tryd.func69, Tryd.ntmps69
  go_wp2
  go_ret
  refine ⟨?_, rfl⟩
  rw [← Hb.out]
  show Ending.returned (.int .i64 (wrap64 (56 + wrap64 (((len8[(a / 4294967296 / 65536 / 256).toNat]'Hx.out).toNat : Nat) : Int)))) = _
  rw [wrap_len]
  have := Hl.out
  congr 2
  unfold wrap64
  omega
theorem len64_c (a : Int) (ha : 0 ≤ a) (ha' : a < 18446744073709551616) (w : World) :
    Calls Tryd.prog 69 #[.int .u64 a] w fun e w' => e = .returned (.int .i64 (blen a.toNat)) ∧ w' = w := by
  by_cases h0 : a < 256
  · exact len64_0 a (by omega) h0 w
  by_cases h8 : a < 65536
  · exact len64_8 a (by omega) h8 w
  by_cases h16 : a < 16777216
  · exact len64_16 a (by omega) h16 w
  by_cases h24 : a < 4294967296
  · exact len64_24 a (by omega) h24 w
  by_cases h32 : a < 1099511627776
  · exact len64_32 a (by omega) h32 w
  by_cases h40 : a < 281474976710656
  · exact len64_40 a (by omega) h40 w
  by_cases h48 : a < 72057594037927936
  · exact len64_48 a (by omega) h48 w
  exact len64_56 a (by omega) ha' w
theorem lz64_c (a : Int) (ha : 0 ≤ a) (ha' : a < 18446744073709551616) (w : World) :
    Calls Tryd.prog 92 #[.int .u64 a] w fun e w' => e = .returned (.int .i64 (64 - (blen a.toNat : Int))) ∧ w' = w := by
  have hl := blen_le a.toNat 64 (by omega)
  have h1 : IntKind.i64.wrap (64 - (blen a.toNat : Int)) = 64 - (blen a.toNat : Int) := by rw [IntKind.wrap_i64]; omega
  have h2 : wrap64 (64 - (blen a.toNat : Int)) = 64 - (blen a.toNat : Int) := by unfold wrap64; omega
  have H1 := Lib.hid h1
  have H2 := Lib.hid h2
  clear h1 h2
  go_enter Tryd.func92, Tryd.ntmps92
  go_wp2_with (go_at_call 69; refine (len64_c _ ha ha' _).mono ?_; rintro e w' ⟨rfl, rfl⟩)
  go_ret
  exact ⟨by first | rfl | (rw [H2.out]; rfl) | simp [H2.out], rfl⟩
end Go.Proofs.YtoiclkaecgpbbaaDoor
