/- Which primes there are plans of. Plain. -/
import Derived.Test.YtoiclkaecgpbbaaDoorNtt8
namespace Go.Proofs.YtoiclkaecgpbbaaDoor

structure OkP (p x0 : Nat) : Prop where
  pm : Pm p
  is : isP p = true
  x2 : 2 ≤ x0
  x64 : x0 < 2 ^ 63
  x : (x0 : Int) ^ ((p - 1) / 2) % p = p - 1
  no : ∀ x, 2 ≤ x → x < x0 → (x : Int) ^ ((p - 1) / 2) % p ≠ p - 1
theorem OkP.ok {p x0 L : Nat} (h : OkP p x0) (hL : L ≤ 10) (hd : (p - 1) % 2 ^ L = 0) : Ok p L x0 := ⟨h.pm, h.is, hL, hd, h.x2, h.x64, h.x, h.no⟩
def okB (p x0 : Nat) : Bool := decide (3 ≤ p) && decide (p < 4611686018427387904) && decide (p % 2 = 1) && isF p && decide (2 ≤ x0) && decide (x0 < 100) && decide (pmF 64 x0 ((p - 1) / 2) p = p - 1) && (List.range x0).all fun x => decide (x < 2) || decide (pmF 64 x ((p - 1) / 2) p ≠ p - 1)
theorem okP_of {p x0 : Nat} (h : okB p x0 = true) : OkP p x0 := by
  unfold okB at h
  simp only [Bool.and_eq_true, decide_eq_true_eq, List.all_eq_true, Bool.or_eq_true] at h
  obtain ⟨⟨⟨⟨⟨⟨⟨h1, h2⟩, h3⟩, h4⟩, h5⟩, h6⟩, h7⟩, h8⟩ := h
  have hE : (p - 1) / 2 < 2 ^ 64 := by omega
  have pw : ∀ a : Nat, (a : Int) ^ ((p - 1) / 2) % (p : Int) = ((pmF 64 a ((p - 1) / 2) p : Nat) : Int) := fun a => by
    rw [← Int.natCast_pow, ← Int.natCast_emod, ← pmF_spec 64 a _ p hE]
  refine ⟨⟨by omega, by omega, by omega⟩, by rw [isF_eq (by omega)]; exact h4, h5, by omega, by rw [pw, h7]; omega, fun x a b => ?_⟩
  rw [pw]
  rcases h8 x (List.mem_range.2 b) with k | k
  · omega
  · omega
def fieldL : List Nat := [17, 97, 193, 257, 769, 12289, 40961, 65537, 998244353, 180143985094819841, 1945555039024054273, 4179340454199820289]
def fieldX : List Nat := [3, 5, 5, 3, 7, 11, 3, 3, 3, 3, 5, 3]
theorem field_ok : ((List.range 12).all fun i => okB (fieldL.getD i 0) (fieldX.getD i 0)) = true := by decide +kernel
theorem field_at (i : Nat) (hi : i < 12) : OkP (fieldL.getD i 0) (fieldX.getD i 0) := okP_of (List.all_eq_true.1 field_ok i (List.mem_range.2 hi))
end Go.Proofs.YtoiclkaecgpbbaaDoor
