/- The document's three primes. -/
import Derived.Test.YtoiclkaecgpbbaaDoorConv2
namespace Go.Proofs.YtoiclkaecgpbbaaDoor
open Go.RowKit

set_option maxRecDepth 100000 in
theorem refThree_c (w : World) (p0 p1 p2 : Int) (h0 : p0 = 180143985094819841) (h1 : p1 = 1945555039024054273) (h2 : p2 = 4179340454199820289) :
    Calls Tryd.prog 21 #[] w fun e w' => e = .returned (.agg #[.int .u64 p0, .int .u64 p1, .int .u64 p2]) ∧ w.grownBy w' none := by
  go_enter Tryd.func21, Tryd.ntmps21
  go_wp2
  (try simp only [Exit.inBlock, Exit.then])
  rw [← h0, ← h1, ← h2]
  refine bodyPost_ret (res_agg rfl (cs_new _ _ _) rfl (by kernel_rfl) (by kernel_rfl)) rfl ?_
  exact ⟨rfl, gb_alloc (gb_refl _ _) _⟩
end Go.Proofs.YtoiclkaecgpbbaaDoor
