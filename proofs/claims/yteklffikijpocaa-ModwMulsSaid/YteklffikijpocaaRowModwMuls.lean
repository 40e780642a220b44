/- The law 'ModwMuls' returns true for every input: the row out of its walk. -/
import Derived.Test.YteklffikijpocaaRows
import Derived.Test.YteklffikijpocaaLaw06
import Derived.WalkKit
import Derived.ProofKit
import Derived.OpenShut
import Derived.ChangeOld
import Derived.Below
import Derived.SizedLaws
namespace Go.Proofs.Yteklffikijpocaa.modwMuls
open Go.ChangeShapes Go.WideShapes Go.ChangeAt Go.RowKit
set_option linter.unusedVariables false
theorem own : ownKnob Try.prog.godebug = none := by kernel_rfl
theorem laidOut : laidOutB Try.prog = true := by kernel_rfl
set_option maxRecDepth 100000 in
theorem lifted (os : Os) (started : os.Started) (H : Type) (enc : TypeId × Value → H) :
    ReturnsInHanded {} Try.checked os 12 .any (Rows.modwMulsSpec.pre6 enc Try.prog Try.f12 Rows.modwMulsRow.domain false) (Rows.modwMulsSpec.post enc Try.prog Try.f12 false true false false) := by
  refine returnsInHanded_of_change_sized (C := Try.checked) own started (by kernel_rfl) Try.func12
    (ChangeSpec.witness6 (enc := enc) (C := Try.checked) false ⟨#[], #[.int .u64 0, .int .u64 0, .int .u64 0, .int .u64 0, .slice none 0 0], []⟩ 8 (by kernel_rfl) (by kernel_rfl) (by kernel_rfl) (by kernel_rfl)) ?_
  intro W base args ds gs before hval0 hW hcnd hsz0 _
  have hval : ∀ (j : Nat) t v, Try.f12.params[j]? = some t → args[j]? = some v → Value.okWide Try.prog W .any base t v := hval0
  have hW' := hW
  obtain ⟨p, q, hA0, hV, rfl, hfz, hnd⟩ := hW
  have hA : DataW.TrodAll enc Try.prog W 0 (fun _ => true) true Try.f12.params.toList args.toList ds p := hA0
  rw [Try.params12] at hA hval
  obtain ⟨v0, vs0, d0, ds0, p0, q0, hargs, rfl, rfl, h0, r0⟩ := trodAll_cons hA
  obtain ⟨v1, vs1, d1, ds1, p1, q1, rfl, rfl, rfl, h1, r1⟩ := trodAll_cons r0
  obtain ⟨v2, vs2, d2, ds2, p2, q2, rfl, rfl, rfl, h2, r2⟩ := trodAll_cons r1
  obtain ⟨v3, vs3, d3, ds3, p3, q3, rfl, rfl, rfl, h3, r3⟩ := trodAll_cons r2
  obtain ⟨v4, vs4, d4, ds4, p4, q4, rfl, rfl, rfl, h4, r4⟩ := trodAll_cons r3
  obtain ⟨rfl, rfl, rfl⟩ := trodAll_nil r4
  obtain rfl : args = #[v0, v1, v2, v3, v4] := by cases args; simp_all
  obtain ⟨rfl, rfl⟩ := trodVars_none hV
  obtain ⟨a0, rfl, rfl, rfl, w0⟩ := open_int Try.underlying41 (hval 0 41 v0 rfl rfl) h0
  have y0 := wf_u64 w0
  obtain ⟨a1, rfl, rfl, rfl, w1⟩ := open_int Try.underlying41 (hval 1 41 v1 rfl rfl) h1
  have y1 := wf_u64 w1
  obtain ⟨a2, rfl, rfl, rfl, w2⟩ := open_int Try.underlying41 (hval 2 41 v2 rfl rfl) h2
  have y2 := wf_u64 w2
  obtain ⟨a3, rfl, rfl, rfl, w3⟩ := open_int Try.underlying41 (hval 3 41 v3 rfl rfl) h3
  have y3 := wf_u64 w3
  obtain ⟨a4, len4, cap4, rfl⟩ := okWide_slice Try.underlying38 (hval 4 38 v4 rfl rfl)
  have k4 := h4
  have lt4 : ∀ x ∈ p4, x.block < W.heap.size := by obtain ⟨m, hm⟩ := k4; exact DataW.trod_lt m _ _ _ hm
  obtain ⟨z4, w4⟩ : ∃ zs, Sl W (.slice a4 len4 cap4) zs := by
    obtain ⟨fuel, hf⟩ := h4
    rcases open_ints Try.underlying38 Try.underlying41 (by kernel_rfl) hf with ⟨hcs, _⟩ | ⟨x, l, c, zs, hcs, _, hl, hm, hz, _, hcell, hwz⟩
    · simp [Value.cells] at hcs
      obtain ⟨rfl, rfl, rfl⟩ := hcs
      exact ⟨[], sl_none _⟩
    · simp [Value.cells] at hcs
      obtain ⟨rfl, rfl, rfl⟩ := hcs
      exact ⟨zs.take len4, sl_of_cells hl hm (by simpa using hz) hcell hwz⟩
  clear hA0 hval0 hsz0
  refine (ModwMuls_walk a0 a1 a2 a3 a4 len4 cap4 z4 W y0 y1 y2 y3 w4).mono fun e W' ⟨he, bel⟩ => ?_
  subst he
  exact ⟨_, rfl, _, _, _, [], _, [], hW', trodAll_mk1 (shut_bool Try.underlying4 _), (trodAll_cons_mk (shut_int Try.underlying41 w0) (trodAll_cons_mk (shut_int Try.underlying41 w1) (trodAll_cons_mk (shut_int Try.underlying41 w2) (trodAll_cons_mk (shut_int Try.underlying41 w3) (trodAll_cons_mk (Below.trod laidOut (by kernel_rfl) (of_decide_eq_true (by kernel_rfl)) k4 (gb_below bel) lt4) trodAll_mk0))))), rfl, (gb_below bel).frame _, fun h => by cases h⟩
theorem over : Rows.modwMulsRow.holds Try.pinned (OpenSpec.ofChange Rows.modwMulsSpec) :=
  OpenClaim.holds_of_wide 12 Try.f12 rfl rfl rfl rfl rfl rfl rfl ⟨rfl, rfl, rfl, rfl, rfl⟩ rfl rfl rfl rfl rfl (by kernel_rfl) Try.func12 (by kernel_rfl)
    (of_decide_eq_true (by kernel_rfl)) (by unfold Func.isWrapper; first | (rw [if_pos (by decide +kernel)]; kernel_rfl) | (rw [if_neg (by decide +kernel)]; exact ⟨rfl, rfl⟩))
    (fun os started H enc _ => lifted os started H enc)
theorem proved : Rows.ModwMulsSaid := over
#print axioms proved
end Go.Proofs.Yteklffikijpocaa.modwMuls
namespace Go.Proofs.Yteklffikijpocaa
/-- The row, under a short name, for the claim. -/
theorem modwMuls_holds : Rows.ModwMulsSaid := modwMuls.proved
end Go.Proofs.Yteklffikijpocaa
