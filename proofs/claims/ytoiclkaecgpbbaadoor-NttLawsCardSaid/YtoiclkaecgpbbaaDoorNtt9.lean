/- Transforms: the statements' plans. -/
import Derived.Test.YtoiclkaecgpbbaaDoorOkP
import Derived.Test.YtoiclkaecgpbbaaDoorKeep2
import Derived.Test.YtoiclkaecgpbbaaDoorNtt7
namespace Go.Proofs.YtoiclkaecgpbbaaDoor
open Go.RowKit

theorem results_tmp5 {fn : Func} {a b c d e : Tmp} (h : fn.results = #[.tmp a, .tmp b, .tmp c, .tmp d, .tmp e]) (tmps : Array Value) (P : Program) (w : World) :
    (results fn tmps).run P w = .ok (.tuple #[tmps.getD a undef, tmps.getD b undef, tmps.getD c undef, tmps.getD d undef, tmps.getD e undef]) w := by
  simp [results, h]
theorem fieldL_cell (w : World) (g : Nat) (h : Cs w g [.int .u64 17, .int .u64 97, .int .u64 193, .int .u64 257, .int .u64 769, .int .u64 12289, .int .u64 40961, .int .u64 65537, .int .u64 998244353, .int .u64 180143985094819841, .int .u64 1945555039024054273, .int .u64 4179340454199820289]) (q : Nat) (hq : q < 12) :
    w.cell? ⟨g, q, none⟩ = some (.int .u64 ((fieldL.getD q 0 : Nat) : Int)) := by
  refine h.cell q ?_
  rcases (show q = 0 ∨ q = 1 ∨ q = 2 ∨ q = 3 ∨ q = 4 ∨ q = 5 ∨ q = 6 ∨ q = 7 ∨ q = 8 ∨ q = 9 ∨ q = 10 ∨ q = 11 by omega) with rfl | rfl | rfl | rfl | rfl | rfl | rfl | rfl | rfl | rfl | rfl | rfl <;> rfl
set_option maxRecDepth 100000 in
theorem field_c (w : World) (k : Int) (h : -9223372036854775808 ≤ k ∧ k ≤ 9223372036854775807) :
    Calls Tryd.prog 59 #[.int .i64 k] w fun e w' => ∃ p x0 : Nat, OkP p x0 ∧ e = .returned (.int .u64 p) ∧ w.grownBy w' none := by
  obtain ⟨H1, H2⟩ := h
  go_enter Tryd.func59, Tryd.ntmps59
  go_wp2_with fail
  refine (within_c k 12 (by decide) (by decide) _).mono ?_
  rintro e v4 ⟨rfl, hv4⟩
  subst hv4
  obtain ⟨q, hq⟩ : ∃ q : Nat, (q : Int) = k % 12 := ⟨(k % 12).toNat, by omega⟩
  have hq12 : q < 12 := by omega
  rw [← hq]
  have c := fieldL_cell _ _ (cs_newg w #[.int .u64 17, .int .u64 97, .int .u64 193, .int .u64 257, .int .u64 769, .int .u64 12289, .int .u64 40961, .int .u64 65537, .int .u64 998244353, .int .u64 180143985094819841, .int .u64 1945555039024054273, .int .u64 4179340454199820289] 22 w.heap.size rfl) q hq12
  obtain ⟨x, hx⟩ : ∃ x : Int, x = ((fieldL.getD q 0 : Nat) : Int) := ⟨_, rfl⟩
  rw [← hx] at c
  have HX := Lib.hid hx
  clear hx hq H1 H2
  go_wp2
  go_ret
  exact ⟨_, _, field_at q hq12, by rw [← HX.out]; rfl, gb_alloc (gb_refl w none) _⟩
theorem mt_newg (w : World) (g : Nat) (cs : Array Value) (t : TypeId) (hg : g = w.heap.size) (h0 : cs[0]? = some (.int .i64 0)) (h1 : cs[1]? = some (.int .i64 0)) (h2 : cs[2]? = some (.int .i64 0)) : Mt (w.alloc (.cells cs t)) g 0 0 0 := by
  have C := cs_newg w cs t g hg
  have k0 : cs.toList[0]? = some (.int .i64 0) := by rw [Array.getElem?_toList]; exact h0
  have k1 : cs.toList[1]? = some (.int .i64 0) := by rw [Array.getElem?_toList]; exact h1
  have k2 : cs.toList[2]? = some (.int .i64 0) := by rw [Array.getElem?_toList]; exact h2
  exact ⟨C.cell 0 k0, C.cell 1 k1, C.cell 2 k2, C.free 0 k0, C.free 1 k1, C.free 2 k2, by decide, by decide, by decide⟩
set_option maxRecDepth 100000 in
set_option maxHeartbeats 2000000 in
theorem plan_c (w : World) (k log : Int) (hk : -9223372036854775808 ≤ k ∧ k ≤ 9223372036854775807) (_hl : -9223372036854775808 ≤ log ∧ log ≤ 9223372036854775807) (hd : Db w) :
    Calls Tryd.prog 24 #[.int .i64 k, .int .i64 log] w fun e w' => ∃ t gm p L x0 z, e = .returned (.tuple #[.pointer (some ⟨t, 0, none⟩), .pointer (some ⟨gm, 0, none⟩), .int .u64 (p : Nat), .int .i64 (L : Nat), .bool true]) ∧ Ok p L x0 ∧ L ≤ 5 ∧
      Pl w' t gm p (rootOf p L x0) z L ∧ Mt w' gm 0 0 0 ∧ w.heap.size ≤ gm ∧ w.heap.size ≤ t ∧ w.grownBy w' none := by
  have F := fun w => field_c w k hk
  have HF := Lib.hid F
  have HD := Lib.hid hd
  clear F hk hd
  go_enter Tryd.func24, Tryd.ntmps24
  go_wp2_with fail
  refine (HF.out _).mono ?_
  rintro e w1 ⟨p, x0, O, rfl, g1⟩
  go_wp2_with fail
  refine (within_c log 6 (by decide) (by decide) _).mono ?_
  rintro e v4 ⟨rfl, hv4⟩
  subst hv4
  obtain ⟨q, hq⟩ : ∃ q : Nat, (q : Int) = log % 6 := ⟨(log % 6).toNat, by omega⟩
  have hq5 : q ≤ 5 := by omega
  rw [← hq]
  clear hq _hl
  have plo := O.pm.lo
  have phi := O.pm.hi
  obtain ⟨P, hP⟩ : ∃ P : Int, P = (p : Int) := ⟨_, rfl⟩
  rw [← hP]
  rw [← hP] at plo phi
  have HO := Lib.hid O
  have HP := Lib.hid hP
  have G1 := Lib.hid g1
  clear O hP g1 HF
  obtain ⟨M, hM⟩ : ∃ M : Int, M = P - 1 := ⟨_, rfl⟩
  have em : P - 1 = M := hM.symm
  have bM : 2 ≤ M ∧ M < 4611686018427387904 := by omega
  have HM := Lib.hid hM
  clear hM plo phi
  go_wp2
  go_loopw [1] (fun v1 wr => ∃ (L : Nat), v1 = .int .i64 L ∧ L ≤ 5 ∧ v4.grownBy wr none) (fun v1 _ => (intOf v1).toNat)
  case atStart => exact ⟨q, rfl, hq5, gb_refl _ _⟩
  case round =>
    obtain ⟨L, rfl, hL, G⟩ := hrel
    clear hq5
    obtain ⟨n, hn⟩ : ∃ n, n = 2 ^ L := ⟨_, rfl⟩
    have hn32 : n ≤ 2 ^ 5 := by rw [hn]; exact Nat.pow_le_pow_right (by decide) hL
    have hn0 : 0 < n := by rw [hn]; exact Nat.pow_pos (by decide)
    have en : (2 : Int) ^ L = (n : Int) := by rw [hn, Int.natCast_pow]; rfl
    have hw : IntKind.u64.wrap (2 ^ L) = (n : Int) := by rw [en, IntKind.wrap_u64]; omega
    have hw2 : IntKind.u64.wrap (1 * 2 ^ L) = (n : Int) := by rw [Int.one_mul]; exact hw
    have HN := Lib.hid hn
    have n0 : (n : Int) ≠ 0 := by omega
    obtain ⟨z, hz⟩ : ∃ z, z = M % (n : Int) := ⟨_, rfl⟩
    have hz' := hz.symm
    have HZ := Lib.hid hz
    have z0 : 0 ≤ z := by rw [hz]; exact Int.emod_nonneg _ n0
    clear hn en hz hn0
    by_cases hgo : 0 < L ∧ z ≠ 0
    · obtain ⟨hL0, hz0⟩ := hgo
      have b1 : (z != 0) = true := by simpa using hz0
      have b2 : decide ((L : Int) > 0) = true := decide_eq_true (by omega)
      go_wp2
      clear b1 b2 hz' hw hw2
      go_roundw
      case rel => exact ⟨L - 1, by go_num, by omega, G⟩
      case measure => simp [intOf]; omega
    · have hdv : (p - 1) % 2 ^ L = 0 := by
        by_cases hL0 : L = 0
        · rw [hL0]; exact Nat.mod_one _
        · have hz0 : z = 0 := by
            by_cases e : z = 0
            · exact e
            · exact absurd ⟨by omega, e⟩ hgo
          have h1 := HZ.out
          rw [hz0, HM.out, HP.out] at h1
          rw [← HN.out]
          have e1 := HO.out.pm.lo
          have e : ((p - 1 : Nat) : Int) = (p : Int) - 1 := by omega
          apply Int.ofNat_inj.1
          rw [Int.natCast_emod, e]
          exact h1.symm
      have ok := HO.out.ok (by omega) hdv
      have OK := Lib.hid ok
      clear ok hdv HZ HN
      obtain ⟨wo, rfl⟩ : ∃ wo : World, wo = wr := ⟨_, rfl⟩
      have MM := Lib.hid (mt_newg wo wo.heap.size #[.int .i64 0, .int .i64 0, .int .i64 0] 64 rfl rfl rfl rfl)
      have GA := Lib.hid (gb_alloc (gb_trans G1.out G) (Obj.cells #[.int .i64 0, .int .i64 0, .int .i64 0] 64))
      have HH := Lib.hid (gb_trans G1.out G).size
      clear G
      have hs : wo.heap.size < (wo.alloc (Obj.cells #[.int .i64 0, .int .i64 0, .int .i64 0] 64)).heap.size := by simp
      have N := new_c _ wo.heap.size p L x0 OK.out hs (HD.out.grown0 GA.out)
      rw [← HP.out] at N
      have HN := Lib.hid N
      clear N hs
      by_cases hL0 : 0 < L
      · have hz0 : z = 0 := by
          by_cases e : z = 0
          · exact e
          · exact absurd ⟨hL0, e⟩ hgo
        subst hz0
        clear hgo
        go_wp2_with fail
        refine (HN.out).mono ?_
        rintro e w2 ⟨t, zz, rfl, pl, ht, g2⟩
        go_wp2
        (try simp only [Exit.inBlock, Exit.then])
        refine bodyPost_ret (results_tmp5 rfl _ _ _) rfl ?_
        exact ⟨t, wo.heap.size, p, L, x0, zz, by rw [← HP.out]; rfl, OK.out, hL, by rw [← HP.out]; exact pl, MM.out.grown g2, HH.out, by have := HH.out; simp at ht; omega, gb_trans GA.out g2⟩
      · obtain rfl : L = 0 := by omega
        clear hgo hL0
        go_wp2_with fail
        refine (HN.out).mono ?_
        rintro e w2 ⟨t, zz, rfl, pl, ht, g2⟩
        go_wp2
        (try simp only [Exit.inBlock, Exit.then])
        refine bodyPost_ret (results_tmp5 rfl _ _ _) rfl ?_
        exact ⟨t, wo.heap.size, p, 0, x0, zz, by rw [← HP.out]; rfl, OK.out, hL, by rw [← HP.out]; exact pl, MM.out.grown g2, HH.out, by have := HH.out; simp at ht; omega, gb_trans GA.out g2⟩
end Go.Proofs.YtoiclkaecgpbbaaDoor
