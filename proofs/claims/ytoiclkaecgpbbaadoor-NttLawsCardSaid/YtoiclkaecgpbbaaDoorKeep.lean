/- The statements' helps. -/
import Derived.Test.YtoiclkaecgpbbaaDoorCs
namespace Go.Proofs.YtoiclkaecgpbbaaDoor
open Go.RowKit

theorem Sl.take {w : World} {A : Option Addr} {n c : Nat} {xs : List Int} (h : Sl w (.slice A n c) xs) (k : Nat) (hk : k ≤ n) : Sl w (.slice A k c) (xs.take k) := by
  obtain ⟨A', c', e, h1, h2, h3, h4⟩ := h
  simp only [Value.slice.injEq] at e
  obtain ⟨rfl, rfl, rfl⟩ := e
  have hl : (xs.take k).length = k := by rw [List.length_take]; omega
  refine ⟨A, c, by rw [hl], by omega, h2, ws_take h3 k, fun hn => ?_⟩
  rw [hl] at hn
  obtain ⟨b, o, hA, hc⟩ := h4 (by omega)
  refine ⟨b, o, hA, fun j hj => ?_⟩
  rw [hl] at hj
  rw [hc j (by omega)]
  congr 2
  unfold rd
  rw [List.getD_eq_getElem?_getD, List.getD_eq_getElem?_getD, List.getElem?_take_of_lt hj]
theorem Sl.form {w : World} {v : Value} {xs : List Int} (h : Sl w v xs) : ∃ A c, v = .slice A xs.length c ∧ xs.length ≤ c ∧ c ≤ 9223372036854775807 := by
  obtain ⟨A, c, e, h1, h2, _⟩ := h
  exact ⟨A, c, e, h1, h2⟩
theorem cut_c (w : World) (v : Value) (xs : List Int) (n : Nat) (hn : n ≤ 1000000) (h : Sl w v xs) :
    Calls Tryd.prog 40 #[v, .int .i64 n] w fun e w' => ∃ u, e = .returned u ∧ Sl w u (xs.take n) ∧ w' = w := by
  obtain ⟨A, c, rfl, h1, h2⟩ := h.form
  obtain ⟨m, hm⟩ : ∃ m, m = xs.length := ⟨_, rfl⟩
  rw [← hm] at h1 h
  have H := Lib.hid h
  have HM := Lib.hid hm
  rw [← hm]
  clear h hm
  by_cases hle : n < m
  · have ht := H.out.take n (by omega)
    have HT := Lib.hid ht
    clear ht
    go_enter Tryd.func40, Tryd.ntmps40
    go_wp2
    go_ret
    exact ⟨_, rfl, HT.out, rfl⟩
  · have ht : xs.take n = xs := List.take_of_length_le (by rw [← HM.out]; omega)
    rw [ht]
    clear ht
    go_enter Tryd.func40, Tryd.ntmps40
    go_wp2 <;> (go_ret; exact ⟨_, rfl, H.out, rfl⟩)
theorem same_step {xs ys : List Int} {k : Nat} (h : ∀ j, j < k → rd xs j = rd ys j) (hk : rd xs k = rd ys k) : ∀ j, j < k + 1 → rd xs j = rd ys j := fun j hj => by
  by_cases e : j = k
  · rw [e]; exact hk
  · exact h j (by omega)
theorem rd_ext {xs ys : List Int} (hl : xs.length = ys.length) (h : ∀ j, j < xs.length → rd xs j = rd ys j) : xs = ys := by
  apply List.ext_getElem hl
  intro i h1 h2
  have := h i h1
  simpa [rd, List.getD_eq_getElem?_getD, h1, h2] using this
theorem same_c (w : World) (u v : Value) (xs ys : List Int) (h : Sl w u xs) (k : Sl w v ys) :
    Calls Tryd.prog 29 #[u, v] w fun e w' => e = .returned (.bool (decide (xs = ys))) ∧ w.grownBy w' none := by
  obtain ⟨A, c, rfl, h1, h2, h3, h4⟩ := h
  obtain ⟨B, d, rfl, k1, k2, k3, k4⟩ := k
  obtain ⟨m, hm⟩ : ∃ m, m = xs.length := ⟨_, rfl⟩
  obtain ⟨n, hn⟩ : ∃ n, n = ys.length := ⟨_, rfl⟩
  rw [← hm] at h1 h4 ⊢
  rw [← hn] at k1 k4 ⊢
  have HM := Lib.hid hm
  have HN := Lib.hid hn
  clear hm hn
  by_cases hmn : m = n
  · subst hmn
    obtain ⟨r, hr⟩ : ∃ r, r = decide (xs = ys) := ⟨_, rfl⟩
    rw [← hr]
    have HR := Lib.hid hr
    clear hr
    go_enter Tryd.func29, Tryd.ntmps29
    go_wp2
    go_loopw [5] (fun v5 wr => ∃ i : Nat, v5 = .int .i64 i ∧ i ≤ m ∧ (∀ j, j < i → rd xs j = rd ys j) ∧ w.grownBy wr none) (fun v5 _ => m - (intOf v5).toNat)
    case atStart => exact ⟨0, rfl, by omega, fun j hj => absurd hj (by omega), gb_refl _ _⟩
    case round =>
      obtain ⟨i, rfl, hi, hj, G⟩ := hrel
      have HJ := Lib.hid hj
      clear hj
      by_cases hlt : i < m
      · obtain ⟨b, o, rfl, hc⟩ := h4 (by omega)
        obtain ⟨b', o', rfl, hc'⟩ := k4 (by omega)
        have c1 := gb_cell0 G (hc i hlt)
        have c2 := gb_cell0 G (hc' i hlt)
        by_cases he : rd xs i = rd ys i
        · obtain ⟨z, hz⟩ : ∃ z, z = rd xs i := ⟨_, rfl⟩
          rw [← hz] at c1
          rw [← he, ← hz] at c2
          have HE := Lib.hid he
          clear hc hc' he hz h4 k4
          go_wp2
          refine Canon.region_canon (by kernel_rfl) (by kernel_rfl) ?_
          go_wp2
          refine ⟨by kernel_rfl, ?_⟩
          go_wp2
          go_roundw
          case rel => exact ⟨i + 1, by go_num, by omega, same_step HJ.out HE.out, gb_drew G⟩
          case measure => simp [intOf]; omega
        · have hf : r = false := by
            rw [HR.out, decide_eq_false_iff_not]; intro e; rw [e] at he; exact he rfl
          have HF := Lib.hid hf
          obtain ⟨z, hz⟩ : ∃ z, z = rd xs i := ⟨_, rfl⟩
          obtain ⟨y, hy⟩ : ∃ z, z = rd ys i := ⟨_, rfl⟩
          rw [← hz] at c1 he
          rw [← hy] at c2 he
          clear hc hc' hz hy h4 k4 hf
          go_wp2
          refine Canon.region_canon (by kernel_rfl) (by kernel_rfl) ?_
          go_wp2
          refine ⟨by kernel_rfl, ?_⟩
          go_wp2
          go_ret
          exact ⟨by rw [HF.out]; rfl, gb_drew G⟩
      · obtain rfl : i = m := by omega
        have ht : r = true := by
          rw [HR.out, decide_eq_true_iff]
          exact rd_ext (by rw [← HM.out, ← HN.out]) (fun j hj => HJ.out j (by rw [← HM.out] at hj; exact hj))
        have HT := Lib.hid ht
        clear h4 k4 ht
        go_wp2
        go_ret
        exact ⟨by rw [HT.out]; rfl, G⟩
  · have hf : decide (xs = ys) = false := by
      rw [decide_eq_false_iff_not]; intro e; exact hmn (by rw [HM.out, HN.out, e])
    rw [hf]
    clear hf h4 k4
    have hmn' : ¬ (m : Int) = (n : Int) := by omega
    go_enter Tryd.func29, Tryd.ntmps29
    go_wp2
    go_ret
    exact ⟨rfl, gb_refl _ _⟩
end Go.Proofs.YtoiclkaecgpbbaaDoor
