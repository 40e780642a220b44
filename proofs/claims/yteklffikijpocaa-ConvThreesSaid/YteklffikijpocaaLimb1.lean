/- Rows of words: their length, trimmed, copied. -/
import Derived.Test.YteklffikijpocaaRows3
namespace Go.Proofs.Yteklffikijpocaa
open Go.RowKit

theorem trimZ_len (xs : List Int) : (trimZ xs).length ≤ xs.length := by
  induction xs with
  | nil => exact Nat.le_refl _
  | cons x xs ih => unfold trimZ; split <;> simp; exact ih
theorem take_trimZ_len (xs : List Int) : xs.take (trimZ xs).length = trimZ xs := by
  induction xs with
  | nil => rfl
  | cons x xs ih =>
    unfold trimZ
    split
    · rfl
    · rw [List.length_cons, List.take_succ_cons, ih]
set_option maxRecDepth 100000 in
theorem nlen_c (w : World) (v : Value) (xs : List Int) (h : Sl w v xs) :
    Calls Try.prog 85 #[v] w fun e w' => e = .returned (.int .i64 (trimZ xs).length) ∧ w' = w := by
  obtain ⟨A, c, rfl, h1, h2, h3, h4⟩ := h
  obtain ⟨n, hn⟩ : ∃ n, n = xs.length := ⟨_, rfl⟩
  have hr0 : ∀ j, n ≤ j → rd xs j = 0 := fun j hj => by
    unfold rd; rw [List.getD_eq_getElem?_getD, List.getElem?_eq_none (by omega)]; rfl
  have ht : ∀ k, k ≤ n → (∀ j, k ≤ j → rd xs j = 0) → (k = 0 ∨ rd xs (k - 1) ≠ 0) → k = (trimZ xs).length := fun k hk h0 h1 => by
    rw [← take_trimZ (by omega) h0 h1, List.length_take]; omega
  obtain ⟨T, hT⟩ : ∃ T, T = (trimZ xs).length := ⟨_, rfl⟩
  rw [← hn] at h1 h4 ⊢
  rw [← hT] at ht ⊢
  have HT := Lib.hid ht
  clear hn hT ht
  go_enter Try.func85, Try.ntmps85
  go_wp2
  go_loopw [3] (fun v3 wr => ∃ k : Nat, v3 = .int .i64 k ∧ k ≤ n ∧ (∀ j, k ≤ j → rd xs j = 0) ∧ wr = w) (fun v3 _ => (intOf v3).toNat)
  case atStart => exact ⟨n, rfl, Nat.le_refl _, hr0, rfl⟩
  case round =>
    clear hr0
    obtain ⟨k, rfl, hk, hz, rfl⟩ := hrel
    have HZ := Lib.hid hz
    clear hz
    by_cases hk0 : k = 0
    · subst hk0
      have ht := HT.out 0 (by omega) HZ.out (Or.inl rfl)
      subst ht
      clear h4 HT
      go_wp2
      go_ret
      exact ⟨rfl, by trivial⟩
    · obtain ⟨j, rfl⟩ : ∃ j, k = j + 1 := ⟨k - 1, by omega⟩
      obtain ⟨b, o, rfl, hc⟩ := h4 (by omega)
      have hci := hc j (by omega)
      clear hc
      by_cases hx : rd xs j = 0
      · rw [hx] at hci
        go_wp2
        go_roundw
        case rel => exact ⟨j, by go_num, by omega, fun i hi => by
          by_cases e : i = j
          · rw [e]; exact hx
          · exact HZ.out i (by omega), by trivial⟩
        case measure => simp [intOf]
      · have ht := HT.out (j + 1) (by omega) HZ.out (Or.inr hx)
        subst ht
        obtain ⟨z, hz⟩ : ∃ z, z = rd xs j := ⟨_, rfl⟩
        rw [← hz] at hci hx
        clear hz HT
        go_wp2
        go_ret
        exact ⟨by simp, by trivial⟩
theorem ltrim_c (w : World) (A : Option Addr) (n c : Nat) (xs : List Int) (h : Sl w (.slice A n c) xs) :
    Calls Try.prog 82 #[.slice A n c] w fun e w' => e = .returned (.slice A (trimZ xs).length c) ∧ w' = w := by
  have hn : n = xs.length := by
    obtain ⟨A', c', e, _⟩ := h
    simp only [Value.slice.injEq] at e
    exact e.2.1
  subst hn
  obtain ⟨h1, h2⟩ : xs.length ≤ c ∧ c ≤ 9223372036854775807 := by
    obtain ⟨A', c', e, h1, h2, _⟩ := h
    simp only [Value.slice.injEq] at e
    obtain ⟨_, _, rfl⟩ := e
    exact ⟨h1, h2⟩
  have ht := trimZ_len xs
  have hc := nlen_c w _ xs h
  obtain ⟨T, hT⟩ : ∃ T, T = (trimZ xs).length := ⟨_, rfl⟩
  obtain ⟨n, hn⟩ : ∃ n, n = xs.length := ⟨_, rfl⟩
  rw [← hn, ← hT] at hc
  rw [← hn] at h1 ht ⊢
  rw [← hT] at ht ⊢
  have HC := Lib.hid hc
  clear hn h hT hc
  go_enter Try.func82, Try.ntmps82
  go_wp2_with fail
  refine (HC.out).mono ?_
  rintro e w' ⟨rfl, rfl⟩
  clear HC
  go_wp2
  go_ret
  exact ⟨rfl, rfl⟩
theorem lnorm_c (w : World) (v : Value) (xs : List Int) (h : Sl w v xs) (hL : xs.length ≤ 100000000) :
    Calls Try.prog 68 #[v] w fun e w' => ∃ x, e = .returned x ∧ Own w' w.heap.size x (trimZ xs) ∧ w.grownBy w' none := by
  obtain ⟨A, c, rfl, _, _⟩ := h.form
  have ht := trimZ_len xs
  have hs := h.take (trimZ xs).length (by omega)
  rw [take_trimZ_len] at hs
  have HS := Lib.hid hs
  have H := Lib.hid h
  have hl : (trimZ xs).length ≤ 100000000 := by omega
  have HL := Lib.hid hl
  clear hs h ht hL hl
  go_enter Try.func68, Try.ntmps68
  go_wp2_with fail
  refine (ltrim_c _ _ _ _ _ H.out).mono ?_
  rintro e w' ⟨rfl, rfl⟩
  go_wp2_with (at_builtin; refine own_append_sl 48 (by kernel_rfl) (.const (.slice none 0 0)) (.tmp 4) rfl rfl _ [] rfl (own_nil _ _) _ (trimZ xs) rfl HS.out (by have := HL.out; show 0 + _ ≤ _; omega) (Nat.le_refl _) ?_; intro v1 w1 ow1 g1)
  go_ret
  exact ⟨v1, rfl, ow1, g1⟩
end Go.Proofs.Yteklffikijpocaa
