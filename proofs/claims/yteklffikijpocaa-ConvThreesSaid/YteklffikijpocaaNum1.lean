/- The document's naturals: digits of 32 bits. -/
import Derived.Test.YteklffikijpocaaRows2
import Derived.Test.YteklffikijpocaaBits
namespace Go.Proofs.Yteklffikijpocaa
open Go.RowKit

abbrev B32 : Nat := 4294967296
abbrev B64 : Nat := 18446744073709551616
/-- v is the number n in the document's form, of at most L digits. -/
def Nm (w : World) (v : Value) (n L : Nat) : Prop := ∃ xs, Sl w v xs ∧ Dg B32 xs ∧ Nz xs ∧ val B32 xs = n ∧ xs.length ≤ L
theorem Nm.grown0 {w w' : World} {v : Value} {n L : Nat} (h : Nm w v n L) (g : w.grownBy w' none) : Nm w' v n L := by
  obtain ⟨xs, h1, h2⟩ := h; exact ⟨xs, h1.grown0 g, h2⟩
theorem Nm.mono {w : World} {v : Value} {n L L' : Nat} (h : Nm w v n L) (g : L ≤ L') : Nm w v n L' := by
  obtain ⟨xs, h1, h2, h3, h4, h5⟩ := h; exact ⟨xs, h1, h2, h3, h4, by omega⟩
theorem nm_nil (w : World) (L : Nat) : Nm w (.slice none 0 0) 0 L := ⟨[], sl_none w, Dg.nil _, nz_nil, rfl, Nat.zero_le _⟩
theorem Sl.dgnm {w : World} {v : Value} {xs : List Int} {n L : Nat} (h : Sl w v (trimZ xs)) (hd : Dg B32 xs) (hv : val B32 xs = n) (hl : xs.length ≤ L) : Nm w v n L :=
  ⟨_, h, trimZ_dg hd, nz_trimZ xs, by rw [val_trimZ, hv], by
    have : (trimZ xs).length ≤ xs.length := by
      clear h hd hv hl
      induction xs with
      | nil => exact Nat.le_refl _
      | cons x xs ih => unfold trimZ; split <;> simp; exact ih
    omega⟩
theorem norm_c (w : World) (v : Value) (xs : List Int) (h : Sl w v xs) :
    Calls Try.prog 65 #[v] w fun e w' => ∃ u, e = .returned u ∧ Sl w u (trimZ xs) ∧ w' = w := by
  have H := Lib.hid h
  obtain ⟨A, c, rfl, h1, h2, h3, h4⟩ := h
  obtain ⟨n, hn⟩ : ∃ n, n = xs.length := ⟨_, rfl⟩
  rw [← hn] at h1 h4 H ⊢
  have HN := Lib.hid hn
  have hr0 : ∀ j, n ≤ j → rd xs j = 0 := fun j hj => by
    unfold rd; rw [List.getD_eq_getElem?_getD, List.getElem?_eq_none (by omega)]; rfl
  clear hn
  go_enter Try.func65, Try.ntmps65
  go_wp2
  go_loopw [3] (fun v3 wr => ∃ k : Nat, v3 = .int .i64 k ∧ k ≤ n ∧ (∀ j, k ≤ j → rd xs j = 0) ∧ wr = w) (fun v3 _ => (intOf v3).toNat)
  case atStart => exact ⟨n, rfl, Nat.le_refl _, hr0, rfl⟩
  case round =>
    clear hr0
    obtain ⟨k, rfl, hk, hz, rfl⟩ := hrel
    have HZ := Lib.hid hz
    clear hz
    by_cases hk0 : k = 0
    · subst hk0
      have ht := take_trimZ (xs := xs) (k := 0) (by omega) HZ.out (Or.inl rfl)
      have hs := H.out.take 0 (by omega)
      rw [ht] at hs
      have HS := Lib.hid hs
      clear hs ht h4 H
      go_wp2
      go_ret
      exact ⟨_, rfl, HS.out, by trivial⟩
    · obtain ⟨j, rfl⟩ : ∃ j, k = j + 1 := ⟨k - 1, by omega⟩
      obtain ⟨b, o, rfl, hc⟩ := h4 (by omega)
      have hci := hc j (by omega)
      clear hc
      by_cases hx : rd xs j = 0
      · rw [hx] at hci
        go_wp2
        go_roundw
        case rel => exact ⟨j, by go_num, by omega, fun i hi => by
          by_cases e : i = j
          · rw [e]; exact hx
          · exact HZ.out i (by omega), by trivial⟩
        case measure => simp [intOf]
      · have ht := take_trimZ (xs := xs) (k := j + 1) (by rw [← HN.out]; omega) HZ.out (Or.inr hx)
        have hs := H.out.take (j + 1) (by omega)
        rw [ht] at hs
        have HS := Lib.hid hs
        obtain ⟨z, hz⟩ : ∃ z, z = rd xs j := ⟨_, rfl⟩
        rw [← hz] at hci hx
        clear hs ht H hz
        go_wp2
        go_ret
        exact ⟨_, rfl, HS.out, by trivial⟩
/-- Each word as two digits. -/
def halves : List Int → List Int
  | [] => []
  | x :: xs => x % 4294967296 :: x / 4294967296 :: halves xs
theorem halves_append (xs ys : List Int) : halves (xs ++ ys) = halves xs ++ halves ys := by
  induction xs with
  | nil => rfl
  | cons x xs ih => simp [halves, ih]
theorem halves_length (xs : List Int) : (halves xs).length = 2 * xs.length := by
  induction xs with
  | nil => rfl
  | cons x xs ih => simp [halves, ih]; omega
theorem halves_dg {xs : List Int} (h : Ws xs) : Dg B32 (halves xs) := by
  induction xs with
  | nil => exact Dg.nil _
  | cons x xs ih =>
    have hx := h x (List.mem_cons_self ..)
    have ht : Ws xs := fun y hy => h y (List.mem_cons_of_mem _ hy)
    exact Dg.cons (by omega) (by show x % 4294967296 < ((4294967296 : Nat) : Int); omega) (Dg.cons (by omega) (by show x / 4294967296 < ((4294967296 : Nat) : Int); omega) (ih ht))
theorem halves_val {xs : List Int} (h : Ws xs) : val B32 (halves xs) = val B64 xs := by
  induction xs with
  | nil => rfl
  | cons x xs ih =>
    have hx := h x (List.mem_cons_self ..)
    have ht : Ws xs := fun y hy => h y (List.mem_cons_of_mem _ hy)
    simp only [halves, val, ih ht]
    have : x.toNat = (x % 4294967296).toNat + 4294967296 * (x / 4294967296).toNat := by omega
    rw [this]
    show _ + 4294967296 * (_ + 4294967296 * _) = _ + 18446744073709551616 * _
    omega
theorem halves_take {xs : List Int} {k : Nat} (hk : k < xs.length) : halves (xs.take (k + 1)) = halves (xs.take k) ++ [rd xs k % 4294967296, rd xs k / 4294967296] := by
  rw [take_rd hk, halves_append]; rfl
set_option maxRecDepth 100000 in
theorem from_c (w : World) (v : Value) (xs : List Int) (L : Nat) (h : Sl w v xs) (hL : xs.length ≤ L) (hL1 : L ≤ 1000000) :
    Calls Try.prog 41 #[v] w fun e w' => ∃ u, e = .returned u ∧ Nm w' u (val B64 xs) (2 * L) ∧ w.grownBy w' none := by
  have h1 := halves_dg h.ws
  have h2 := halves_val h.ws
  have HD := Lib.hid h1
  have HV := Lib.hid h2
  have HL := Lib.hid hL
  clear h1 h2
  obtain ⟨A, c, rfl, h1, h2, h3, h4⟩ := h
  obtain ⟨n, hn⟩ : ∃ n, n = xs.length := ⟨_, rfl⟩
  have hl := halves_length xs
  rw [← hn] at h1 h4 hL hl ⊢
  have HN := Lib.hid hn
  have HHL := Lib.hid hl
  have H3 := Lib.hid h3
  clear hn h3 hl
  have own0 := own_made w w.heap.size 0 (2 * n) (Nat.le_refl _) (by omega) (by omega)
  have mk := make64 43 (by kernel_rfl) 0 (2 * n) 0 (2 * (n : Int)) (by omega) (by omega) (by omega) (by omega)
  go_enter Try.func41, Try.ntmps41
  go_wp2
  go_loopw [3, 4] (fun v3 v4 wr => ∃ k : Nat, v4 = .int .i64 k ∧ k ≤ n ∧ Own wr w.heap.size v3 (halves (xs.take k)) ∧ w.grownBy wr none) (fun _ v4 _ => n - (intOf v4).toNat)
  case atStart => exact ⟨0, rfl, by omega, own0, gb_alloc (gb_refl w none) _⟩
  case round =>
    clear own0 mk
    obtain ⟨k, rfl, hk, ow, G⟩ := hrel
    by_cases hlt : k < n
    · obtain ⟨b, o, rfl, hc⟩ := h4 (by omega)
      have hci := gb_cell0 G (hc k hlt)
      have hd := rd_w H3.out k
      have ht := halves_take (xs := xs) (k := k) (by rw [← HN.out]; exact hlt)
      have hle : (halves (xs.take k)).length ≤ 2 * n := by
        rw [halves_length, List.length_take]; omega
      obtain ⟨d, he⟩ : ∃ d, d = rd xs k := ⟨_, rfl⟩
      rw [← he] at hci hd ht
      have HT := Lib.hid ht
      have d0 := hd.1
      have d1 := hd.2
      clear hc h4 he ht hd
      go_wp2
      refine Canon.region_canon (by kernel_rfl) (by kernel_rfl) ?_
      go_wp2_with (at_builtin; refine own_append 43 (by kernel_rfl) (.tmp 15) (.tmp 26) rfl rfl _ (halves (xs.take k)) rfl (Own.alloc (Own.drew ow) _) _ 2 2 [d % 4294967296, d / 4294967296] rfl rfl (ws_append (ws_one (by omega) (by omega)) (ws_one (by omega) (by omega))) (built2 _ _ _ _) (by show _ + 2 ≤ _; omega) (gb_alloc (gb_drew G) _).size ?_; intro v1 w1 o1 g1)
      have G1 := Own.gb (Own.alloc (Own.drew ow) _) (gb_alloc (gb_drew G) _) g1
      refine ⟨by kernel_rfl, ?_⟩
      go_wp2
      go_roundw
      case rel => exact ⟨k + 1, by go_num, by omega, by rw [HT.out]; exact o1, G1⟩
      case measure => simp [intOf]; omega
    · obtain rfl : k = n := by omega
      have hs := ow.sl
      rw [show xs.take k = xs from List.take_of_length_le (by rw [← HN.out]; exact Nat.le_refl _)] at hs
      clear h4
      go_wp2_with fail
      refine (norm_c _ _ _ hs).mono ?_
      rintro e w1 ⟨u, rfl, hu, rfl⟩
      go_wp2
      go_ret
      exact ⟨u, rfl, hu.dgnm HD.out HV.out (by rw [HHL.out]; omega), G⟩
theorem sl_one (w : World) (t : TypeId) {x : Int} (h0 : 0 ≤ x) (h1 : x < 18446744073709551616) : Sl (w.alloc (.cells #[.int .u64 x] t)) (.slice (some ⟨w.heap.size, 0, none⟩) 1 1) [x] :=
  ⟨_, 1, rfl, Nat.le_refl 1, by decide, ws_one h0 h1, fun _ => ⟨_, 0, rfl, fun j hj => by
    obtain rfl : j = 0 := by simpa using hj
    exact (cs_new w #[.int .u64 x] t).cell 0 rfl⟩⟩
theorem small_c (w : World) (x : Int) (h0 : 0 ≤ x) (h1 : x < 18446744073709551616) :
    Calls Try.prog 42 #[.int .u64 x] w fun e w' => ∃ u, e = .returned u ∧ Nm w' u x.toNat 2 ∧ w.grownBy w' none := by
  have hv := val_one B64 x
  have HV := Lib.hid hv
  clear hv
  go_enter Try.func42, Try.ntmps42
  go_wp2_with fail
  refine (from_c _ _ [x] 1 (sl_one _ _ h0 h1) (Nat.le_refl 1) (by decide)).mono ?_
  rintro e w1 ⟨u, rfl, N, g⟩
  rw [HV.out] at N
  go_wp2
  go_ret
  exact ⟨u, rfl, N, gb_trans (gb_alloc (gb_refl _ _) _) g⟩
theorem cmp_c (w : World) (u v : Value) (m n L L' : Nat) (h : Nm w u m L) (k : Nm w v n L') :
    Calls Try.prog 43 #[u, v] w fun e w' => e = .returned (.int .i64 (cmpI m n)) ∧ w.grownBy w' none := by
  obtain ⟨xs, ⟨A, c, rfl, h1, h2, h3, h4⟩, hd, hz, rfl, _⟩ := h
  obtain ⟨ys, ⟨B, d, rfl, k1, k2, k3, k4⟩, kd, kz, rfl, _⟩ := k
  have f1 : xs.length < ys.length → val B32 xs < val B32 ys := cmp_len (by decide) hd kd kz
  have f2 : ys.length < xs.length → val B32 ys < val B32 xs := cmp_len (by decide) kd hd hz
  have f3 : xs.length = ys.length → ∀ i, i < xs.length → (∀ j, i < j → rd xs j = rd ys j) → rd xs i < rd ys i → val B32 xs < val B32 ys := fun e i hi hj hl => cmp_top (by decide) hd kd e hi hj hl
  have f4 : xs.length = ys.length → ∀ i, i < xs.length → (∀ j, i < j → rd xs j = rd ys j) → rd ys i < rd xs i → val B32 ys < val B32 xs := fun e i hi hj hl => cmp_top (by decide) kd hd e.symm (by omega) (fun j hij => (hj j hij).symm) hl
  have f5 : xs.length = ys.length → (∀ j, 0 ≤ j → rd xs j = rd ys j) → val B32 xs = val B32 ys := fun e hj => by rw [rd_ext e (fun j _ => hj j (by omega))]
  obtain ⟨m, hm⟩ : ∃ m, m = val B32 xs := ⟨_, rfl⟩
  obtain ⟨n, hn⟩ : ∃ n, n = val B32 ys := ⟨_, rfl⟩
  obtain ⟨lx, hlx⟩ : ∃ l, l = xs.length := ⟨_, rfl⟩
  obtain ⟨ly, hly⟩ : ∃ l, l = ys.length := ⟨_, rfl⟩
  have hr0 : ∀ j, lx ≤ j → rd xs j = 0 := fun j hj => by
    unfold rd; rw [List.getD_eq_getElem?_getD, List.getElem?_eq_none (by omega)]; rfl
  have hr1 : ∀ j, ly ≤ j → rd ys j = 0 := fun j hj => by
    unfold rd; rw [List.getD_eq_getElem?_getD, List.getElem?_eq_none (by omega)]; rfl
  rw [← hm, ← hn, ← hlx, ← hly] at f1 f2 f3 f4 f5
  rw [← hm, ← hn, ← hlx, ← hly]
  rw [← hlx] at h1 h4
  rw [← hly] at k1 k4
  clear hd kd hz kz hm hn hlx hly
  by_cases hll : lx = ly
  · subst hll
    have F3 := Lib.hid (f3 rfl)
    have F4 := Lib.hid (f4 rfl)
    have F5 := Lib.hid (f5 rfl)
    have hst : ∀ j, lx ≤ j → rd xs j = rd ys j := fun j hj => by rw [hr0 j hj, hr1 j hj]
    have HST := Lib.hid hst
    clear f1 f2 f3 f4 f5 hr0 hr1 hst
    have lx1 : lx ≤ 9223372036854775807 := by omega
    go_enter Try.func43, Try.ntmps43
    go_wp2
    go_loopw [5] (fun v5 wr => ∃ k : Nat, v5 = .int .i64 ((k : Int) - 1) ∧ k ≤ lx ∧ (∀ j, k ≤ j → rd xs j = rd ys j) ∧ w.grownBy wr none) (fun v5 _ => (intOf v5 + 1).toNat)
    case atStart => exact ⟨lx, rfl, Nat.le_refl _, HST.out, gb_refl _ _⟩
    case round =>
      clear HST
      obtain ⟨k, rfl, hk, hj, G⟩ := hrel
      have HJ := Lib.hid hj
      clear hj
      by_cases hk0 : k = 0
      · subst hk0
        have e := F5.out HJ.out
        have fin : cmpI m n = 0 := by unfold cmpI; rw [if_neg (by omega), if_neg (by omega)]
        have FIN := Lib.hid fin
        clear e fin h4 k4
        go_wp2
        go_ret
        exact ⟨by rw [FIN.out]; rfl, G⟩
      · obtain ⟨j, rfl⟩ : ∃ j, k = j + 1 := ⟨k - 1, by omega⟩
        have ej : ((j + 1 : Nat) : Int) - 1 = (j : Int) := by omega
        obtain ⟨b, o, rfl, hc⟩ := h4 (by omega)
        obtain ⟨b', o', rfl, hc'⟩ := k4 (by omega)
        have c1 := gb_cell0 G (hc j (by omega))
        have c2 := gb_cell0 G (hc' j (by omega))
        have g3 := F3.out j (by omega) (fun i hi => HJ.out i (by omega))
        have g4 := F4.out j (by omega) (fun i hi => HJ.out i (by omega))
        have g5 : rd xs j = rd ys j → ∀ i, j ≤ i → rd xs i = rd ys i := fun e i hi => by
          by_cases hij : i = j
          · rw [hij]; exact e
          · exact HJ.out i (by omega)
        obtain ⟨x, hx⟩ : ∃ x, x = rd xs j := ⟨_, rfl⟩
        obtain ⟨y, hy⟩ : ∃ y, y = rd ys j := ⟨_, rfl⟩
        rw [← hx] at c1 g3 g4 g5
        rw [← hy] at c2 g3 g4 g5
        have G3 := Lib.hid g3
        have G4 := Lib.hid g4
        have G5 := Lib.hid g5
        rw [ej]
        clear hc hc' hx hy g3 g4 g5 h4 k4
        by_cases hlt : x < y
        · have e := G3.out hlt
          have fin : cmpI m n = -1 := by unfold cmpI; rw [if_pos e]
          have FIN := Lib.hid fin
          clear e fin
          go_wp2
          refine Canon.region_canon (by kernel_rfl) (by kernel_rfl) ?_
          go_wp2
          refine ⟨by kernel_rfl, ?_⟩
          go_wp2
          go_ret
          exact ⟨by rw [FIN.out]; rfl, gb_drew G⟩
        · by_cases hgt : y < x
          · have e := G4.out hgt
            have fin : cmpI m n = 1 := by unfold cmpI; rw [if_neg (by omega), if_pos e]
            have FIN := Lib.hid fin
            clear e fin
            go_wp2
            refine Canon.region_canon (by kernel_rfl) (by kernel_rfl) ?_
            go_wp2
            refine ⟨by kernel_rfl, ?_⟩
            go_wp2
            refine Canon.region_canon (by kernel_rfl) (by kernel_rfl) ?_
            go_wp2
            refine ⟨by kernel_rfl, ?_⟩
            go_wp2
            go_ret
            exact ⟨by rw [FIN.out]; rfl, gb_drew (gb_drew G)⟩
          · obtain rfl : x = y := by omega
            go_wp2
            refine Canon.region_canon (by kernel_rfl) (by kernel_rfl) ?_
            go_wp2
            refine ⟨by kernel_rfl, ?_⟩
            go_wp2
            refine Canon.region_canon (by kernel_rfl) (by kernel_rfl) ?_
            go_wp2
            refine ⟨by kernel_rfl, ?_⟩
            go_wp2
            go_roundw
            case rel => exact ⟨j, rfl, by omega, G5.out (by trivial), gb_drew (gb_drew G)⟩
            case measure => simp [intOf]
  · clear f3 f4 f5 h4 k4
    have hne : ¬ (lx : Int) = (ly : Int) := by omega
    by_cases hlt : lx < ly
    · have e := f1 hlt
      have fin : cmpI m n = -1 := by unfold cmpI; rw [if_pos e]
      have FIN := Lib.hid fin
      clear e fin f1 f2 hr0 hr1
      go_enter Try.func43, Try.ntmps43
      go_wp2
      go_ret
      exact ⟨by rw [FIN.out]; rfl, gb_refl _ _⟩
    · have e := f2 (by omega)
      have fin : cmpI m n = 1 := by unfold cmpI; rw [if_neg (by omega), if_pos e]
      have FIN := Lib.hid fin
      clear e fin f1 f2 hr0 hr1
      go_enter Try.func43, Try.ntmps43
      go_wp2
      go_ret
      exact ⟨by rw [FIN.out]; rfl, gb_refl _ _⟩
end Go.Proofs.Yteklffikijpocaa
