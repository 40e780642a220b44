/- Copies; what is lent. -/
import Derived.Test.YtoiclkaecgpbbaaDoorKeep
import Derived.Test.YtoiclkaecgpbbaaDoorRows3
import Derived.Test.YtoiclkaecgpbbaaDoorDig3
import Derived.Laws.CopyOwn
namespace Go.Proofs.YtoiclkaecgpbbaaDoor
open Go.RowKit

theorem cs_newg (w : World) (cs : Array Value) (t : TypeId) (g : Nat) (hg : g = w.heap.size) : Cs (w.alloc (.cells cs t)) g cs.toList := by subst hg; exact cs_new w cs t
theorem gb_setRow (w : World) (g : Nat) (cs : Array Value) : w.grownBy (w.setRow g cs) (some g) :=
  ⟨rfl, rfl, rfl, by simp [World.setRow], fun k _ hk => setRow_other w g k cs (fun e => hk (by rw [e]))⟩
theorem rd_app_left {a b : List Int} {k : Nat} (h : k < a.length) : rd (a ++ b) k = rd a k := by
  unfold rd; rw [List.getD_eq_getElem?_getD, List.getD_eq_getElem?_getD, List.getElem?_append_left h]
theorem rd_app_right {a b : List Int} {k : Nat} (h : a.length ≤ k) : rd (a ++ b) k = rd b (k - a.length) := by
  unfold rd; rw [List.getD_eq_getElem?_getD, List.getD_eq_getElem?_getD, List.getElem?_append_right h]
theorem own_of {w : World} {base g c : Nat} {cur : Array Value} {zs : List Int} {n : Nat} (hn : n = zs.length) (hb : base ≤ g) (hg : w.heap[g]? = some (.cells cur 22 (0, 0))) (hnc : n ≤ c) (hcm : c ≤ maxLen) (hcs : cur.size = c * 1)
    (ht : cur.toList.take (n * 1) = nums zs) (hw : Ws zs) : Own w base (.slice (some ⟨g, 0, none⟩) n c) zs := by
  subst hn
  exact ⟨⟨by rw [nums_length, Nat.mul_one], .inr ⟨g, c, cur, rfl, hb, hg, hnc, hcm, hcs, ht⟩⟩, hw⟩
theorem own_copy {w : World} {base : Nat} {ops : Array Oper} {rest : List Oper} {o : Oper} {a : Act} {Q : Exit → Act → World → Prop} (t : TypeId) (ht : Tryd.prog.underlying t = some (.slice 22))
    (d s : Operand) (hgd : o.guard = none) (ho : o.op = .call { callee := .builtin .copy, args := #[d, s], argTypes := #[t, t] })
    (g n N c : Nat) (os : List Int) (hd : a.eval d = .slice (some ⟨g, 0, none⟩) n c) (hown : Own w base (.slice (some ⟨g, 0, none⟩) N c) os) (hnN : n ≤ N) (y : Value) (ys : List Int) (hs : a.eval s = y) (hsl : Sl w y ys) (m : Nat) (hm : m = min ys.length n) (zs : List Int) (hzs : zs = ys.take m ++ os.drop m)
    (h : ∀ w', Own w' base (.slice (some ⟨g, 0, none⟩) N c) zs → w.grownBy w' (some g) → wpList Tryd.prog ops Q rest (a.put o.dst (goInt (m : Int))) w') : wpList Tryd.prog ops Q (o :: rest) a w := by
  have hsz : (Tryd.prog.info? 22).map (·.size) = some 1 := by kernel_rfl
  obtain ⟨A, cc, rfl, h1, h2, h3, h4⟩ := hsl
  by_cases h0 : m = 0
  · subst h0
    have e : zs = os := by rw [hzs]; rfl
    subst e
    have h' := h w hown (gb_refl _ _)
    exact wpList_copy_nothing hgd d s t t ho 22 ht hsz _ _ n c ys.length cc hd hs hm.symm h'
  · obtain ⟨b, oo, rfl, hc⟩ := h4 (by omega)
    obtain ⟨⟨hlen, hor⟩, hws⟩ := hown
    rcases hor with ⟨k, _⟩ | ⟨g', cap, cur, k, hbase, hg, hnc, hcm, hcs, htake⟩
    · simp at k
    · simp only [Value.slice.injEq, Option.some.injEq, Addr.mk.injEq, and_true] at k
      obtain ⟨rfl, hN, rfl⟩ := k
      have hm1 : m ≤ ys.length := by omega
      have hm2 : m ≤ os.length := by omega
      have hfit : (nums (ys.take m)).length = m := by rw [nums_length, List.length_take]; omega
      have hcs' : cur.toList.length = c := by rw [Array.length_toList, hcs, Nat.mul_one]
      have hlz : zs.length = N := by rw [hzs, List.length_append, List.length_take, List.length_drop]; omega
      refine wpList_copy_own hgd d s t t ho 22 ht hsz g 0 n c ⟨b, oo, none⟩ ys.length cc hd hs cur _ hg (nums (ys.take m)) (by rw [hfit]; exact hm) (fun j v hv => ?_) (by rw [hfit, hcs]; omega) (fun v hv => ?_) ?_
      · have hj : j < m := by
          have := (List.getElem?_eq_some_iff.1 hv).1
          rw [nums_length, List.length_take] at this; omega
        have e2 : (⟨b, oo, none⟩ : Addr).add j = ⟨b, oo + j, none⟩ := by unfold Addr.add; split <;> simp_all
        have e3 : rd (ys.take m) j = rd ys j := by
          unfold rd
          rw [List.getD_eq_getElem?_getD, List.getD_eq_getElem?_getD, List.getElem?_take, if_pos hj]
        have e4 := nums_get (xs := ys.take m) (j := j) (by rw [List.length_take]; omega)
        rw [e2, hc j (by omega), ← hv, e4, e3]
      · unfold nums at hv
        obtain ⟨z, _, rfl⟩ := List.mem_map.1 hv
        rfl
      · rw [hfit, List.take_zero, List.nil_append, Nat.zero_add]
        refine h _ (own_of hlz.symm hbase (setRow_heap w g cur _ _ _ hg) (by omega) hcm ?_ ?_ ?_) (gb_setRow _ _ _)
        · rw [List.size_toArray, List.length_append, List.length_drop, hfit, hcs']; omega
        · have e0 : nums zs = nums (ys.take m) ++ nums (os.drop m) := by rw [hzs]; exact List.map_append
          have e1 : (nums (ys.take m) ++ cur.toList.drop m).take N = nums (ys.take m) ++ (cur.toList.drop m).take (N - m) := by
            rw [List.take_append, hfit, List.take_of_length_le (by omega)]
          have e2 : (cur.toList.drop m).take (N - m) = nums (os.drop m) := by
            have e3 : nums os = cur.toList.take N := by
              rw [hN, ← Nat.mul_one os.length]; exact htake.symm
            have e4 : nums (os.drop m) = (nums os).drop m := List.map_drop
            rw [e4, e3, List.drop_take]
          rw [e0, Nat.mul_one]
          refine Eq.trans ?_ (e1.trans (by rw [e2]))
          rfl
        · rw [hzs]; exact ws_append (ws_take h3 _) (ws_drop hws _)
/-- Just n words of a row. -/
def rowOf (xs : List Int) (n : Nat) : List Int := xs.take (min xs.length n) ++ (List.replicate n 0).drop (min xs.length n)
theorem rowOf_len (xs : List Int) (n : Nat) : (rowOf xs n).length = n := by
  unfold rowOf
  rw [List.length_append, List.length_take, List.length_drop, List.length_replicate]; omega
set_option maxRecDepth 100000 in
theorem row_c (w : World) (v : Value) (xs : List Int) (n : Nat) (h : Sl w v xs) (hn : n ≤ 1000000) :
    Calls Tryd.prog 25 #[v, .int .i64 n] w fun e w' => ∃ g, e = .returned (.slice (some ⟨g, 0, none⟩) n n) ∧ Own w' w.heap.size (.slice (some ⟨g, 0, none⟩) n n) (rowOf xs n) ∧ w.grownBy w' none := by
  have mk := make64 36 (by kernel_rfl) n n (n : Int) (n : Int) (by omega) (by omega) (by omega) (by omega)
  have own0 := own_made w w.heap.size n n (Nat.le_refl _) (by omega) (by omega)
  have OW := Lib.hid own0
  have H := Lib.hid (h.grown0 (gb_alloc (gb_refl w none) (Obj.cells (madeCells #[.int .u64 0] n) 22)))
  obtain ⟨zs, hzs⟩ : ∃ zs, zs = rowOf xs n := ⟨_, rfl⟩
  rw [← hzs]
  have HZ := Lib.hid (show zs = xs.take (min xs.length n) ++ (List.replicate n 0).drop (min xs.length n) from hzs)
  have G0 := Lib.hid (gb_alloc (gb_refl w none) (Obj.cells (madeCells #[.int .u64 0] n) 22))
  clear h own0 hzs
  go_enter Tryd.func25, Tryd.ntmps25
  go_wp2_with (with_reducible (show wpList _ _ _ (Oper.mk _ (Op.call (Call.mk (Callee.builtin Builtin.copy) _ _)) _ _ _ _ :: _) _ _); refine own_copy 36 (by kernel_rfl) (.tmp 8) (.tmp 9) rfl rfl w.heap.size n n n _ rfl OW.out (Nat.le_refl _) v xs rfl H.out _ rfl zs HZ.out ?_; intro w1 ow1 g1)
  go_ret
  exact ⟨_, rfl, ow1, gb_new G0.out g1 (fun i hi => by cases hi; exact Nat.le_refl _)⟩
/-- A row that is lent: what lies behind it. -/
structure Le (xs : List Int) (os : List Int) : Prop where
  len : os.length = xs.length + 4
  lo : ∀ k, k < xs.length → rd os k = rd xs k
  hi : ∀ k, xs.length ≤ k → k < xs.length + 4 → rd os k = 6148914691236517205
structure LeI (xs : List Int) (i : Nat) (os : List Int) : Prop where
  len : os.length = xs.length + 4
  lo : ∀ k, k < xs.length → rd os k = rd xs k
  hi : ∀ k, xs.length ≤ k → k < i → rd os k = 6148914691236517205
theorem LeI.step {xs os : List Int} {i : Nat} (h : LeI xs i os) (h0 : xs.length ≤ i) (hi : i < xs.length + 4) : LeI xs (i + 1) (os.set i 6148914691236517205) :=
  ⟨by rw [List.length_set, h.len], fun k hk => by rw [rd_set_ne (by omega)]; exact h.lo k hk, fun k h1 h2 => by
    by_cases e : k = i
    · subst e; rw [rd_set_self (by rw [h.len]; omega)]
    · rw [rd_set_ne (by omega)]; exact h.hi k h1 (by omega)⟩
theorem LeI.start (xs : List Int) (m : Nat) (hm : m = min xs.length xs.length) : LeI xs xs.length (xs.take m ++ (List.replicate (xs.length + 4) 0).drop m) := by
  rw [Nat.min_self] at hm
  subst hm
  rw [List.take_of_length_le (Nat.le_refl _)]
  exact ⟨by rw [List.length_append, List.length_drop, List.length_replicate]; omega, fun k hk => rd_app_left hk, fun k h1 h2 => by omega⟩
theorem LeI.last {xs os : List Int} {i : Nat} (h : LeI xs i os) (hi : xs.length + 4 ≤ i) : Le xs os := ⟨h.len, h.lo, fun k h1 h2 => h.hi k h1 (by omega)⟩
set_option maxRecDepth 100000 in
theorem lend_c (w : World) (v : Value) (xs : List Int) (h : Sl w v xs) (hn : xs.length ≤ 1000000) :
    Calls Tryd.prog 26 #[v] w fun e w' => ∃ g os, e = .returned (.slice (some ⟨g, 0, none⟩) xs.length (xs.length + 4)) ∧ Own w' w.heap.size (.slice (some ⟨g, 0, none⟩) (xs.length + 4) (xs.length + 4)) os ∧ Le xs os ∧ w.grownBy w' none := by
  obtain ⟨n, hn'⟩ : ∃ n, n = xs.length := ⟨_, rfl⟩
  obtain ⟨A, cc, rfl, _⟩ := h.form
  have S0 := Lib.hid (LeI.start xs _ rfl)
  rw [← hn'] at h hn S0 ⊢
  have mk := make64 36 (by kernel_rfl) n (n + 4) (n : Int) ((n : Int) + 4) (by omega) (by omega) (by omega) (by omega)
  have own0 := own_made w w.heap.size (n + 4) (n + 4) (Nat.le_refl _) (by omega) (by omega)
  have OW := Lib.hid own0
  have H := Lib.hid (h.grown0 (gb_alloc (gb_refl w none) (Obj.cells (madeCells #[.int .u64 0] (n + 4)) 22)))
  have HN := Lib.hid hn'
  have G0 := Lib.hid (gb_alloc (gb_refl w none) (Obj.cells (madeCells #[.int .u64 0] (n + 4)) 22))
  have hm : min n n = min xs.length n := by rw [← hn']
  have HM := Lib.hid hm
  clear h own0 hn' hm
  go_enter Tryd.func26, Tryd.ntmps26
  go_wp2_with (with_reducible (show wpList _ _ _ (Oper.mk _ (Op.call (Call.mk (Callee.builtin Builtin.copy) _ _)) _ _ _ _ :: _) _ _); refine own_copy 36 (by kernel_rfl) (.tmp 12) (.tmp 13) rfl rfl w.heap.size n (n + 4) (n + 4) _ rfl OW.out (by omega) (.slice A n cc) xs rfl H.out _ HM.out _ rfl ?_; intro w1 ow1 g1)
  have OW1 := Lib.hid ow1
  have G1 := Lib.hid (gb_new G0.out g1 (fun i hi => by cases hi; exact Nat.le_refl _))
  clear ow1 g1
  go_loopw [5] (fun v5 wr => ∃ (i : Nat) (os : List Int), v5 = .int .i64 i ∧ n ≤ i ∧ i ≤ n + 4 ∧ LeI xs i os ∧ Own wr w.heap.size (.slice (some ⟨w.heap.size, 0, none⟩) (n + 4) (n + 4)) os ∧ w.grownBy wr none) (fun v5 _ => n + 4 - (intOf v5).toNat)
  case atStart => exact ⟨n, _, rfl, by omega, by omega, S0.out, OW1.out, G1.out⟩
  case round =>
    clear OW1 G1 S0
    obtain ⟨i, os, rfl, h0, hi, li, ow, G⟩ := hrel
    have LI := Lib.hid li
    have OW := Lib.hid ow
    clear li ow
    by_cases hlt : i < n + 4
    · have fr := OW.out.free i
      have ce := OW.out.cell i (by rw [LI.out.len, ← HN.out]; exact hlt)
      go_wp2
      go_roundw
      case rel => exact ⟨i + 1, _, by go_num, by omega, by omega, LI.out.step (by rw [← HN.out]; exact h0) (by rw [← HN.out]; exact hlt), OW.out.store i (by decide) (by decide), gb_set (p := ⟨w.heap.size, i, none⟩) G (Nat.le_refl _) _⟩
      case measure => simp [intOf]; omega
    · obtain rfl : i = n + 4 := by omega
      go_wp2
      go_ret
      exact ⟨_, os, rfl, OW.out, LI.out.last (by rw [← HN.out]; exact Nat.le_refl _), G⟩
set_option maxRecDepth 100000 in
theorem intact_c (w : World) (base g : Nat) (v : Value) (xs os : List Int) (h : Sl w v xs) (ho : Own w base (.slice (some ⟨g, 0, none⟩) (xs.length + 4) (xs.length + 4)) os) (hl : Le xs os) (hn : xs.length ≤ 1000000) :
    Calls Tryd.prog 32 #[.slice (some ⟨g, 0, none⟩) xs.length (xs.length + 4), v] w fun e w' => e = .returned (.bool true) ∧ w.grownBy w' none := by
  obtain ⟨A, cc, rfl, _, _, _, h4⟩ := h
  obtain ⟨n, hn'⟩ : ∃ n, n = xs.length := ⟨_, rfl⟩
  have L1 := hl.lo
  have L2 := hl.hi
  have L3 := hl.len
  rw [← hn'] at ho hn L1 L2 L3 h4 ⊢
  have HL := Lib.hid (And.intro L1 (And.intro L2 L3))
  have OW := Lib.hid ho
  have H4 := Lib.hid h4
  clear hl L1 L2 L3 ho hn' h4
  go_enter Tryd.func32, Tryd.ntmps32
  go_wp2
  go_loopw [6] (fun v6 wr => ∃ (i : Nat), v6 = .int .i64 i ∧ i ≤ n + 4 ∧ w.grownBy wr none) (fun v6 _ => n + 4 - (intOf v6).toNat)
  case atStart => exact ⟨0, rfl, by omega, gb_refl _ _⟩
  case round =>
    obtain ⟨i, rfl, hi, G⟩ := hrel
    by_cases hlt : i < n + 4
    · have c1 := gb_cell0 G (OW.out.cell i (by rw [HL.out.2.2]; exact hlt))
      by_cases hlo : i < n
      · obtain ⟨b, o, rfl, hc⟩ := H4.out (by omega)
        have c2 := gb_cell0 G (hc i hlo)
        rw [HL.out.1 i hlo] at c1
        obtain ⟨x, hx⟩ : ∃ x, x = rd xs i := ⟨_, rfl⟩
        rw [← hx] at c1 c2
        clear hc hx
        go_wp2
        refine Canon.region_canon (by kernel_rfl) (by kernel_rfl) ?_
        go_wp2
        refine ⟨by kernel_rfl, ?_⟩
        go_wp2
        go_roundw
        case rel => exact ⟨i + 1, by go_num, by omega, gb_drew G⟩
        case measure => simp [intOf]; omega
      · rw [HL.out.2.1 i (by omega) hlt] at c1
        go_wp2
        refine Canon.region_canon (by kernel_rfl) (by kernel_rfl) ?_
        go_wp2
        refine ⟨by kernel_rfl, ?_⟩
        go_wp2
        go_roundw
        case rel => exact ⟨i + 1, by go_num, by omega, gb_drew G⟩
        case measure => simp [intOf]; omega
    · obtain rfl : i = n + 4 := by omega
      go_wp2
      go_ret
      exact ⟨rfl, G⟩
set_option maxRecDepth 100000 in
theorem spoil_c (w : World) (base g n : Nat) (os : List Int) (ho : Own w base (.slice (some ⟨g, 0, none⟩) n n) os) (hn : n ≤ 1000000) :
    Calls Tryd.prog 33 #[.slice (some ⟨g, 0, none⟩) n n] w fun e w' => e = .returned (.tuple #[]) ∧ w.grownBy w' (some g) := by
  have OW0 := Lib.hid ho
  clear ho
  go_enter Tryd.func33, Tryd.ntmps33
  go_wp2
  go_loopw [3] (fun v3 wr => ∃ (i : Nat) (os : List Int), v3 = .int .i64 i ∧ i ≤ n ∧ Own wr base (.slice (some ⟨g, 0, none⟩) n n) os ∧ w.grownBy wr (some g)) (fun v3 _ => n - (intOf v3).toNat)
  case atStart => exact ⟨0, os, rfl, by omega, OW0.out, gb_refl _ _⟩
  case round =>
    clear OW0
    obtain ⟨i, os, rfl, hi, ow, G⟩ := hrel
    have OW := Lib.hid ow
    clear ow
    by_cases hlt : i < n
    · have fr := OW.out.free i
      have ce := OW.out.cell i (by rw [← OW.out.len]; exact hlt)
      go_wp2
      go_roundw
      case rel => exact ⟨i + 1, _, by go_num, by omega, OW.out.store i (by decide) (by decide), gb_rowC G i _⟩
      case measure => simp [intOf]; omega
    · obtain rfl : i = n := by omega
      go_wp2
      go_end0
      exact ⟨rfl, G⟩
end Go.Proofs.YtoiclkaecgpbbaaDoor
