/- Contracts of the program's functions, and plain laws (Rows4, Law12g, TabR), for every input that their premises let in. -/
import Derived.Test.YtldkiddoajlohaaGreatDoorV6
import Derived.Test.YtldkiddoajlohaaGreatDoorV1
import Derived.Test.YtldkiddoajlohaaGreatDoorV3
import Derived.Test.YtldkiddoajlohaaGreatDoorV2
import Derived.WalkKit
import Derived.Deep.Fields
import Derived.Deep.Matrix
/- Rows of rows: cut, as naturals, their product. -/
namespace Go.Proofs.YtldkiddoajlohaaGreatDoor
open Go.RowKit

/-- A row of rows, of the call's own. -/
def OwnT (e : TypeId) (w : World) (base : Nat) (v : Value) (vs : List Value) : Prop := w.ownsRow base e 1 v vs.length vs
theorem ownt_nil (e : TypeId) (w : World) (base : Nat) : OwnT e w base (.slice none 0 0) [] := ⟨rfl, .inl ⟨rfl, rfl⟩⟩
theorem OwnT.grown0 {e : TypeId} {w w' : World} {base : Nat} {v : Value} {vs : List Value} (h : OwnT e w base v vs) (hg : w.grownBy w' none) : OwnT e w' base v vs :=
  World.ownsRow.kept h hg (by cases v.ownBlock <;> simp)
theorem OwnT.lt {e : TypeId} {w : World} {base : Nat} {v : Value} {vs : List Value} (h : OwnT e w base v vs) : ∀ k, v.ownBlock = some k → base ≤ k ∧ k < w.heap.size := World.ownsRow.lt h
theorem OwnT.cells {e : TypeId} {w : World} {base : Nat} {v : Value} {vs : List Value} (h : OwnT e w base v vs) : Cells w v vs.length 1 (fun j => vs.getD j undef) := by
  rcases h.2 with ⟨rfl, h2⟩ | ⟨g, cap, cur, rfl, hg, hh, h1, h2, _⟩
  · obtain rfl := List.eq_nil_of_length_eq_zero h2
    exact ⟨none, 0, rfl, by simp, by omega, fun h => by simp at h⟩
  · refine ⟨_, cap, rfl, h1, by simpa [maxLen] using h2, fun _ => ⟨g, 0, rfl, fun j hj => ?_⟩⟩
    have := World.ownsRow.cellAt h j (by omega)
    rw [Nat.mul_one] at hj
    show w.cell? ⟨g, 0 + j, none⟩ = some (vs.getD j undef)
    rw [Nat.zero_add, this, List.getD_eq_getElem?_getD, List.getElem?_eq_getElem hj]
    rfl
theorem ownt_append {el : TypeId} (hel : (Tryz.prog.info? el).map (fun i => (i.zero, i.size, i.bytes)) = some (some (.slice none 0 0), 1, 24)) {w : World} {base : Nat} {ops : Array Oper} {rest : List Oper} {o : Oper} {a : Act} {Q : Exit → Act → World → Prop} (t : TypeId) (ht : Tryz.prog.underlying t = some (.slice el))
    (s x : Operand) (hgd : o.guard = none) (ho : o.op = .call { callee := .builtin .append, args := #[s, x], argTypes := #[t, t] })
    (v : Value) (vs : List Value) (hs : a.eval s = v) (hown : OwnT el w base v vs)
    (g : Nat) (A : Option Addr) (n c : Nat) (hx : a.eval x = .slice (some ⟨g, 0, none⟩) 1 1) (hc : w.cell? ⟨g, 0, none⟩ = some (.slice A n c)) (hb : vs.length ≤ 1000000) (hbase : base ≤ w.heap.size)
    (h : ∀ v' w', OwnT el w' base v' (vs ++ [.slice A n c]) → w.grownBy w' v.ownBlock → wpList Tryz.prog ops Q rest (a.put o.dst v') w') : wpList Tryz.prog ops Q (o :: rest) a w := by
  obtain ⟨i, hi, he⟩ := Option.map_eq_some_iff.1 hel
  simp only [Prod.mk.injEq] at he
  refine wpList_append_own w hgd s x t ho base el i (.slice none 0 0) 1 24 ht hi he.1 he.2.1 he.2.2 rfl (by decide) v vs.length vs hs hown ⟨g, 0, none⟩ 1 1 [.slice A n c] hx rfl (fun j u hu => ?_) (fun u hu => ?_) (by unfold maxLen; omega) (by omega) hbase ?_
  · cases j with
    | zero => obtain rfl := Option.some.inj hu; exact hc
    | succ j => simp at hu
  · obtain rfl := List.mem_singleton.1 hu
    rfl
  · intro v' w' h2 h3 _
    refine h v' w' ?_ h3
    show World.ownsRow _ _ _ _ _ (vs ++ [_]).length _
    rw [List.length_append]
    exact h2
theorem OwnT.pts {e : TypeId} {w : World} {base n : Nat} {v : Value} {vs : List Value} {X : Nat → List Int} (h : OwnT e w base v vs) (hn : vs.length = n) (hs : ∀ j, j < n → Sl w (vs.getD j undef) (X j)) : Pts w v n (fun j => vs.getD j undef) X := by
  subst hn
  exact ⟨h.cells, hs⟩
theorem getD_snoc {vs : List Value} {x : Value} {i j : Nat} (hi : vs.length = i) : (vs ++ [x]).getD j undef = if j < i then vs.getD j undef else if j = i then x else undef := by
  rw [List.getD_eq_getElem?_getD, List.getD_eq_getElem?_getD]
  by_cases h : j < i
  · rw [if_pos h, List.getElem?_append_left (by omega)]
  · rw [if_neg h, List.getElem?_append_right (by omega)]
    by_cases h2 : j = i
    · rw [if_pos h2, show j - vs.length = 0 by omega]; rfl
    · rw [if_neg h2, List.getElem?_eq_none (by simp; omega)]; rfl
theorem OwnT.ptsOf {e : TypeId} {w : World} {base n : Nat} {v : Value} {V : Nat → Value} {X : Nat → List Int} (h : OwnT e w base v ((List.range n).map V)) (hs : ∀ j, j < n → Sl w (V j) (X j)) : Pts w v n V X := by
  have hV : ∀ j, j < n → ((List.range n).map V).getD j undef = V j := fun j hj => by
    rw [List.getD_eq_getElem?_getD, List.getElem?_map, List.getElem?_range hj]; rfl
  have hp := h.pts (n := n) (by simp) (X := X) (fun j hj => by rw [hV j hj]; exact hs j hj)
  obtain ⟨A, c, e1, h1, h2, h3⟩ := hp.c
  refine ⟨⟨A, c, e1, h1, h2, fun h0 => ?_⟩, hs⟩
  obtain ⟨b, o, hA, hc⟩ := h3 h0
  exact ⟨b, o, hA, fun j hj => by rw [hc j hj]; exact congrArg some (hV j (by omega))⟩
theorem nats_c (w : World) (n : Nat) (v : Value) (V : Nat → Value) (X : Nat → List Int) (h : Pts w v n V X) (hn : n ≤ 1000) :
    Calls Tryz.prog 15 #[v] w fun e w' => ∃ u, e = .returned u ∧ Pts w' u n V X ∧ (∀ b, u.ownBlock = some b → w.heap.size ≤ b ∧ b < w'.heap.size) ∧ w.grownBy w' none := by
  have HP := Lib.hid h
  obtain ⟨A, ca, rfl, hca, _, h4⟩ := h.c
  have H4 := Lib.hid h4
  clear h h4
  go_enter Tryz.func15, Tryz.ntmps15
  go_wp2
  go_loopw [3, 4] (fun v3 v4 wr => ∃ (i : Nat), v4 = .int .i64 i ∧ i ≤ n ∧ OwnT 34 wr w.heap.size v3 ((List.range i).map V) ∧ w.grownBy wr none) (fun _ v4 _ => n - (intOf v4).toNat)
  case atStart => exact ⟨0, rfl, by omega, ownt_nil _ _ _, gb_refl _ _⟩
  case round =>
    obtain ⟨i, rfl, hi, ow, G⟩ := hrel
    have OV := Lib.hid ow
    have GG := Lib.hid G
    clear ow G
    by_cases hlt : i < n
    · obtain ⟨bA, oA, rfl, hc⟩ := H4.out (by omega)
      have sv := HP.out.s i hlt
      have c0 := hc i (by omega)
      obtain ⟨F, f, e, _, _⟩ := sv.form
      rw [e] at c0
      have e' := Lib.hid e
      obtain ⟨k, hk⟩ : ∃ k, k = (X i).length := ⟨_, rfl⟩
      rw [← hk] at c0 e'
      have c0' := gb_cell0 GG.out c0
      clear sv c0 e hc hk
      have hlen : ((List.range i).map V).length ≤ 1000000 := by rw [List.length_map, List.length_range]; omega
      go_wp2_with (at_builtin; refine ownt_append (by kernel_rfl) 32 (by kernel_rfl) (.tmp 11) (.tmp 16) rfl rfl _ _ rfl (OV.out.grown0 (gb_alloc (gb_refl wr none) _)) _ _ _ _ rfl ((cs_new wr _ _).cell 0 rfl) hlen (Nat.le_trans GG.out.size (gb_alloc (gb_refl wr none) _).size) ?_; intro v3' w3 ow3 g3)
      have ga := gb_alloc (gb_refl wr none) (Obj.cells #[.slice F k f] 34)
      refine ⟨⟨i + 1, by go_num, by omega, ?_, gb_new (gb_trans GG.out ga) g3 (fun b hb => ((OV.out.grown0 ga).lt b hb).1)⟩, by show n - ((i : Int) + 1).toNat < n - (i : Int).toNat; omega⟩
      rw [List.range_succ, List.map_append, List.map_cons, List.map_nil, e'.out]
      exact ow3
    · obtain rfl : i = n := by omega
      go_wp2
      go_ret
      refine ⟨_, rfl, OV.out.ptsOf (fun j hj => (HP.out.s j hj).grown0 GG.out), OV.out.lt, GG.out⟩
/-- A row cut. -/
def cutV (v : Value) (n : Nat) : Value := match v with
  | .slice A m c => .slice A (min m n) c
  | v => v
theorem Sl.cutV {w : World} {v : Value} {xs : List Int} (h : Sl w v xs) (n : Nat) : Sl w (cutV v n) (xs.take n) := by
  obtain ⟨A, c, rfl, _, _⟩ := h.form
  have := h.take (min xs.length n) (by omega)
  rw [Nat.min_comm, ← List.take_eq_take_min] at this
  rw [Nat.min_comm] at this
  exact this
theorem cut2_c (w : World) (v : Value) (xs : List Int) (n : Nat) (hn : n ≤ 1000000) (h : Sl w v xs) :
    Calls Tryz.prog 18 #[v, .int .i64 n] w fun e w' => e = .returned (cutV v n) ∧ w' = w := by
  obtain ⟨A, c, rfl, h1, h2⟩ := h.form
  obtain ⟨m, hm⟩ : ∃ m, m = xs.length := ⟨_, rfl⟩
  rw [← hm] at h1 h
  show Calls _ _ _ _ fun e w' => e = .returned (.slice A (min xs.length n) c) ∧ w' = w
  rw [← hm]
  clear h hm
  by_cases hle : n < m
  · rw [show min m n = n by omega]
    go_enter Tryz.func18, Tryz.ntmps18
    go_wp2
    go_ret
    exact ⟨rfl, rfl⟩
  · rw [show min m n = m by omega]
    go_enter Tryz.func18, Tryz.ntmps18
    go_wp2 <;> (go_ret; exact ⟨rfl, rfl⟩)
theorem cuts_c (w : World) (n r k : Nat) (v : Value) (V : Nat → Value) (X : Nat → List Int) (h : Pts w v r V X) (hk : k ≤ 1000) (hn : n ≤ 1000000) :
    Calls Tryz.prog 11 #[v, .int .i64 k, .int .i64 n] w fun e w' => ∃ u, e = .returned u ∧ Pts w' u (min r k) (fun j => cutV (V j) n) (fun j => (X j).take n) ∧ w.grownBy w' none := by
  have HP := Lib.hid h
  obtain ⟨A, ca, rfl, hca, _, h4⟩ := h.c
  have H4 := Lib.hid h4
  clear h h4
  go_enter Tryz.func11, Tryz.ntmps11
  go_wp2
  go_loopw [7, 8] (fun v3 v4 wr => ∃ (i : Nat), v4 = .int .i64 i ∧ i ≤ r ∧ i ≤ k ∧ OwnT 29 wr w.heap.size v3 ((List.range i).map (fun j => cutV (V j) n)) ∧ w.grownBy wr none) (fun _ v4 _ => r - (intOf v4).toNat)
  case atStart => exact ⟨0, rfl, by omega, by omega, ownt_nil _ _ _, gb_refl _ _⟩
  case round =>
    obtain ⟨i, rfl, hi, hik, ow, G⟩ := hrel
    have OV := Lib.hid ow
    have GG := Lib.hid G
    clear ow G
    have E1 : Hid (∀ u, min r k = i → OwnT 29 wr w.heap.size u ((List.range i).map (fun j => cutV (V j) n)) → Pts wr u (min r k) (fun j => cutV (V j) n) (fun j => (X j).take n)) := Lib.hid (fun u e o => by
      rw [e]
      exact o.ptsOf (fun j hj => ((HP.out.s j (by omega)).cutV n).grown0 GG.out))
    by_cases hlt : i < r
    · by_cases hkk : i < k
      · obtain ⟨bA, oA, rfl, hc⟩ := H4.out (by omega)
        have sv := HP.out.s i hlt
        have c0 := hc i (by omega)
        obtain ⟨F, f, e, _, _⟩ := (sv.cutV n).form
        have e' := Lib.hid e
        obtain ⟨z, hz⟩ : ∃ z, z = ((X i).take n).length := ⟨_, rfl⟩
        rw [← hz] at e'
        have CU := cut2_c wr (V i) (X i) n hn (sv.grown0 GG.out)
        rw [e'.out] at CU
        have HCU := Lib.hid CU
        have c0' := gb_cell0 GG.out c0
        have hlen : ((List.range i).map (fun j => cutV (V j) n)).length ≤ 1000000 := by rw [List.length_map, List.length_range]; omega
        clear sv c0 e hc hz CU E1
        go_wp2_with fail
        refine (HCU.out).mono ?_
        rintro e w1 ⟨rfl, hw⟩
        subst hw
        clear HCU
        go_wp2_with (at_builtin; refine ownt_append (by kernel_rfl) 24 (by kernel_rfl) (.tmp 20) (.tmp 27) rfl rfl _ _ rfl (OV.out.grown0 (gb_alloc (gb_refl w1 none) _)) _ _ _ _ rfl ((cs_new w1 _ _).cell 0 rfl) hlen (Nat.le_trans GG.out.size (gb_alloc (gb_refl w1 none) _).size) ?_; intro v3' w3 ow3 g3)
        have ga := gb_alloc (gb_refl w1 none) (Obj.cells #[.slice F z f] 29)
        refine ⟨⟨i + 1, by go_num, by omega, by omega, ?_, gb_new (gb_trans GG.out ga) g3 (fun b hb => ((OV.out.grown0 ga).lt b hb).1)⟩, by show r - ((i : Int) + 1).toNat < r - (i : Int).toNat; omega⟩
        rw [List.range_succ, List.map_append, List.map_cons, List.map_nil, e'.out]
        exact ow3
      · go_wp2
        go_ret
        exact ⟨_, rfl, E1.out _ (by omega) OV.out, GG.out⟩
    · go_wp2
      go_ret
      exact ⟨_, rfl, E1.out _ (by omega) OV.out, GG.out⟩
theorem rprod_c (w : World) (n L : Nat) (v : Value) (V : Nat → Value) (X : Nat → List Int) (h : Pts w v n V X) (hX : ∀ j, j < n → (X j).length ≤ L) (hn : n ≤ 1000) (hL : L ≤ 400) :
    Calls Tryz.prog 14 #[v] w fun e w' => ∃ u, e = .returned u ∧ Nm w' u (prV (fun j => val B64 (X j)) 0 n) (2 + n * (2 * L)) ∧ w.grownBy w' none := by
  have HP := Lib.hid h
  have HX := Lib.hid hX
  obtain ⟨A, ca, rfl, hca, _, h4⟩ := h.c
  have H4 := Lib.hid h4
  clear h h4 hX
  have SM := Lib.hid (small_c w 1 (by decide) (by decide))
  go_enter Tryz.func14, Tryz.ntmps14
  go_wp2_with fail
  refine (SM.out).mono ?_
  rintro e w1 ⟨u, rfl, N, g⟩
  have NN := Lib.hid N
  have G1 := Lib.hid g
  clear N g SM
  go_wp2
  go_loopw [3, 4] (fun v3 v4 wr => ∃ (i : Nat), v4 = .int .i64 i ∧ i ≤ n ∧ Nm wr v3 (prV (fun j => val B64 (X j)) 0 i) (2 + i * (2 * L)) ∧ w.grownBy wr none) (fun _ v4 _ => n - (intOf v4).toNat)
  case atStart => exact ⟨0, rfl, by omega, by simpa [prV] using NN.out, G1.out⟩
  case round =>
    clear NN G1
    obtain ⟨i, rfl, hi, nm, G⟩ := hrel
    have NV := Lib.hid nm
    have GG := Lib.hid G
    clear nm G
    by_cases hlt : i < n
    · obtain ⟨bA, oA, rfl, hc⟩ := H4.out (by omega)
      have sv := HP.out.s i hlt
      have c0 := hc i (by omega)
      have FR := from_c wr (V i) (X i) L (sv.grown0 GG.out) (HX.out i hlt) (by omega)
      obtain ⟨F, f, e, _, _⟩ := sv.form
      rw [e] at c0 FR
      obtain ⟨z, hz⟩ : ∃ z, z = (X i).length := ⟨_, rfl⟩
      rw [← hz] at c0 FR
      have HF := Lib.hid FR
      have c0' := gb_cell0 GG.out c0
      have hb : i * (2 * L) ≤ 1000 * (2 * 400) := Nat.mul_le_mul (by omega) (by omega)
      have eb : (i + 1) * (2 * L) = i * (2 * L) + 2 * L := Nat.succ_mul _ _
      have HB := Lib.hid hb
      have EB := Lib.hid eb
      clear sv c0 e hc hz FR hb eb
      go_wp2_with fail
      refine (HF.out).mono ?_
      rintro e w2 ⟨x, rfl, nx, g2⟩
      have MU := Lib.hid (mul_c w2 _ x _ _ _ _ (NV.out.grown0 g2) nx (by have := HB.out; omega) (by omega))
      have G2 := Lib.hid (gb_trans GG.out g2)
      clear nx g2 HF
      go_wp2_with fail
      refine (MU.out).mono ?_
      rintro e w3 ⟨y, rfl, ny, g3⟩
      have NY := Lib.hid ny
      have G3 := Lib.hid (gb_trans G2.out g3)
      clear ny g3 MU
      go_wp2
      refine ⟨⟨i + 1, by go_num, by omega, ?_, G3.out⟩, by show n - ((i : Int) + 1).toNat < n - (i : Int).toNat; omega⟩
      have e := NY.out
      rw [EB.out, show prV (fun j => val B64 (X j)) 0 (i + 1) = prV (fun j => val B64 (X j)) 0 i * val B64 (X i) by rw [prV, Nat.zero_add]]
      rw [Nat.add_assoc] at e
      exact e
    · obtain rfl : i = n := by omega
      go_wp2
      go_ret
      exact ⟨_, rfl, NV.out, GG.out⟩
end Go.Proofs.YtldkiddoajlohaaGreatDoor

/- Chapter 12: the product of any rows. -/
namespace Go.Proofs.YtldkiddoajlohaaGreatDoor
open Go.RowKit

theorem tot_le {X : Nat → List Int} {L : Nat} (h : ∀ j, (X j).length ≤ L) (i : Nat) : ∀ n, tot X i n ≤ n * L
  | 0 => by simp [tot]
  | n + 1 => by
    have h1 := tot_le h i n
    have h2 : tot X i (n + 1) = tot X i n + (X (i + n)).length := rfl
    have h3 := h (i + n)
    have h4 : (n + 1) * L = n * L + L := Nat.succ_mul _ _
    omega
set_option maxRecDepth 100000 in
set_option maxHeartbeats 4000000 in
theorem MulProducts_walk (t : Tb) (v : Value) (n : Nat) (V : Nat → Value) (X : Nat → List Int) (w : World) (hp : Pts w v n V X) (hd : Db w) :
    Calls Tryz.prog 3 #[t.v, v] w fun e w' => e = .returned (.bool true) ∧ w.grownBy w' none := by
  have C0 := cs_new w #[.int .i64 t.eb, .int .i64 t.et, .int .i64 t.en, .int .i64 t.ed, .int .i64 t.er, .int .i64 t.el, .int .i64 t.ex, .int .i64 t.ep, .int .i64 t.ek, .int .i64 t.es, .int .i64 t.ee] 23
  have hg := gb_alloc (gb_refl w none) (Obj.cells #[.int .i64 t.eb, .int .i64 t.et, .int .i64 t.en, .int .i64 t.ed, .int .i64 t.er, .int .i64 t.el, .int .i64 t.ex, .int .i64 t.ep, .int .i64 t.ek, .int .i64 t.es, .int .i64 t.ee] 23)
  have HG := Lib.hid hg
  have HC0 := Lib.hid C0
  have CA := Lib.hid (fun w1 (g : w.grownBy w1 none) => cuts_c w1 12 n 8 v V X (hp.grown0 g) (by decide) (by decide))
  obtain ⟨A, ca, rfl, _, _⟩ := hp.c
  have HD := Lib.hid hd
  clear hp hd C0 hg
  go_enter Tryz.func3, Tryz.ntmps3
  go_wp2_with fail
  refine (CA.out _ HG.out).mono ?_
  rintro e w1 ⟨u, rfl, pt, g1⟩
  have G1 := Lib.hid (gb_trans HG.out g1)
  have PT := Lib.hid pt
  have HC1 := Lib.hid (HC0.out.grown0 g1)
  obtain ⟨m, hm⟩ : ∃ m, m = min n 8 := ⟨_, rfl⟩
  have hm8 : m ≤ 8 := by omega
  rw [← hm] at PT
  have HL : Hid (∀ j, ((X j).take 12).length ≤ 12) := Lib.hid (fun j => by rw [List.length_take]; omega)
  obtain ⟨Y, hY⟩ : ∃ Y : Nat → List Int, Y = fun j => (X j).take 12 := ⟨_, rfl⟩
  obtain ⟨U', hU⟩ : ∃ Y : Nat → Value, Y = fun j => cutV (V j) 12 := ⟨_, rfl⟩
  rw [← hY, ← hU] at PT
  have HL2 : Hid (∀ j, (Y j).length ≤ 12) := Lib.hid (by rw [hY]; exact HL.out)
  clear hY hU pt g1 HC0 CA hm HL
  have NW := Lib.hid (fun w => En.new w t)
  have HD2 := Lib.hid (HD.out.grown0 G1.out)
  have U := Lib.hid t.clamp_ok
  obtain ⟨A', ca', rfl, _, _⟩ := PT.out.c
  have c0 := HC1.out.cell 0 rfl
  have c1 := HC1.out.cell 1 rfl
  have c2 := HC1.out.cell 2 rfl
  have c3 := HC1.out.cell 3 rfl
  have c4 := HC1.out.cell 4 rfl
  have c5 := HC1.out.cell 5 rfl
  have c6 := HC1.out.cell 6 rfl
  have c7 := HC1.out.cell 7 rfl
  have c8 := HC1.out.cell 8 rfl
  have c9 := HC1.out.cell 9 rfl
  have c10 := HC1.out.cell 10 rfl
  go_wp2_with fail
  refine (NW.out _).mono ?_
  rintro e w3 ⟨g0, g1, g2, g3, gm, rfl, en, hgm, g3'⟩
  clear c0 c1 c2 c3 c4 c5 c6 c7 c8 c9 c10
  have E3 := Lib.hid en
  have G3 := Lib.hid g3'
  have PT3 := Lib.hid (PT.out.grown0 g3')
  have HGM := Lib.hid hgm
  clear en g3' hgm NW HC1 HD
  have NT := Lib.hid (nats_c w3 m _ U' Y PT3.out (by omega))
  go_wp2_with fail
  refine (NT.out).mono ?_
  rintro e w4 ⟨u4, rfl, p4, _, g4⟩
  have G4 := Lib.hid (gb_trans G3.out g4)
  have PT4 := Lib.hid (PT3.out.grown0 g4)
  have E4 := Lib.hid (E3.out.grown0 g4)
  have RP := Lib.hid (rprod_c w4 m 12 u4 U' Y p4 (fun j _ => HL2.out j) (by omega) (by decide))
  clear p4 g4 NT E3 PT3
  go_wp2_with fail
  refine (RP.out).mono ?_
  rintro e w5 ⟨p, rfl, np, g5⟩
  have G5 := Lib.hid (gb_trans G4.out g5)
  have E5 := Lib.hid (E4.out.grown0 g5)
  have NP := Lib.hid np
  have NT := Lib.hid (nats_c w5 m _ U' Y (PT4.out.grown0 g5) (by omega))
  clear np g5 RP E4 PT4
  go_wp2_with fail
  refine (NT.out).mono ?_
  rintro e w6 ⟨u6, rfl, p6, o6, g6⟩
  have G6 := Lib.hid (gb_trans G5.out g6)
  have E6 := Lib.hid (E5.out.grown0 g6)
  have NP6 := Lib.hid (NP.out.grown0 g6)
  have OU : Hid (Off u6 gm) := Lib.hid (fun b hb => by
    have h1 := (o6 b hb).1
    have h2 := E5.out.lt
    omega)
  have P1 := Lib.hid (E6.out.prod U.out (HD2.out.grown0 G6.out) (n := m) (by omega) (by omega) p6 OU.out (fun j hj => E6.out.off (p6.s j hj)) (by have := tot_le HL2.out 0 m; omega))
  clear p6 o6 g6 NT E5 NP
  go_wp2_with fail
  refine (P1.out).mono ?_
  rintro e w7 ⟨x7, c7, a7, rfl, o7, en, ha7, g7⟩
  have G7 := Lib.hid (gb_new G6.out g7 (fun i hi => by cases hi; exact HGM.out))
  have SM := Lib.hid (same2_c w7 p x7 _ _ (E6.out.nm NP6.out g7) o7.wd (by omega))
  clear o7 en ha7 g7 P1 E6
  go_wp2_with fail
  refine (SM.out).mono ?_
  rintro e w8 ⟨rfl, g8⟩
  have G8 := Lib.hid (gb_trans G7.out g8)
  have WK := Lib.hid (wakes12_c w8 (HD2.out.grown0 G8.out))
  clear g8 SM
  go_wp2_with fail
  refine (WK.out).mono ?_
  rintro e w9 ⟨rfl, g9⟩
  go_wp2
  go_ret
  exact ⟨rfl, gb_trans G1.out (gb_trans G8.out g9)⟩
end Go.Proofs.YtldkiddoajlohaaGreatDoor

/- An argument: rows of rows. -/
namespace Go.Proofs.YtldkiddoajlohaaGreatDoor
open Go.RowKit Go.Deep Go.ChangeShapes Go.WideShapes

set_option maxRecDepth 100000 in
theorem open_rows {H : Type} {enc : TypeId × Value → H} {w : World} {base b0 : Nat} {held : Bool} {r : Reach} {v : Value} {d : DataW H} {ps : List MemPlace} (hval : Value.okWide Tryz.prog w r b0 24 v)
    (hd : DataW.Trod enc Tryz.prog w base (fun _ => true) held 24 v d ps) : ∃ n V X, Pts w v n V X := by
  obtain ⟨a, len, cap, rfl⟩ := okWide_slice Tryz.underlying24 hval
  obtain ⟨fuel, hf⟩ := hd
  rcases open_int_rows Tryz.underlying24 Tryz.underlying29 Tryz.underlying79 (by kernel_rfl) (by kernel_rfl) hf with ⟨hcs, _⟩ | ⟨x, l, c, A, L, C, Z, hcs, _, hl, hm, _, hall⟩
  · simp [Value.cells] at hcs
    obtain ⟨rfl, rfl, rfl⟩ := hcs
    exact ⟨0, fun _ => undef, fun _ => [], cells_none _ _ _, fun j hj => by omega⟩
  · simp [Value.cells] at hcs
    obtain ⟨rfl, rfl, rfl⟩ := hcs
    refine ⟨len, fun j => .slice (A j) (L j) (C j), fun j => (Z j).take (L j), cells_of hl hm (by decide) (fun j hj => (hall j (by omega)).1), fun j hj => ?_⟩
    obtain ⟨_, h1, h2, h3, h4, h5, h6⟩ := hall j (by omega)
    cases hA : A j with
    | none =>
      have hc := h5 hA
      have hl0 : L j = 0 := by omega
      rw [hc, hl0, List.take_zero]
      exact sl_none _
    | some y =>
      exact sl_of_cells h1 h2 h3 (fun i hi => (h6 y hA).2 i (by omega)) h4
end Go.Proofs.YtldkiddoajlohaaGreatDoor
