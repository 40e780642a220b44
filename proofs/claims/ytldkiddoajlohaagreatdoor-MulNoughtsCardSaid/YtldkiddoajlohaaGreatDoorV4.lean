/- Contracts of the program's functions, and plain laws (Toom3, Toom4, Toom5, Kara3, Toom6, Toom7, Tab1, Tab2, Tab3, Mul1), for every input that their premises let in. -/
import Derived.Test.YtldkiddoajlohaaGreatDoorV3
import Derived.Test.YtldkiddoajlohaaGreatDoorV1
/- Three pieces: a number's values. -/
namespace Go.Proofs.YtldkiddoajlohaaGreatDoor
open Go.RowKit

theorem load_agg {P : Program} {ty : TypeId} {w : World} {g : Nat} {l : List Value} (hc : Cs w g l) (ha : aggB P ty = true) (hi : (P.info? ty).map (·.size) = some l.length) : (loadVar ty ⟨g, 0, none⟩).run P w = .ok (.agg l.toArray) w := by
  obtain ⟨d, hu, hd⟩ := aggB_spec ha
  have hl : (loadCells ⟨g, 0, none⟩ l.length).run P w = .ok l.toArray w :=
    run_loadCells_list (P := P) w ⟨g, 0, none⟩ l (fun j v hv => by
      have hadd : (⟨g, 0, none⟩ : Addr).add j = ⟨g, j, none⟩ := by unfold Addr.add; split <;> simp_all
      rw [hadd]
      exact hc.cell j hv)
  cases hq : P.info? ty with
  | none => simp [hq] at hi
  | some i =>
    have hs : i.size = l.length := by simpa [hq] using hi
    have hagg : (isAgg ty).run P w = .ok true w := by
      unfold isAgg
      rw [Sem.run_bind, run_underlying hu w]
      cases d <;> simp_all
    simp [loadVar, Sem.run_bind, hagg, sizeOf, typeInfo, hq, hs, hl]
/-- Five results that lie in memory. -/
theorem res_agg5 {P : Program} {fn : Func} {p0 p1 p2 p3 p4 : Tmp} {ty : TypeId} (h : fn.results = #[.cell p0 ty, .cell p1 ty, .cell p2 ty, .cell p3 ty, .cell p4 ty]) {tmps : Array Value} {w : World} {g0 g1 g2 g3 g4 : Nat} {l0 l1 l2 l3 l4 : List Value}
    (c0 : Cs w g0 l0) (c1 : Cs w g1 l1) (c2 : Cs w g2 l2) (c3 : Cs w g3 l3) (c4 : Cs w g4 l4)
    (q0 : tmps.getD p0 undef = .pointer (some ⟨g0, 0, none⟩)) (q1 : tmps.getD p1 undef = .pointer (some ⟨g1, 0, none⟩)) (q2 : tmps.getD p2 undef = .pointer (some ⟨g2, 0, none⟩)) (q3 : tmps.getD p3 undef = .pointer (some ⟨g3, 0, none⟩)) (q4 : tmps.getD p4 undef = .pointer (some ⟨g4, 0, none⟩))
    (ha : aggB P ty = true) (hi0 : (P.info? ty).map (·.size) = some l0.length) (hi1 : (P.info? ty).map (·.size) = some l1.length) (hi2 : (P.info? ty).map (·.size) = some l2.length) (hi3 : (P.info? ty).map (·.size) = some l3.length) (hi4 : (P.info? ty).map (·.size) = some l4.length) :
    (results fn tmps).run P w = .ok (.tuple #[.agg l0.toArray, .agg l1.toArray, .agg l2.toArray, .agg l3.toArray, .agg l4.toArray]) w := by
  have r0 := load_agg c0 ha hi0
  have r1 := load_agg c1 ha hi1
  have r2 := load_agg c2 ha hi2
  have r3 := load_agg c3 ha hi3
  have r4 := load_agg c4 ha hi4
  have s0 : tmps[p0]?.getD undef = .pointer (some ⟨g0, 0, none⟩) := by simpa using q0
  have s1 : tmps[p1]?.getD undef = .pointer (some ⟨g1, 0, none⟩) := by simpa using q1
  have s2 : tmps[p2]?.getD undef = .pointer (some ⟨g2, 0, none⟩) := by simpa using q2
  have s3 : tmps[p3]?.getD undef = .pointer (some ⟨g3, 0, none⟩) := by simpa using q3
  have s4 : tmps[p4]?.getD undef = .pointer (some ⟨g4, 0, none⟩) := by simpa using q4
  simp [results, h, s0, s1, s2, s3, s4, asAddr, r0, r1, r2, r3, r4]
theorem segs_gen {P : Program} {ops : Array Oper} {F : List (Addr × Value)} {K : Act → World → Prop} {l : List Oper} {a : Act} {w : World} (R : World → Prop) (hR : R w) (h : ∀ w', R w' → Canon.segs P ops F K l a w') : Canon.segs P ops F K l a w := h w hR
/-- Five whole numbers in memory. -/
structure P5 (w : World) (B : Nat) (l0 l1 l2 l3 l4 : List Value) : Prop where
  c0 : Cs w B l0
  c1 : Cs w (B + 1) l1
  c2 : Cs w (B + 1 + 1) l2
  c3 : Cs w (B + 1 + 1 + 1) l3
  c4 : Cs w (B + 1 + 1 + 1 + 1) l4
  lt : B + 4 < w.heap.size
theorem P5.grown0 {w w' : World} {B : Nat} {l0 l1 l2 l3 l4 : List Value} (h : P5 w B l0 l1 l2 l3 l4) (g : w.grownBy w' none) : P5 w' B l0 l1 l2 l3 l4 :=
  ⟨h.c0.grown0 g, h.c1.grown0 g, h.c2.grown0 g, h.c3.grown0 g, h.c4.grown0 g, Nat.lt_of_lt_of_le h.lt g.size⟩
theorem P5.drew {w : World} {B : Nat} {l0 l1 l2 l3 l4 : List Value} (h : P5 w B l0 l1 l2 l3 l4) : P5 w.drew B l0 l1 l2 l3 l4 := ⟨h.c0.drew, h.c1.drew, h.c2.drew, h.c3.drew, h.c4.drew, h.lt⟩
theorem P5.new (w : World) (t : TypeId) (o : Array Value) : P5 (((((w.alloc (.cells o t)).alloc (.cells o t)).alloc (.cells o t)).alloc (.cells o t)).alloc (.cells o t)) w.heap.size o.toList o.toList o.toList o.toList o.toList := by
  have e1 := alloc_sz w (.cells o t)
  have e2 := alloc_sz (w.alloc (.cells o t)) (.cells o t)
  have e3 := alloc_sz ((w.alloc (.cells o t)).alloc (.cells o t)) (.cells o t)
  have e4 := alloc_sz (((w.alloc (.cells o t)).alloc (.cells o t)).alloc (.cells o t)) (.cells o t)
  have e5 := alloc_sz ((((w.alloc (.cells o t)).alloc (.cells o t)).alloc (.cells o t)).alloc (.cells o t)) (.cells o t)
  have g := fun (a : World) => gb_alloc (gb_refl a none) (Obj.cells o t)
  have k0 := cs_new w o t
  have k1 := cs_new (w.alloc (.cells o t)) o t
  have k2 := cs_new ((w.alloc (.cells o t)).alloc (.cells o t)) o t
  have k3 := cs_new (((w.alloc (.cells o t)).alloc (.cells o t)).alloc (.cells o t)) o t
  have k4 := cs_new ((((w.alloc (.cells o t)).alloc (.cells o t)).alloc (.cells o t)).alloc (.cells o t)) o t
  rw [e1] at k1
  rw [e2, e1] at k2
  rw [e3, e2, e1] at k3
  rw [e4, e3, e2, e1] at k4
  exact ⟨(((k0.grown0 (g _)).grown0 (g _)).grown0 (g _)).grown0 (g _), ((k1.grown0 (g _)).grown0 (g _)).grown0 (g _), (k2.grown0 (g _)).grown0 (g _), k3.grown0 (g _), k4, by omega⟩
theorem P5.s0 {w : World} {B : Nat} {l0 l1 l2 l3 l4 : List Value} (h : P5 w B l0 l1 l2 l3 l4) (q : Nat) (u : Value) : P5 (w.setCell ⟨B, q, none⟩ u) B (l0.set q u) l1 l2 l3 l4 :=
  ⟨h.c0.set q u, h.c1.other (by omega) q u, h.c2.other (by omega) q u, h.c3.other (by omega) q u, h.c4.other (by omega) q u, by simpa using h.lt⟩
theorem P5.s1 {w : World} {B : Nat} {l0 l1 l2 l3 l4 : List Value} (h : P5 w B l0 l1 l2 l3 l4) (q : Nat) (u : Value) : P5 (w.setCell ⟨B + 1, q, none⟩ u) B l0 (l1.set q u) l2 l3 l4 :=
  ⟨h.c0.other (by omega) q u, h.c1.set q u, h.c2.other (by omega) q u, h.c3.other (by omega) q u, h.c4.other (by omega) q u, by simpa using h.lt⟩
theorem P5.s2 {w : World} {B : Nat} {l0 l1 l2 l3 l4 : List Value} (h : P5 w B l0 l1 l2 l3 l4) (q : Nat) (u : Value) : P5 (w.setCell ⟨B + 1 + 1, q, none⟩ u) B l0 l1 (l2.set q u) l3 l4 :=
  ⟨h.c0.other (by omega) q u, h.c1.other (by omega) q u, h.c2.set q u, h.c3.other (by omega) q u, h.c4.other (by omega) q u, by simpa using h.lt⟩
theorem P5.s3 {w : World} {B : Nat} {l0 l1 l2 l3 l4 : List Value} (h : P5 w B l0 l1 l2 l3 l4) (q : Nat) (u : Value) : P5 (w.setCell ⟨B + 1 + 1 + 1, q, none⟩ u) B l0 l1 l2 (l3.set q u) l4 :=
  ⟨h.c0.other (by omega) q u, h.c1.other (by omega) q u, h.c2.other (by omega) q u, h.c3.set q u, h.c4.other (by omega) q u, by simpa using h.lt⟩
theorem P5.s4 {w : World} {B : Nat} {l0 l1 l2 l3 l4 : List Value} (h : P5 w B l0 l1 l2 l3 l4) (q : Nat) (u : Value) : P5 (w.setCell ⟨B + 1 + 1 + 1 + 1, q, none⟩ u) B l0 l1 l2 l3 (l4.set q u) :=
  ⟨h.c0.other (by omega) q u, h.c1.other (by omega) q u, h.c2.other (by omega) q u, h.c3.other (by omega) q u, h.c4.set q u, by simpa using h.lt⟩
theorem Wo.lim {w : World} {base n N : Nat} {v : Value} (h : Wo w base v n) (hn : n < B64 ^ N) (hN : N ≤ 1000000) : ∃ zs, Sl w v zs ∧ zs.length ≤ 1000000 ∧ val B64 zs = n := by
  obtain ⟨zs, s, l, e⟩ := h.get hn
  exact ⟨zs, s, by omega, e⟩
theorem four_lt {M a b c : Nat} (ha : a < B64 ^ M) (hb : b < B64 ^ M) (hc : c < B64 ^ M) : a + c < B64 ^ (M + 1) ∧ a + c + b < B64 ^ (M + 1) ∧ 2 * b < B64 ^ (M + 1) ∧ 4 * c < B64 ^ (M + 1) ∧ a + 2 * b + 4 * c < B64 ^ (M + 1) := by
  have : B64 ^ (M + 1) = B64 ^ M * 18446744073709551616 := Nat.pow_succ ..
  omega
theorem Cs.at0 {w : World} {g : Nat} {l : List Value} (h : Cs w g l) (j : Nat) {u : Value} (hu : l[j]? = some u) : w.cell? ((⟨g, 0, none⟩ : Addr).add j) = some u := by
  have e : (⟨g, 0, none⟩ : Addr).add j = ⟨g, j, none⟩ := by unfold Addr.add; split <;> simp_all
  rw [e]; exact h.cell j hu
theorem val_cut (xs : List Int) (k : Nat) : val B64 xs = val B64 (xs.take k) + B64 ^ k * val B64 (xs.drop k) := by
  by_cases h : k ≤ xs.length
  · exact val_take_drop B64 xs k h
  · rw [List.take_of_length_le (by omega), List.drop_eq_nil_of_le (by omega)]; simp [val]
theorem val_cut3 (xs : List Int) (k : Nat) : val B64 xs = val B64 (xs.take k) + B64 ^ k * val B64 ((xs.take (2 * k)).drop k) + B64 ^ k * B64 ^ k * val B64 (xs.drop (2 * k)) := by
  have e1 : (xs.take (2 * k)).drop k = (xs.drop k).take k := by rw [List.drop_take]; congr 1; omega
  have e2 : xs.drop (2 * k) = (xs.drop k).drop k := by rw [List.drop_drop]; congr 1; omega
  rw [e1, e2]
  have h1 := val_cut xs k
  have h2 := val_cut (xs.drop k) k
  rw [h2, Nat.mul_add, ← Nat.mul_assoc] at h1
  omega
theorem off_own {u v : Value} (h : ∀ gm, Off v gm → Off u gm) {b : Nat} (hu : u.ownBlock = some b) : v.ownBlock = some b := by
  by_cases e : v.ownBlock = some b
  · exact e
  · exact absurd rfl (h b (fun b' hb' hbb => e (by rw [hb', hbb])) b hu)
/-- Rows that are read, none of them in a block below D from B on. -/
def Rv (W : World) (D : Nat) (l : List (Value × List Int)) : Prop := ∀ (i : Nat) (p : Value × List Int), l[i]? = some p → Sl W p.1 p.2 ∧ (∀ b, p.1.ownBlock = some b → D ≤ b)
theorem Rv.grown0 {W W' : World} {D : Nat} {l : List (Value × List Int)} (h : Rv W D l) (g : W.grownBy W' none) : Rv W' D l := fun i p hp => ⟨(h i p hp).1.grown0 g, (h i p hp).2⟩
theorem Rv.set {W : World} {D : Nat} {l : List (Value × List Int)} (h : Rv W D l) (b q : Nat) (hb : b < D) (u : Value) : Rv (W.setCell ⟨b, q, none⟩ u) D l := fun i p hp =>
  ⟨(h i p hp).1.grown (gb_rowC (gb_refl W (some b)) q u) (fun b' hb' => by have := (h i p hp).2 b' hb'; simp; omega), (h i p hp).2⟩
theorem Rv.at {W : World} {D : Nat} {l : List (Value × List Int)} (h : Rv W D l) (i : Nat) {v : Value} {xs : List Int} (hp : l[i]? = some (v, xs)) : Sl W v xs := (h i _ hp).1
theorem Rv.three {W : World} {D : Nat} {u0 u1 u2 : Value} {l0 l1 l2 : List Int} (s0 : Sl W u0 l0) (s1 : Sl W u1 l1) (s2 : Sl W u2 l2) (b0 : ∀ b, u0.ownBlock = some b → D ≤ b) (b1 : ∀ b, u1.ownBlock = some b → D ≤ b) (b2 : ∀ b, u2.ownBlock = some b → D ≤ b) : Rv W D [(u0, l0), (u1, l1), (u2, l2)] := fun i p hp => by
  rcases i with _ | _ | _ | i
  · obtain rfl := Option.some.inj hp; exact ⟨s0, b0⟩
  · obtain rfl := Option.some.inj hp; exact ⟨s1, b1⟩
  · obtain rfl := Option.some.inj hp; exact ⟨s2, b2⟩
  · simp at hp
/-- Numbers as rows of the call's own, from block D on. -/
def Wv (W : World) (D : Nat) (l : List (Value × Nat)) : Prop := ∀ (i : Nat) (p : Value × Nat), l[i]? = some p → Wo W D p.1 p.2
theorem Wv.nil (W : World) (D : Nat) : Wv W D [] := fun i p hp => by simp at hp
theorem Wv.grown0 {W W' : World} {D : Nat} {l : List (Value × Nat)} (h : Wv W D l) (g : W.grownBy W' none) : Wv W' D l := fun i p hp => (h i p hp).grown0 g
theorem Wv.set {W : World} {D : Nat} {l : List (Value × Nat)} (h : Wv W D l) (b q : Nat) (hb : b < D) (u : Value) : Wv (W.setCell ⟨b, q, none⟩ u) D l := fun i p hp => by
  obtain ⟨zs, ow, nz, hv⟩ := h i p hp
  refine ⟨zs, ow.grown (gb_rowC (gb_refl W (some b)) q u) ?_, nz, hv⟩
  by_cases e : p.1.ownBlock = some b
  · have := (ow.lt b e).1; omega
  · exact .inr e
theorem Wv.add {W : World} {D D' : Nat} {l : List (Value × Nat)} (h : Wv W D l) {v : Value} {n : Nat} (hs : Wo W D' v n) (hd : D ≤ D') : Wv W D (l ++ [(v, n)]) := fun i p hp => by
  by_cases hi : i < l.length
  · rw [List.getElem?_append_left hi] at hp
    exact h i p hp
  · rw [List.getElem?_append_right (by omega)] at hp
    cases hj : i - l.length with
    | zero => rw [hj] at hp; obtain rfl := Option.some.inj hp; exact hs.mono hd
    | succ j => rw [hj] at hp; simp at hp
theorem Wv.drew {W : World} {D : Nat} {l : List (Value × Nat)} (h : Wv W D l) : Wv W.drew D l := fun i p hp => by
  obtain ⟨zs, ow, r⟩ := h i p hp
  exact ⟨zs, ow.drew, r⟩
theorem Wv.at {W : World} {D : Nat} {l : List (Value × Nat)} (h : Wv W D l) (i : Nat) {v : Value} {n : Nat} (hp : l[i]? = some (v, n)) : Wo W D v n := h i _ hp
set_option maxRecDepth 100000 in
set_option maxHeartbeats 8000000 in
theorem points_c (w : World) (va : Value) (al : List Int) (k : Nat) (ha : Sl w va al) (hl : al.length ≤ 16384) (hk1 : 1 ≤ k) (hk : k ≤ 16384) :
    Calls Tryz.prog 82 #[va, .int .i64 k] w fun e w' => ∃ x0 x1 xm x2 xi V0 V1 V2, e = .returned (.tuple #[.agg #[x0, .bool false], .agg #[x1, .bool false], .agg #[xm, .bool (decide (V0 + V2 < V1))], .agg #[x2, .bool false], .agg #[xi, .bool false]]) ∧
      val B64 al = V0 + B64 ^ k * V1 + B64 ^ k * B64 ^ k * V2 ∧ V0 < B64 ^ k ∧ V1 < B64 ^ k ∧ V2 < B64 ^ (al.length - 2 * k) ∧
      Wo w' w.heap.size x0 V0 ∧ Wo w' w.heap.size x1 (V0 + V2 + V1) ∧ Wo w' w.heap.size xm (V0 + V2 - V1 + (V1 - (V0 + V2))) ∧ Wo w' w.heap.size x2 (V0 + 2 * V1 + 4 * V2) ∧ Wo w' w.heap.size xi V2 ∧ w.grownBy w' none := by
  have P0 := P5.new w 103 #[.slice none 0 0, .bool false]
  have N0 := lnorm_c _ va al (ha.grown0 (gb_alloc (gb_alloc (gb_alloc (gb_alloc (gb_alloc (gb_refl w none) (Obj.cells #[.slice none 0 0, .bool false] 103)) (Obj.cells #[.slice none 0 0, .bool false] 103)) (Obj.cells #[.slice none 0 0, .bool false] 103)) (Obj.cells #[.slice none 0 0, .bool false] 103)) (Obj.cells #[.slice none 0 0, .bool false] 103))) (by omega)
  have G0 := gb_alloc (gb_alloc (gb_alloc (gb_alloc (gb_alloc (gb_refl w none) (Obj.cells #[.slice none 0 0, .bool false] 103)) (Obj.cells #[.slice none 0 0, .bool false] 103)) (Obj.cells #[.slice none 0 0, .bool false] 103)) (Obj.cells #[.slice none 0 0, .bool false] 103)) (Obj.cells #[.slice none 0 0, .bool false] 103)
  obtain ⟨A, ca, rfl, _, _⟩ := ha.form
  have HP0 := Lib.hid P0
  have HN0 := Lib.hid N0
  have HG0 := Lib.hid G0
  have HW := Lib.hid ha.ws
  clear P0 N0 G0 ha
  by_cases hk0 : k = 1
  · subst hk0
    have HK2 : Hid (2 = 2 * 1) := Lib.hid rfl
    go_enter Tryz.func82, Tryz.ntmps82
    go_wp2_with fail
    refine (HN0.out).mono ?_
    rintro e w1 ⟨y, rfl, oy, g1⟩
    obtain ⟨xs, hxs⟩ : ∃ l, l = trimZ al := ⟨_, rfl⟩
    have hxl : xs.length ≤ al.length := by rw [hxs]; exact trimZ_len _
    have hxv : val B64 xs = val B64 al := by rw [hxs]; exact val_trimZ _ _
    rw [← hxs] at oy
    have SY := oy.sl
    have D5 : w.heap.size + 1 + 1 + 1 + 1 + 1 ≤ (((((w.alloc (Obj.cells #[.slice none 0 0, .bool false] 103)).alloc (Obj.cells #[.slice none 0 0, .bool false] 103)).alloc (Obj.cells #[.slice none 0 0, .bool false] 103)).alloc (Obj.cells #[.slice none 0 0, .bool false] 103)).alloc (Obj.cells #[.slice none 0 0, .bool false] 103)).heap.size := by rw [alloc_sz, alloc_sz, alloc_sz, alloc_sz, alloc_sz]; exact Nat.le_refl _
    have BYY := Lib.hid (fun b hb => Nat.le_trans D5 (oy.lt b hb).1)
    obtain ⟨A1, c1, rfl, hc1, hc2⟩ := SY.form
    have HSY := Lib.hid SY
    have HXV := Lib.hid hxv
    have HXL := Lib.hid hxl
    have WX := Lib.hid SY.ws
    have P1 := Lib.hid (HP0.out.grown0 g1)
    have G1 := Lib.hid (gb_trans HG0.out g1)
    clear oy g1 HN0 HP0 HG0 hxs SY hxv hxl
    obtain ⟨n, hn⟩ : ∃ n, n = xs.length := ⟨_, rfl⟩
    rw [← hn] at HSY HXL hc1 BYY ⊢
    have HN := Lib.hid hn
    have bn : n ≤ 16384 := Nat.le_trans HXL.out hl
    clear hn
    have PA : Calls Tryz.prog 97 #[.slice A1 n c1, .int .i64 0, .int .i64 1] w1 fun e w' => ∃ u, e = .returned u ∧ Sl w1 u ((xs.take 1).drop 0) ∧ (∀ gm, Off (.slice A1 n c1) gm → Off u gm) ∧ w' = w1 := part_c w1 _ xs 0 1 HSY.out (fun _ => by omega) (by decide) (by omega)
    have HPA := Lib.hid PA
    have PB : Calls Tryz.prog 97 #[.slice A1 n c1, .int .i64 1, .int .i64 2] w1 fun e w' => ∃ u, e = .returned u ∧ Sl w1 u ((xs.take 2).drop 1) ∧ (∀ gm, Off (.slice A1 n c1) gm → Off u gm) ∧ w' = w1 := part_c w1 _ xs 1 2 HSY.out (fun _ => by have := HK2.out; omega) (by omega) (by omega)
    have HPB := Lib.hid PB
    have PC := part_c w1 _ xs 2 n HSY.out (fun h => by rw [← HN.out] at h; omega) (by omega) (by omega)
    have HPC := Lib.hid PC
    clear PA PB PC
    go_wp2_with fail
    refine (HPA.out).mono ?_
    rintro e w2 ⟨u0, rfl, s0, f0, hw2⟩
    subst hw2
    go_wp2_with fail
    refine (HPB.out).mono ?_
    rintro e w2 ⟨u1, rfl, s1, f1, hw2⟩
    subst hw2
    go_wp2_with fail
    refine (HPC.out).mono ?_
    rintro e w2 ⟨u2, rfl, s2, f2, hw2⟩
    subst hw2
    rw [List.drop_zero] at s0
    rw [List.take_of_length_le (show xs.length ≤ n by rw [← HN.out]; exact Nat.le_refl _)] at s2
    obtain ⟨X0, hX0⟩ : ∃ l, l = xs.take 1 := ⟨_, rfl⟩
    obtain ⟨X1, hX1⟩ : ∃ l, l = (xs.take 2).drop 1 := ⟨_, rfl⟩
    obtain ⟨X2, hX2⟩ : ∃ l, l = xs.drop 2 := ⟨_, rfl⟩
    rw [← hX0] at s0
    rw [← hX1] at s1
    rw [← hX2] at s2
    have HX0 := Lib.hid hX0
    have HX1 := Lib.hid hX1
    have HX2 := Lib.hid hX2
    clear hX0 hX1 hX2
    have R2 := Lib.hid (Rv.three s0 s1 s2 (fun b hb => BYY.out b (off_own f0 hb)) (fun b hb => BYY.out b (off_own f1 hb)) (fun b hb => BYY.out b (off_own f2 hb)))
    obtain ⟨V0, hV0⟩ : ∃ z, z = val B64 X0 := ⟨_, rfl⟩
    obtain ⟨V1, hV1⟩ : ∃ z, z = val B64 X1 := ⟨_, rfl⟩
    obtain ⟨V2, hV2⟩ : ∃ z, z = val B64 X2 := ⟨_, rfl⟩
    have HVV : Hid (V0 = val B64 X0 ∧ V1 = val B64 X1 ∧ V2 = val B64 X2) := Lib.hid ⟨hV0, hV1, hV2⟩
    have L3 : Hid (X0.length ≤ 16384 ∧ X1.length ≤ 16384 ∧ X2.length ≤ 16384) := Lib.hid (by
      rw [HX0.out, HX1.out, HX2.out, List.length_take, List.length_drop, List.length_take, List.length_drop, ← HN.out]; omega)
    have D5 : Hid (w.heap.size + 1 + 1 + 1 + 1 + 1 ≤ w2.heap.size) := Lib.hid (by have := P1.out.lt; omega)
    clear s0 s1 s2 f0 f1 f2 hV0 hV1 hV2 HPA HPB HPC HSY BYY
    have AD := ladd_c w2 u0 u2 _ _ (R2.out.at 0 rfl) (R2.out.at 2 rfl) (by have := L3.out.1; omega) (by have := L3.out.2.2; omega)
    rw [← HVV.out.1, ← HVV.out.2.2] at AD
    have HAD := Lib.hid AD
    clear AD
    go_wp2_with fail
    refine (HAD.out).mono ?_
    rintro e w3 ⟨ev, rfl, o3, g3⟩
    have W3 := Lib.hid ((Wv.nil w3 (w.heap.size + 1 + 1 + 1 + 1 + 1)).add o3 D5.out)
    have R3 := Lib.hid (R2.out.grown0 g3)
    have P3 := Lib.hid (P1.out.grown0 g3)
    have G3 := Lib.hid (gb_trans G1.out g3)
    clear o3 g3 HAD R2 P1 G1
    have NO := lnorm_c w3 u0 _ (R3.out.at 0 rfl) (by have := L3.out.1; omega)
    have HNO := Lib.hid NO
    clear NO
    go_wp2_with fail
    refine (HNO.out).mono ?_
    rintro e w4 ⟨x0, rfl, o4, g4⟩
    have D3 : Hid (w.heap.size + 1 + 1 + 1 + 1 + 1 ≤ w3.heap.size) := Lib.hid (by have := P3.out.lt; omega)
    have W4 := Lib.hid ((W3.out.grown0 g4).add (v := x0) (n := V0) ⟨_, o4, trimZ_nz _, by rw [val_trimZ, HVV.out.1]⟩ D3.out)
    have R4 := Lib.hid (R3.out.grown0 g4)
    have P4 := Lib.hid (P3.out.grown0 g4)
    have G4 := Lib.hid (gb_trans G3.out g4)
    obtain ⟨F0, c0', rfl, _, _⟩ := o4.sl.form
    clear o4 g4 HNO W3 R3 P3 G3
    obtain ⟨M, hM⟩ : ∃ M, M = 16384 := ⟨_, rfl⟩
    have BV : Hid (V0 + V2 < B64 ^ (M + 1) ∧ V0 + V2 + V1 < B64 ^ (M + 1) ∧ 2 * V1 < B64 ^ (M + 1) ∧ 4 * V2 < B64 ^ (M + 1) ∧ V0 + 2 * V1 + 4 * V2 < B64 ^ (M + 1)) := Lib.hid (by
      have t0 := val_lt (B := B64) (show Ws X0 by rw [HX0.out]; exact ws_take WX.out 1).dg
      have t1 := val_lt (B := B64) (show Ws X1 by rw [HX1.out]; exact ws_drop (ws_take WX.out 2) 1).dg
      have t2 := val_lt (B := B64) (show Ws X2 by rw [HX2.out]; exact ws_drop WX.out 2).dg
      rw [← HVV.out.1] at t0
      rw [← HVV.out.2.1] at t1
      rw [← HVV.out.2.2] at t2
      exact four_lt (Nat.lt_of_lt_of_le t0 (Nat.pow_le_pow_right (by decide) (by rw [hM]; exact L3.out.1))) (Nat.lt_of_lt_of_le t1 (Nat.pow_le_pow_right (by decide) (by rw [hM]; exact L3.out.2.1))) (Nat.lt_of_lt_of_le t2 (Nat.pow_le_pow_right (by decide) (by rw [hM]; exact L3.out.2.2))))
    have bM : M + 1 ≤ 16385 := by omega
    clear hM
    have c0 := P4.out.c0.cell 0 rfl
    have f0 := P4.out.c0.free 0 rfl
    obtain ⟨ws1, hws1⟩ : ∃ W, W = w4.setCell ⟨w.heap.size, 0, none⟩ (.slice F0 (trimZ X0).length c0') := ⟨_, rfl⟩
    have P5' := P4.out.s0 0 (.slice F0 (trimZ X0).length c0')
    have R5' := R4.out.set w.heap.size 0 (by omega) (.slice F0 (trimZ X0).length c0')
    have W5' := W4.out.set w.heap.size 0 (by omega) (.slice F0 (trimZ X0).length c0')
    have G5' := gb_set (p := ⟨w.heap.size, 0, none⟩) G4.out (Nat.le_refl _) (.slice F0 (trimZ X0).length c0')
    rw [← hws1] at P5' R5' W5' G5'
    obtain ⟨ze, se, le, vv⟩ := (W5'.at 0 rfl).lim BV.out.1 (by omega)
    have AD := ladd_c ws1 ev u1 ze _ se (R5'.at 1 rfl) le (by have := L3.out.2.1; omega)
    rw [vv, ← HVV.out.2.1] at AD
    have LE := less_c
    have HAD := Lib.hid AD
    have HP5 := Lib.hid P5'
    have HR5 := Lib.hid R5'
    have HW5 := Lib.hid W5'
    have HG5 := Lib.hid G5'
    have HWS := Lib.hid hws1
    clear AD P5' R5' W5' G5' se le vv LE P4 R4 W4 G4
    rw [hws1] at HAD
    clear hws1
    go_wp2_with fail
    refine (HAD.out).mono ?_
    rintro e w6 ⟨x1, rfl, o6, g6⟩
    rw [← HWS.out] at g6 o6
    have DS1 : Hid (w.heap.size + 1 + 1 + 1 + 1 + 1 ≤ ws1.heap.size) := Lib.hid (by have := HP5.out.lt; omega)
    have W6 := Lib.hid ((HW5.out.grown0 g6).add o6 DS1.out)
    have R6 := Lib.hid (HR5.out.grown0 g6)
    have P6 := Lib.hid (HP5.out.grown0 g6)
    have G6 := Lib.hid (gb_trans HG5.out g6)
    obtain ⟨z6, oz6, _, _⟩ := o6
    obtain ⟨F1, c1', rfl, _, _⟩ := oz6.sl.form
    clear oz6 g6 HAD HP5 HR5 HW5 HG5 HWS c0 f0
    have c0 := P6.out.c1.cell 0 rfl
    have f0 := P6.out.c1.free 0 rfl
    obtain ⟨ws2, hws2⟩ : ∃ W, W = w6.setCell ⟨w.heap.size + 1, 0, none⟩ (.slice F1 z6.length c1') := ⟨_, rfl⟩
    have P7' := P6.out.s1 0 (.slice F1 z6.length c1')
    have R7' := R6.out.set (w.heap.size + 1) 0 (by omega) (.slice F1 z6.length c1')
    have W7' := W6.out.set (w.heap.size + 1) 0 (by omega) (.slice F1 z6.length c1')
    have G7' := gb_set (p := ⟨w.heap.size + 1, 0, none⟩) G6.out (Nat.le_succ _) (.slice F1 z6.length c1')
    rw [← hws2] at P7' R7' W7' G7'
    obtain ⟨ze2, se, le, vv⟩ := (W7'.at 0 rfl).lim BV.out.1 (by omega)
    have LS := less_c ws2 ev u1 ze2 _ se (R7'.at 1 rfl) le (by have := L3.out.2.1; omega)
    rw [vv, ← HVV.out.2.1] at LS
    have HLS := Lib.hid LS
    have P7 := Lib.hid P7'
    have R7 := Lib.hid R7'
    have W7 := Lib.hid W7'
    have G7 := Lib.hid G7'
    have HWS := Lib.hid hws2
    clear LS P7' R7' W7' G7' se le vv P6 R6 W6 G6 DS1
    rw [hws2] at HLS
    clear hws2
    go_wp2_with fail
    refine (HLS.out).mono ?_
    rintro e w8 ⟨xm, rfl, o8, g8⟩
    rw [← HWS.out] at g8 o8
    have DS2 : Hid (w.heap.size + 1 + 1 + 1 + 1 + 1 ≤ ws2.heap.size) := Lib.hid (by have := P7.out.lt; omega)
    have W8 := Lib.hid ((W7.out.grown0 g8).add o8 DS2.out)
    have R8 := Lib.hid (R7.out.grown0 g8)
    have P8 := Lib.hid (P7.out.grown0 g8)
    have G8 := Lib.hid (gb_trans G7.out g8)
    obtain ⟨z8, oz8, _, _⟩ := o8
    obtain ⟨Fm, cm', rfl, _, _⟩ := oz8.sl.form
    obtain ⟨neg, hneg⟩ : ∃ b, b = decide (V0 + V2 < V1) := ⟨_, rfl⟩
    rw [← hneg]
    have HNEG := Lib.hid hneg
    clear oz8 g8 HLS P7 R7 W7 G7 HWS c0 f0 hneg
    have c0 := P8.out.c2.cell 0 rfl
    have f0 := P8.out.c2.free 0 rfl
    have c1 := P8.out.c2.cell 1 rfl
    have f1 := P8.out.c2.free 1 rfl
    obtain ⟨ws3, hws3⟩ : ∃ W, W = (w8.setCell ⟨w.heap.size + 1 + 1, 0, none⟩ (.slice Fm z8.length cm')).setCell ⟨w.heap.size + 1 + 1, 1, none⟩ (.bool neg) := ⟨_, rfl⟩
    have P9' := (P8.out.s2 0 (.slice Fm z8.length cm')).s2 1 (.bool neg)
    have R9' := (R8.out.set (w.heap.size + 1 + 1) 0 (by omega) (.slice Fm z8.length cm')).set (w.heap.size + 1 + 1) 1 (by omega) (.bool neg)
    have W9' := (W8.out.set (w.heap.size + 1 + 1) 0 (by omega) (.slice Fm z8.length cm')).set (w.heap.size + 1 + 1) 1 (by omega) (.bool neg)
    have G9' := gb_set (p := ⟨w.heap.size + 1 + 1, 1, none⟩) (gb_set (p := ⟨w.heap.size + 1 + 1, 0, none⟩) G8.out (by show w.heap.size ≤ w.heap.size + 1 + 1; omega) (.slice Fm z8.length cm')) (by show w.heap.size ≤ w.heap.size + 1 + 1; omega) (.bool neg)
    rw [← hws3] at P9' R9' W9' G9'
    have SH : Calls Tryz.prog 100 #[u1, .int .i64 1] ws3 fun e w' => ∃ x, e = .returned x ∧ Wo w' ws3.heap.size x (val B64 X1 * 2 ^ 1) ∧ ws3.grownBy w' none := lshl_c ws3 u1 _ 1 (R9'.at 1 rfl) (by have := L3.out.2.1; omega) (by decide) (by decide)
    rw [← HVV.out.2.1] at SH
    have HSH := Lib.hid SH
    have P9 := Lib.hid P9'
    have R9 := Lib.hid R9'
    have W9 := Lib.hid W9'
    have G9 := Lib.hid G9'
    have HWS := Lib.hid hws3
    clear SH P9' R9' W9' G9' P8 R8 W8 G8 DS2
    rw [hws3] at HSH
    clear hws3
    go_wp2_with fail
    refine (HSH.out).mono ?_
    rintro e w10 ⟨y1, rfl, o10, g10⟩
    rw [← HWS.out] at g10 o10
    have DS3 : Hid (w.heap.size + 1 + 1 + 1 + 1 + 1 ≤ ws3.heap.size) := Lib.hid (by have := P9.out.lt; omega)
    have W10 := Lib.hid ((W9.out.grown0 g10).add o10 DS3.out)
    have R10 := Lib.hid (R9.out.grown0 g10)
    have P10 := Lib.hid (P9.out.grown0 g10)
    have G10 := Lib.hid (gb_trans G9.out g10)
    clear o10 g10 HSH P9 R9 W9 G9 HWS c0 f0 c1 f1 DS3
    have SH : Calls Tryz.prog 100 #[u2, .int .i64 2] w10 fun e w' => ∃ x, e = .returned x ∧ Wo w' w10.heap.size x (val B64 X2 * 2 ^ 2) ∧ w10.grownBy w' none := lshl_c w10 u2 _ 2 (R10.out.at 2 rfl) (by have := L3.out.2.2; omega) (by decide) (by decide)
    rw [← HVV.out.2.2] at SH
    have HSH := Lib.hid SH
    clear SH
    go_wp2_with fail
    refine (HSH.out).mono ?_
    rintro e w11 ⟨y2, rfl, o11, g11⟩
    have DS4 : Hid (w.heap.size + 1 + 1 + 1 + 1 + 1 ≤ w10.heap.size) := Lib.hid (by have := P10.out.lt; omega)
    have W11 := Lib.hid ((W10.out.grown0 g11).add o11 DS4.out)
    have R11 := Lib.hid (R10.out.grown0 g11)
    have P11 := Lib.hid (P10.out.grown0 g11)
    have G11 := Lib.hid (gb_trans G10.out g11)
    clear o11 g11 HSH W10 R10 P10 G10 DS4
    obtain ⟨zy1, sy1, ly1, vy1⟩ := (W11.out.at 4 rfl).get (N := M + 1) (by have := BV.out; omega)
    obtain ⟨zy2, sy2, ly2, vy2⟩ := (W11.out.at 5 rfl).get (N := M + 1) (by have := BV.out; omega)
    have su0 := R11.out.at 0 rfl
    obtain ⟨Fy1, cy1, rfl, _, _⟩ := sy1.form
    obtain ⟨Fy2, cy2, rfl, _, _⟩ := sy2.form
    obtain ⟨Fu0, cu0, rfl, _, _⟩ := su0.form
    have PT := pts3 w11 34 _ _ _ _ zy1 zy2 su0 sy1 sy2
    have GP := gb_alloc (gb_refl w11 none) (Obj.cells #[.slice Fu0 X0.length cu0, .slice Fy1 zy1.length cy1, .slice Fy2 zy2.length cy2] 34)
    have JN := lsum_c _ 3 _ _ _ PT (by decide) (fun j hj => by
      have b1 := L3.out.1
      rcases (show j = 0 ∨ j = 1 ∨ j = 2 by omega) with rfl | rfl | rfl
      · show X0.length ≤ 100000; omega
      · show zy1.length ≤ 100000; omega
      · show zy2.length ≤ 100000; omega)
    rw [jS3] at JN
    have ej : val B64 (([X0, zy1, zy2] : List (List Int)).getD 0 []) + B64 ^ 0 * val B64 (([X0, zy1, zy2] : List (List Int)).getD 1 []) + B64 ^ 0 * B64 ^ 0 * val B64 (([X0, zy1, zy2] : List (List Int)).getD 2 []) = V0 + 2 * V1 + 4 * V2 := by
      show val B64 X0 + B64 ^ 0 * val B64 zy1 + B64 ^ 0 * B64 ^ 0 * val B64 zy2 = _
      rw [vy1, vy2, ← HVV.out.1, Nat.pow_zero]; omega
    rw [ej] at JN
    have HJN := Lib.hid JN
    have HGP := Lib.hid GP
    clear JN ej PT GP sy1 sy2 su0 ly1 ly2 vy1 vy2
    go_wp2_with fail
    refine (HJN.out).mono ?_
    rintro e w12 ⟨x2, rfl, o12, g12⟩
    have GA := gb_trans HGP.out g12
    have DS5 : Hid (w.heap.size + 1 + 1 + 1 + 1 + 1 ≤ (w11.alloc (Obj.cells #[.slice Fu0 X0.length cu0, .slice Fy1 zy1.length cy1, .slice Fy2 zy2.length cy2] 34)).heap.size) := Lib.hid (by have := P11.out.lt; have := HGP.out.size; omega)
    have W12 := Lib.hid ((W11.out.grown0 GA).add o12 DS5.out)
    have R12 := Lib.hid (R11.out.grown0 GA)
    have P12 := Lib.hid (P11.out.grown0 GA)
    have G12 := Lib.hid (gb_trans G11.out GA)
    obtain ⟨z12, oz12, _, _⟩ := o12
    obtain ⟨F2, c2', rfl, _, _⟩ := oz12.sl.form
    clear oz12 g12 GA HJN HGP W11 R11 P11 G11 DS5
    have c0 := P12.out.c3.cell 0 rfl
    have f0 := P12.out.c3.free 0 rfl
    obtain ⟨ws4, hws4⟩ : ∃ W, W = w12.setCell ⟨w.heap.size + 1 + 1 + 1, 0, none⟩ (.slice F2 z12.length c2') := ⟨_, rfl⟩
    have P13' := P12.out.s3 0 (.slice F2 z12.length c2')
    have R13' := R12.out.set (w.heap.size + 1 + 1 + 1) 0 (by omega) (.slice F2 z12.length c2')
    have W13' := W12.out.set (w.heap.size + 1 + 1 + 1) 0 (by omega) (.slice F2 z12.length c2')
    have G13' := gb_set (p := ⟨w.heap.size + 1 + 1 + 1, 0, none⟩) G12.out (by show w.heap.size ≤ w.heap.size + 1 + 1 + 1; omega) (.slice F2 z12.length c2')
    rw [← hws4] at P13' R13' W13' G13'
    have NO := lnorm_c ws4 u2 _ (R13'.at 2 rfl) (by have := L3.out.2.2; omega)
    have HNO := Lib.hid NO
    have P13 := Lib.hid P13'
    have R13 := Lib.hid R13'
    have W13 := Lib.hid W13'
    have G13 := Lib.hid G13'
    have HWS := Lib.hid hws4
    clear NO P13' R13' W13' G13' P12 R12 W12 G12
    rw [hws4] at HNO
    clear hws4
    go_wp2_with fail
    refine (HNO.out).mono ?_
    rintro e w14 ⟨xi, rfl, o14, g14⟩
    rw [← HWS.out] at g14 o14
    have DS6 : Hid (w.heap.size + 1 + 1 + 1 + 1 + 1 ≤ ws4.heap.size) := Lib.hid (by have := P13.out.lt; omega)
    have W14 := Lib.hid ((W13.out.grown0 g14).add (v := xi) (n := V2) ⟨_, o14, trimZ_nz _, by rw [val_trimZ, HVV.out.2.2]⟩ DS6.out)
    have P14 := Lib.hid (P13.out.grown0 g14)
    have G14 := Lib.hid (gb_trans G13.out g14)
    obtain ⟨Fi, ci', rfl, _, _⟩ := o14.sl.form
    clear o14 g14 HNO P13 R13 W13 G13 HWS c0 f0 DS6
    have c0 := P14.out.c4.cell 0 rfl
    have f0 := P14.out.c4.free 0 rfl
    go_wp2
    refine wp_gen (fun W => w.grownBy W none ∧ P5 W w.heap.size [.slice F0 (trimZ X0).length c0', .bool false] [.slice F1 z6.length c1', .bool false] [.slice Fm z8.length cm', .bool neg] [.slice F2 z12.length c2', .bool false] [.slice Fi (trimZ X2).length ci', .bool false] ∧ Wv W (w.heap.size + 1 + 1 + 1 + 1 + 1) _) ⟨gb_set (p := ⟨w.heap.size + 1 + 1 + 1 + 1, 0, none⟩) G14.out (by show w.heap.size ≤ w.heap.size + 1 + 1 + 1 + 1; omega) _, P14.out.s4 0 _, W14.out.set (w.heap.size + 1 + 1 + 1 + 1) 0 (by omega) _⟩ ?_
    clear P14 W14 G14 c0 f0
    rintro wr ⟨G, P, WV⟩
    have GG := Lib.hid G
    have PP := Lib.hid P
    have WW := Lib.hid WV
    have a0 := P.c0.cell 0 rfl
    have a1 := P.c0.cell 1 rfl
    have a2 := P.c0.free 0 rfl
    have a3 := P.c0.free 1 rfl
    have b0 := P.c1.cell 0 rfl
    have b1 := P.c1.cell 1 rfl
    have b2 := P.c1.free 0 rfl
    have b3 := P.c1.free 1 rfl
    have d0 := P.c2.cell 0 rfl
    have d1 := P.c2.cell 1 rfl
    have d2 := P.c2.free 0 rfl
    have d3 := P.c2.free 1 rfl
    have e0 := P.c3.cell 0 rfl
    have e1 := P.c3.cell 1 rfl
    have e2 := P.c3.free 0 rfl
    have e3 := P.c3.free 1 rfl
    have q0 := P.c4.cell 0 rfl
    have q1 := P.c4.cell 1 rfl
    have q2 := P.c4.free 0 rfl
    have q3 := P.c4.free 1 rfl
    clear G P WV
    have HF : Hid (∀ W, P5 W w.heap.size [.slice F0 (trimZ X0).length c0', .bool false] [.slice F1 z6.length c1', .bool false] [.slice Fm z8.length cm', .bool neg] [.slice F2 z12.length c2', .bool false] [.slice Fi (trimZ X2).length ci', .bool false] →
        Canon.SF [(⟨w.heap.size + 1, 0, none⟩, .agg #[.slice F1 z6.length c1', .bool false]), (⟨w.heap.size + 1 + 1, 0, none⟩, .agg #[.slice Fm z8.length cm', .bool neg]), (⟨w.heap.size + 1 + 1 + 1, 0, none⟩, .agg #[.slice F2 z12.length c2', .bool false]), (⟨w.heap.size + 1 + 1 + 1 + 1, 0, none⟩, .agg #[.slice Fi (trimZ X2).length ci', .bool false])] W) := Lib.hid (fun W P =>
      Canon.sf_agg (fun j u h => P.c1.at0 j h) (Canon.sf_agg (fun j u h => P.c2.at0 j h) (Canon.sf_agg (fun j u h => P.c3.at0 j h) (Canon.sf_agg (fun j u h => P.c4.at0 j h) (Canon.sf_nil _)))))
    refine Canon.region_held [57, 58, 59, 60] _ (by kernel_rfl) (by kernel_rfl) (HF.out _ PP.out) ?_
    refine Canon.segs_at 5 _ _ _ (by kernel_rfl) ?_
    simp only [List.take_succ_cons, List.take_zero, List.drop_succ_cons, List.drop_zero]
    go_wp2
    clear a0 a1 a2 a3 b0 b1 b2 b3 d0 d1 d2 d3 e0 e1 e2 e3 q0 q1 q2 q3
    have PN := Lib.hid (((PP.out.drew).s0 0 (.slice F0 (trimZ X0).length c0')).s0 1 (.bool false))
    have WN := Lib.hid ((WW.out.drew.set (w.heap.size) 0 (by omega) (.slice F0 (trimZ X0).length c0')).set (w.heap.size) 1 (by omega) (.bool false))
    have GN := Lib.hid (gb_set (p := ⟨w.heap.size, 1, none⟩) (gb_set (p := ⟨w.heap.size, 0, none⟩) (gb_drew GG.out) (by show w.heap.size ≤ w.heap.size; omega) (.slice F0 (trimZ X0).length c0')) (by show w.heap.size ≤ w.heap.size; omega) (.bool false))
    clear PP WW GG
    refine ⟨HF.out _ PN.out, ?_⟩
    refine segs_gen (fun W => w.grownBy W none ∧ P5 W w.heap.size [.slice F0 (trimZ X0).length c0', .bool false] [.slice F1 z6.length c1', .bool false] [.slice Fm z8.length cm', .bool neg] [.slice F2 z12.length c2', .bool false] [.slice Fi (trimZ X2).length ci', .bool false] ∧ Wv W (w.heap.size + 1 + 1 + 1 + 1 + 1) _) ⟨GN.out, PN.out, WN.out⟩ ?_
    clear PN WN GN
    rintro wr0 ⟨G, P, WV⟩
    have GG := Lib.hid G
    have PP := Lib.hid P
    have WW := Lib.hid WV
    have a0 := P.c0.cell 0 rfl
    have a1 := P.c0.cell 1 rfl
    have a2 := P.c0.free 0 rfl
    have a3 := P.c0.free 1 rfl
    have b0 := P.c1.cell 0 rfl
    have b1 := P.c1.cell 1 rfl
    have b2 := P.c1.free 0 rfl
    have b3 := P.c1.free 1 rfl
    have d0 := P.c2.cell 0 rfl
    have d1 := P.c2.cell 1 rfl
    have d2 := P.c2.free 0 rfl
    have d3 := P.c2.free 1 rfl
    have e0 := P.c3.cell 0 rfl
    have e1 := P.c3.cell 1 rfl
    have e2 := P.c3.free 0 rfl
    have e3 := P.c3.free 1 rfl
    have q0 := P.c4.cell 0 rfl
    have q1 := P.c4.cell 1 rfl
    have q2 := P.c4.free 0 rfl
    have q3 := P.c4.free 1 rfl
    clear G P WV
    refine Canon.segs_at 0 _ _ _ (by kernel_rfl) ?_
    simp only [List.take_succ_cons, List.take_zero, List.drop_succ_cons, List.drop_zero]
    go_wp2
    clear a0 a1 a2 a3 b0 b1 b2 b3 d0 d1 d2 d3 e0 e1 e2 e3 q0 q1 q2 q3
    have PN := Lib.hid ((PP.out.s1 0 (.slice F1 z6.length c1')).s1 1 (.bool false))
    have WN := Lib.hid ((WW.out.set (w.heap.size + 1) 0 (by omega) (.slice F1 z6.length c1')).set (w.heap.size + 1) 1 (by omega) (.bool false))
    have GN := Lib.hid (gb_set (p := ⟨w.heap.size + 1, 1, none⟩) (gb_set (p := ⟨w.heap.size + 1, 0, none⟩) GG.out (by show w.heap.size ≤ w.heap.size + 1; omega) (.slice F1 z6.length c1')) (by show w.heap.size ≤ w.heap.size + 1; omega) (.bool false))
    clear PP WW GG
    refine ⟨HF.out _ PN.out, ?_⟩
    refine segs_gen (fun W => w.grownBy W none ∧ P5 W w.heap.size [.slice F0 (trimZ X0).length c0', .bool false] [.slice F1 z6.length c1', .bool false] [.slice Fm z8.length cm', .bool neg] [.slice F2 z12.length c2', .bool false] [.slice Fi (trimZ X2).length ci', .bool false] ∧ Wv W (w.heap.size + 1 + 1 + 1 + 1 + 1) _) ⟨GN.out, PN.out, WN.out⟩ ?_
    clear PN WN GN
    rintro wr1 ⟨G, P, WV⟩
    have GG := Lib.hid G
    have PP := Lib.hid P
    have WW := Lib.hid WV
    have a0 := P.c0.cell 0 rfl
    have a1 := P.c0.cell 1 rfl
    have a2 := P.c0.free 0 rfl
    have a3 := P.c0.free 1 rfl
    have b0 := P.c1.cell 0 rfl
    have b1 := P.c1.cell 1 rfl
    have b2 := P.c1.free 0 rfl
    have b3 := P.c1.free 1 rfl
    have d0 := P.c2.cell 0 rfl
    have d1 := P.c2.cell 1 rfl
    have d2 := P.c2.free 0 rfl
    have d3 := P.c2.free 1 rfl
    have e0 := P.c3.cell 0 rfl
    have e1 := P.c3.cell 1 rfl
    have e2 := P.c3.free 0 rfl
    have e3 := P.c3.free 1 rfl
    have q0 := P.c4.cell 0 rfl
    have q1 := P.c4.cell 1 rfl
    have q2 := P.c4.free 0 rfl
    have q3 := P.c4.free 1 rfl
    clear G P WV
    refine Canon.segs_at 0 _ _ _ (by kernel_rfl) ?_
    simp only [List.take_succ_cons, List.take_zero, List.drop_succ_cons, List.drop_zero]
    go_wp2
    clear a0 a1 a2 a3 b0 b1 b2 b3 d0 d1 d2 d3 e0 e1 e2 e3 q0 q1 q2 q3
    have PN := Lib.hid ((PP.out.s2 0 (.slice Fm z8.length cm')).s2 1 (.bool neg))
    have WN := Lib.hid ((WW.out.set (w.heap.size + 1 + 1) 0 (by omega) (.slice Fm z8.length cm')).set (w.heap.size + 1 + 1) 1 (by omega) (.bool neg))
    have GN := Lib.hid (gb_set (p := ⟨w.heap.size + 1 + 1, 1, none⟩) (gb_set (p := ⟨w.heap.size + 1 + 1, 0, none⟩) GG.out (by show w.heap.size ≤ w.heap.size + 1 + 1; omega) (.slice Fm z8.length cm')) (by show w.heap.size ≤ w.heap.size + 1 + 1; omega) (.bool neg))
    clear PP WW GG
    refine ⟨HF.out _ PN.out, ?_⟩
    refine segs_gen (fun W => w.grownBy W none ∧ P5 W w.heap.size [.slice F0 (trimZ X0).length c0', .bool false] [.slice F1 z6.length c1', .bool false] [.slice Fm z8.length cm', .bool neg] [.slice F2 z12.length c2', .bool false] [.slice Fi (trimZ X2).length ci', .bool false] ∧ Wv W (w.heap.size + 1 + 1 + 1 + 1 + 1) _) ⟨GN.out, PN.out, WN.out⟩ ?_
    clear PN WN GN
    rintro wr2 ⟨G, P, WV⟩
    have GG := Lib.hid G
    have PP := Lib.hid P
    have WW := Lib.hid WV
    have a0 := P.c0.cell 0 rfl
    have a1 := P.c0.cell 1 rfl
    have a2 := P.c0.free 0 rfl
    have a3 := P.c0.free 1 rfl
    have b0 := P.c1.cell 0 rfl
    have b1 := P.c1.cell 1 rfl
    have b2 := P.c1.free 0 rfl
    have b3 := P.c1.free 1 rfl
    have d0 := P.c2.cell 0 rfl
    have d1 := P.c2.cell 1 rfl
    have d2 := P.c2.free 0 rfl
    have d3 := P.c2.free 1 rfl
    have e0 := P.c3.cell 0 rfl
    have e1 := P.c3.cell 1 rfl
    have e2 := P.c3.free 0 rfl
    have e3 := P.c3.free 1 rfl
    have q0 := P.c4.cell 0 rfl
    have q1 := P.c4.cell 1 rfl
    have q2 := P.c4.free 0 rfl
    have q3 := P.c4.free 1 rfl
    clear G P WV
    refine Canon.segs_at 0 _ _ _ (by kernel_rfl) ?_
    simp only [List.take_succ_cons, List.take_zero, List.drop_succ_cons, List.drop_zero]
    go_wp2
    clear a0 a1 a2 a3 b0 b1 b2 b3 d0 d1 d2 d3 e0 e1 e2 e3 q0 q1 q2 q3
    have PN := Lib.hid ((PP.out.s3 0 (.slice F2 z12.length c2')).s3 1 (.bool false))
    have WN := Lib.hid ((WW.out.set (w.heap.size + 1 + 1 + 1) 0 (by omega) (.slice F2 z12.length c2')).set (w.heap.size + 1 + 1 + 1) 1 (by omega) (.bool false))
    have GN := Lib.hid (gb_set (p := ⟨w.heap.size + 1 + 1 + 1, 1, none⟩) (gb_set (p := ⟨w.heap.size + 1 + 1 + 1, 0, none⟩) GG.out (by show w.heap.size ≤ w.heap.size + 1 + 1 + 1; omega) (.slice F2 z12.length c2')) (by show w.heap.size ≤ w.heap.size + 1 + 1 + 1; omega) (.bool false))
    clear PP WW GG
    refine ⟨HF.out _ PN.out, ?_⟩
    refine segs_gen (fun W => w.grownBy W none ∧ P5 W w.heap.size [.slice F0 (trimZ X0).length c0', .bool false] [.slice F1 z6.length c1', .bool false] [.slice Fm z8.length cm', .bool neg] [.slice F2 z12.length c2', .bool false] [.slice Fi (trimZ X2).length ci', .bool false] ∧ Wv W (w.heap.size + 1 + 1 + 1 + 1 + 1) _) ⟨GN.out, PN.out, WN.out⟩ ?_
    clear PN WN GN
    rintro wr3 ⟨G, P, WV⟩
    have GG := Lib.hid G
    have PP := Lib.hid P
    have WW := Lib.hid WV
    have a0 := P.c0.cell 0 rfl
    have a1 := P.c0.cell 1 rfl
    have a2 := P.c0.free 0 rfl
    have a3 := P.c0.free 1 rfl
    have b0 := P.c1.cell 0 rfl
    have b1 := P.c1.cell 1 rfl
    have b2 := P.c1.free 0 rfl
    have b3 := P.c1.free 1 rfl
    have d0 := P.c2.cell 0 rfl
    have d1 := P.c2.cell 1 rfl
    have d2 := P.c2.free 0 rfl
    have d3 := P.c2.free 1 rfl
    have e0 := P.c3.cell 0 rfl
    have e1 := P.c3.cell 1 rfl
    have e2 := P.c3.free 0 rfl
    have e3 := P.c3.free 1 rfl
    have q0 := P.c4.cell 0 rfl
    have q1 := P.c4.cell 1 rfl
    have q2 := P.c4.free 0 rfl
    have q3 := P.c4.free 1 rfl
    clear G P WV
    refine Canon.segs_at 0 _ _ _ (by kernel_rfl) ?_
    simp only [List.take_succ_cons, List.take_zero, List.drop_succ_cons, List.drop_zero]
    go_wp2
    clear a0 a1 a2 a3 b0 b1 b2 b3 d0 d1 d2 d3 e0 e1 e2 e3 q0 q1 q2 q3
    have PN := Lib.hid ((PP.out.s4 0 (.slice Fi (trimZ X2).length ci')).s4 1 (.bool false))
    have WN := Lib.hid ((WW.out.set (w.heap.size + 1 + 1 + 1 + 1) 0 (by omega) (.slice Fi (trimZ X2).length ci')).set (w.heap.size + 1 + 1 + 1 + 1) 1 (by omega) (.bool false))
    have GN := Lib.hid (gb_set (p := ⟨w.heap.size + 1 + 1 + 1 + 1, 1, none⟩) (gb_set (p := ⟨w.heap.size + 1 + 1 + 1 + 1, 0, none⟩) GG.out (by show w.heap.size ≤ w.heap.size + 1 + 1 + 1 + 1; omega) (.slice Fi (trimZ X2).length ci')) (by show w.heap.size ≤ w.heap.size + 1 + 1 + 1 + 1; omega) (.bool false))
    clear PP WW GG
    refine ⟨HF.out _ PN.out, ?_⟩
    refine segs_gen (fun W => w.grownBy W none ∧ P5 W w.heap.size [.slice F0 (trimZ X0).length c0', .bool false] [.slice F1 z6.length c1', .bool false] [.slice Fm z8.length cm', .bool neg] [.slice F2 z12.length c2', .bool false] [.slice Fi (trimZ X2).length ci', .bool false] ∧ Wv W (w.heap.size + 1 + 1 + 1 + 1 + 1) _) ⟨GN.out, PN.out, WN.out⟩ ?_
    clear PN WN GN
    rintro wr4 ⟨G, P, WV⟩
    have GG := Lib.hid G
    have PP := Lib.hid P
    have WW := Lib.hid WV
    have a0 := P.c0.cell 0 rfl
    have a1 := P.c0.cell 1 rfl
    have a2 := P.c0.free 0 rfl
    have a3 := P.c0.free 1 rfl
    have b0 := P.c1.cell 0 rfl
    have b1 := P.c1.cell 1 rfl
    have b2 := P.c1.free 0 rfl
    have b3 := P.c1.free 1 rfl
    have d0 := P.c2.cell 0 rfl
    have d1 := P.c2.cell 1 rfl
    have d2 := P.c2.free 0 rfl
    have d3 := P.c2.free 1 rfl
    have e0 := P.c3.cell 0 rfl
    have e1 := P.c3.cell 1 rfl
    have e2 := P.c3.free 0 rfl
    have e3 := P.c3.free 1 rfl
    have q0 := P.c4.cell 0 rfl
    have q1 := P.c4.cell 1 rfl
    have q2 := P.c4.free 0 rfl
    have q3 := P.c4.free 1 rfl
    clear G P WV
    refine Canon.segs_end _ _ _ (by kernel_rfl) ?_
    go_wp2
    refine ⟨by kernel_rfl, by kernel_rfl, by kernel_rfl, ?_⟩
    clear a0 a1 a2 a3 b0 b1 b2 b3 d0 d1 d2 d3 e0 e1 e2 e3 q0 q1 q2 q3
    go_wp2
    refine bodyPost_ret (res_agg5 rfl PP.out.c0 PP.out.c1 PP.out.c2 PP.out.c3 PP.out.c4 rfl rfl rfl rfl rfl (by kernel_rfl) (by kernel_rfl) (by kernel_rfl) (by kernel_rfl) (by kernel_rfl) (by kernel_rfl)) rfl ?_
    have DW : w.heap.size ≤ w.heap.size + 1 + 1 + 1 + 1 + 1 := by omega
    refine ⟨_, _, _, _, _, V0, V1, V2, by rw [← HNEG.out], ?_, ?_, ?_, ?_, (WW.out.at 1 rfl).mono DW, (WW.out.at 2 rfl).mono DW, (WW.out.at 3 rfl).mono DW, (WW.out.at 6 rfl).mono DW, (WW.out.at 7 rfl).mono DW, GG.out⟩
    · rw [← HXV.out, HVV.out.1, HVV.out.2.1, HVV.out.2.2, HX0.out, HX1.out, HX2.out]
      first | (rw [HK2.out]; exact val_cut3 xs 1) | exact val_cut3 xs 1
    · rw [HVV.out.1, HX0.out]
      have := val_lt (B := B64) (ws_take WX.out 1).dg
      rw [List.length_take] at this
      exact Nat.lt_of_lt_of_le this (Nat.pow_le_pow_right (by decide) (Nat.min_le_left _ _))
    · rw [HVV.out.2.1, HX1.out]
      have := val_lt (B := B64) (ws_drop (ws_take WX.out 2) 1).dg
      rw [List.length_drop, List.length_take] at this
      exact Nat.lt_of_lt_of_le this (Nat.pow_le_pow_right (by decide) (by first | (rw [HK2.out]; omega) | omega))
    · rw [HVV.out.2.2, HX2.out]
      have := val_lt (B := B64) (ws_drop WX.out 2).dg
      rw [List.length_drop, ← HN.out] at this
      exact Nat.lt_of_lt_of_le this (Nat.pow_le_pow_right (by decide) (by have := HXL.out; first | (rw [HK2.out]; omega) | omega))
  · have hk2 : 1 < k := by omega
    clear hk0 hk1
    obtain ⟨K2, hK2⟩ : ∃ z, z = 2 * k := ⟨_, rfl⟩
    have e2k : 2 * (k : Int) = (K2 : Int) := by omega
    have HK2 := Lib.hid hK2
    have bK2 : K2 ≤ 32768 := by omega
    clear hK2
    go_enter Tryz.func82, Tryz.ntmps82
    go_wp2_with fail
    refine (HN0.out).mono ?_
    rintro e w1 ⟨y, rfl, oy, g1⟩
    obtain ⟨xs, hxs⟩ : ∃ l, l = trimZ al := ⟨_, rfl⟩
    have hxl : xs.length ≤ al.length := by rw [hxs]; exact trimZ_len _
    have hxv : val B64 xs = val B64 al := by rw [hxs]; exact val_trimZ _ _
    rw [← hxs] at oy
    have SY := oy.sl
    have D5 : w.heap.size + 1 + 1 + 1 + 1 + 1 ≤ (((((w.alloc (Obj.cells #[.slice none 0 0, .bool false] 103)).alloc (Obj.cells #[.slice none 0 0, .bool false] 103)).alloc (Obj.cells #[.slice none 0 0, .bool false] 103)).alloc (Obj.cells #[.slice none 0 0, .bool false] 103)).alloc (Obj.cells #[.slice none 0 0, .bool false] 103)).heap.size := by rw [alloc_sz, alloc_sz, alloc_sz, alloc_sz, alloc_sz]; exact Nat.le_refl _
    have BYY := Lib.hid (fun b hb => Nat.le_trans D5 (oy.lt b hb).1)
    obtain ⟨A1, c1, rfl, hc1, hc2⟩ := SY.form
    have HSY := Lib.hid SY
    have HXV := Lib.hid hxv
    have HXL := Lib.hid hxl
    have WX := Lib.hid SY.ws
    have P1 := Lib.hid (HP0.out.grown0 g1)
    have G1 := Lib.hid (gb_trans HG0.out g1)
    clear oy g1 HN0 HP0 HG0 hxs SY hxv hxl
    obtain ⟨n, hn⟩ : ∃ n, n = xs.length := ⟨_, rfl⟩
    rw [← hn] at HSY HXL hc1 BYY ⊢
    have HN := Lib.hid hn
    have bn : n ≤ 16384 := Nat.le_trans HXL.out hl
    clear hn
    have PA : Calls Tryz.prog 97 #[.slice A1 n c1, .int .i64 0, .int .i64 k] w1 fun e w' => ∃ u, e = .returned u ∧ Sl w1 u ((xs.take k).drop 0) ∧ (∀ gm, Off (.slice A1 n c1) gm → Off u gm) ∧ w' = w1 := part_c w1 _ xs 0 k HSY.out (fun _ => by omega) (by decide) (by omega)
    have HPA := Lib.hid PA
    have PB : Calls Tryz.prog 97 #[.slice A1 n c1, .int .i64 k, .int .i64 K2] w1 fun e w' => ∃ u, e = .returned u ∧ Sl w1 u ((xs.take K2).drop k) ∧ (∀ gm, Off (.slice A1 n c1) gm → Off u gm) ∧ w' = w1 := part_c w1 _ xs k K2 HSY.out (fun _ => by have := HK2.out; omega) (by omega) (by omega)
    have HPB := Lib.hid PB
    have PC := part_c w1 _ xs K2 n HSY.out (fun h => by rw [← HN.out] at h; omega) (by omega) (by omega)
    have HPC := Lib.hid PC
    clear PA PB PC
    go_wp2_with fail
    refine (HPA.out).mono ?_
    rintro e w2 ⟨u0, rfl, s0, f0, hw2⟩
    subst hw2
    go_wp2_with fail
    refine (HPB.out).mono ?_
    rintro e w2 ⟨u1, rfl, s1, f1, hw2⟩
    subst hw2
    go_wp2_with fail
    refine (HPC.out).mono ?_
    rintro e w2 ⟨u2, rfl, s2, f2, hw2⟩
    subst hw2
    rw [List.drop_zero] at s0
    rw [List.take_of_length_le (show xs.length ≤ n by rw [← HN.out]; exact Nat.le_refl _)] at s2
    obtain ⟨X0, hX0⟩ : ∃ l, l = xs.take k := ⟨_, rfl⟩
    obtain ⟨X1, hX1⟩ : ∃ l, l = (xs.take K2).drop k := ⟨_, rfl⟩
    obtain ⟨X2, hX2⟩ : ∃ l, l = xs.drop K2 := ⟨_, rfl⟩
    rw [← hX0] at s0
    rw [← hX1] at s1
    rw [← hX2] at s2
    have HX0 := Lib.hid hX0
    have HX1 := Lib.hid hX1
    have HX2 := Lib.hid hX2
    clear hX0 hX1 hX2
    have R2 := Lib.hid (Rv.three s0 s1 s2 (fun b hb => BYY.out b (off_own f0 hb)) (fun b hb => BYY.out b (off_own f1 hb)) (fun b hb => BYY.out b (off_own f2 hb)))
    obtain ⟨V0, hV0⟩ : ∃ z, z = val B64 X0 := ⟨_, rfl⟩
    obtain ⟨V1, hV1⟩ : ∃ z, z = val B64 X1 := ⟨_, rfl⟩
    obtain ⟨V2, hV2⟩ : ∃ z, z = val B64 X2 := ⟨_, rfl⟩
    have HVV : Hid (V0 = val B64 X0 ∧ V1 = val B64 X1 ∧ V2 = val B64 X2) := Lib.hid ⟨hV0, hV1, hV2⟩
    have L3 : Hid (X0.length ≤ 16384 ∧ X1.length ≤ 16384 ∧ X2.length ≤ 16384) := Lib.hid (by
      rw [HX0.out, HX1.out, HX2.out, List.length_take, List.length_drop, List.length_take, List.length_drop, ← HN.out]; omega)
    have D5 : Hid (w.heap.size + 1 + 1 + 1 + 1 + 1 ≤ w2.heap.size) := Lib.hid (by have := P1.out.lt; omega)
    clear s0 s1 s2 f0 f1 f2 hV0 hV1 hV2 HPA HPB HPC HSY BYY
    have AD := ladd_c w2 u0 u2 _ _ (R2.out.at 0 rfl) (R2.out.at 2 rfl) (by have := L3.out.1; omega) (by have := L3.out.2.2; omega)
    rw [← HVV.out.1, ← HVV.out.2.2] at AD
    have HAD := Lib.hid AD
    clear AD
    go_wp2_with fail
    refine (HAD.out).mono ?_
    rintro e w3 ⟨ev, rfl, o3, g3⟩
    have W3 := Lib.hid ((Wv.nil w3 (w.heap.size + 1 + 1 + 1 + 1 + 1)).add o3 D5.out)
    have R3 := Lib.hid (R2.out.grown0 g3)
    have P3 := Lib.hid (P1.out.grown0 g3)
    have G3 := Lib.hid (gb_trans G1.out g3)
    clear o3 g3 HAD R2 P1 G1
    have NO := lnorm_c w3 u0 _ (R3.out.at 0 rfl) (by have := L3.out.1; omega)
    have HNO := Lib.hid NO
    clear NO
    go_wp2_with fail
    refine (HNO.out).mono ?_
    rintro e w4 ⟨x0, rfl, o4, g4⟩
    have D3 : Hid (w.heap.size + 1 + 1 + 1 + 1 + 1 ≤ w3.heap.size) := Lib.hid (by have := P3.out.lt; omega)
    have W4 := Lib.hid ((W3.out.grown0 g4).add (v := x0) (n := V0) ⟨_, o4, trimZ_nz _, by rw [val_trimZ, HVV.out.1]⟩ D3.out)
    have R4 := Lib.hid (R3.out.grown0 g4)
    have P4 := Lib.hid (P3.out.grown0 g4)
    have G4 := Lib.hid (gb_trans G3.out g4)
    obtain ⟨F0, c0', rfl, _, _⟩ := o4.sl.form
    clear o4 g4 HNO W3 R3 P3 G3
    obtain ⟨M, hM⟩ : ∃ M, M = 16384 := ⟨_, rfl⟩
    have BV : Hid (V0 + V2 < B64 ^ (M + 1) ∧ V0 + V2 + V1 < B64 ^ (M + 1) ∧ 2 * V1 < B64 ^ (M + 1) ∧ 4 * V2 < B64 ^ (M + 1) ∧ V0 + 2 * V1 + 4 * V2 < B64 ^ (M + 1)) := Lib.hid (by
      have t0 := val_lt (B := B64) (show Ws X0 by rw [HX0.out]; exact ws_take WX.out k).dg
      have t1 := val_lt (B := B64) (show Ws X1 by rw [HX1.out]; exact ws_drop (ws_take WX.out K2) k).dg
      have t2 := val_lt (B := B64) (show Ws X2 by rw [HX2.out]; exact ws_drop WX.out K2).dg
      rw [← HVV.out.1] at t0
      rw [← HVV.out.2.1] at t1
      rw [← HVV.out.2.2] at t2
      exact four_lt (Nat.lt_of_lt_of_le t0 (Nat.pow_le_pow_right (by decide) (by rw [hM]; exact L3.out.1))) (Nat.lt_of_lt_of_le t1 (Nat.pow_le_pow_right (by decide) (by rw [hM]; exact L3.out.2.1))) (Nat.lt_of_lt_of_le t2 (Nat.pow_le_pow_right (by decide) (by rw [hM]; exact L3.out.2.2))))
    have bM : M + 1 ≤ 16385 := by omega
    clear hM
    have c0 := P4.out.c0.cell 0 rfl
    have f0 := P4.out.c0.free 0 rfl
    obtain ⟨ws1, hws1⟩ : ∃ W, W = w4.setCell ⟨w.heap.size, 0, none⟩ (.slice F0 (trimZ X0).length c0') := ⟨_, rfl⟩
    have P5' := P4.out.s0 0 (.slice F0 (trimZ X0).length c0')
    have R5' := R4.out.set w.heap.size 0 (by omega) (.slice F0 (trimZ X0).length c0')
    have W5' := W4.out.set w.heap.size 0 (by omega) (.slice F0 (trimZ X0).length c0')
    have G5' := gb_set (p := ⟨w.heap.size, 0, none⟩) G4.out (Nat.le_refl _) (.slice F0 (trimZ X0).length c0')
    rw [← hws1] at P5' R5' W5' G5'
    obtain ⟨ze, se, le, vv⟩ := (W5'.at 0 rfl).lim BV.out.1 (by omega)
    have AD := ladd_c ws1 ev u1 ze _ se (R5'.at 1 rfl) le (by have := L3.out.2.1; omega)
    rw [vv, ← HVV.out.2.1] at AD
    have LE := less_c
    have HAD := Lib.hid AD
    have HP5 := Lib.hid P5'
    have HR5 := Lib.hid R5'
    have HW5 := Lib.hid W5'
    have HG5 := Lib.hid G5'
    have HWS := Lib.hid hws1
    clear AD P5' R5' W5' G5' se le vv LE P4 R4 W4 G4
    rw [hws1] at HAD
    clear hws1
    go_wp2_with fail
    refine (HAD.out).mono ?_
    rintro e w6 ⟨x1, rfl, o6, g6⟩
    rw [← HWS.out] at g6 o6
    have DS1 : Hid (w.heap.size + 1 + 1 + 1 + 1 + 1 ≤ ws1.heap.size) := Lib.hid (by have := HP5.out.lt; omega)
    have W6 := Lib.hid ((HW5.out.grown0 g6).add o6 DS1.out)
    have R6 := Lib.hid (HR5.out.grown0 g6)
    have P6 := Lib.hid (HP5.out.grown0 g6)
    have G6 := Lib.hid (gb_trans HG5.out g6)
    obtain ⟨z6, oz6, _, _⟩ := o6
    obtain ⟨F1, c1', rfl, _, _⟩ := oz6.sl.form
    clear oz6 g6 HAD HP5 HR5 HW5 HG5 HWS c0 f0
    have c0 := P6.out.c1.cell 0 rfl
    have f0 := P6.out.c1.free 0 rfl
    obtain ⟨ws2, hws2⟩ : ∃ W, W = w6.setCell ⟨w.heap.size + 1, 0, none⟩ (.slice F1 z6.length c1') := ⟨_, rfl⟩
    have P7' := P6.out.s1 0 (.slice F1 z6.length c1')
    have R7' := R6.out.set (w.heap.size + 1) 0 (by omega) (.slice F1 z6.length c1')
    have W7' := W6.out.set (w.heap.size + 1) 0 (by omega) (.slice F1 z6.length c1')
    have G7' := gb_set (p := ⟨w.heap.size + 1, 0, none⟩) G6.out (Nat.le_succ _) (.slice F1 z6.length c1')
    rw [← hws2] at P7' R7' W7' G7'
    obtain ⟨ze2, se, le, vv⟩ := (W7'.at 0 rfl).lim BV.out.1 (by omega)
    have LS := less_c ws2 ev u1 ze2 _ se (R7'.at 1 rfl) le (by have := L3.out.2.1; omega)
    rw [vv, ← HVV.out.2.1] at LS
    have HLS := Lib.hid LS
    have P7 := Lib.hid P7'
    have R7 := Lib.hid R7'
    have W7 := Lib.hid W7'
    have G7 := Lib.hid G7'
    have HWS := Lib.hid hws2
    clear LS P7' R7' W7' G7' se le vv P6 R6 W6 G6 DS1
    rw [hws2] at HLS
    clear hws2
    go_wp2_with fail
    refine (HLS.out).mono ?_
    rintro e w8 ⟨xm, rfl, o8, g8⟩
    rw [← HWS.out] at g8 o8
    have DS2 : Hid (w.heap.size + 1 + 1 + 1 + 1 + 1 ≤ ws2.heap.size) := Lib.hid (by have := P7.out.lt; omega)
    have W8 := Lib.hid ((W7.out.grown0 g8).add o8 DS2.out)
    have R8 := Lib.hid (R7.out.grown0 g8)
    have P8 := Lib.hid (P7.out.grown0 g8)
    have G8 := Lib.hid (gb_trans G7.out g8)
    obtain ⟨z8, oz8, _, _⟩ := o8
    obtain ⟨Fm, cm', rfl, _, _⟩ := oz8.sl.form
    obtain ⟨neg, hneg⟩ : ∃ b, b = decide (V0 + V2 < V1) := ⟨_, rfl⟩
    rw [← hneg]
    have HNEG := Lib.hid hneg
    clear oz8 g8 HLS P7 R7 W7 G7 HWS c0 f0 hneg
    have c0 := P8.out.c2.cell 0 rfl
    have f0 := P8.out.c2.free 0 rfl
    have c1 := P8.out.c2.cell 1 rfl
    have f1 := P8.out.c2.free 1 rfl
    obtain ⟨ws3, hws3⟩ : ∃ W, W = (w8.setCell ⟨w.heap.size + 1 + 1, 0, none⟩ (.slice Fm z8.length cm')).setCell ⟨w.heap.size + 1 + 1, 1, none⟩ (.bool neg) := ⟨_, rfl⟩
    have P9' := (P8.out.s2 0 (.slice Fm z8.length cm')).s2 1 (.bool neg)
    have R9' := (R8.out.set (w.heap.size + 1 + 1) 0 (by omega) (.slice Fm z8.length cm')).set (w.heap.size + 1 + 1) 1 (by omega) (.bool neg)
    have W9' := (W8.out.set (w.heap.size + 1 + 1) 0 (by omega) (.slice Fm z8.length cm')).set (w.heap.size + 1 + 1) 1 (by omega) (.bool neg)
    have G9' := gb_set (p := ⟨w.heap.size + 1 + 1, 1, none⟩) (gb_set (p := ⟨w.heap.size + 1 + 1, 0, none⟩) G8.out (by show w.heap.size ≤ w.heap.size + 1 + 1; omega) (.slice Fm z8.length cm')) (by show w.heap.size ≤ w.heap.size + 1 + 1; omega) (.bool neg)
    rw [← hws3] at P9' R9' W9' G9'
    have SH : Calls Tryz.prog 100 #[u1, .int .i64 1] ws3 fun e w' => ∃ x, e = .returned x ∧ Wo w' ws3.heap.size x (val B64 X1 * 2 ^ 1) ∧ ws3.grownBy w' none := lshl_c ws3 u1 _ 1 (R9'.at 1 rfl) (by have := L3.out.2.1; omega) (by decide) (by decide)
    rw [← HVV.out.2.1] at SH
    have HSH := Lib.hid SH
    have P9 := Lib.hid P9'
    have R9 := Lib.hid R9'
    have W9 := Lib.hid W9'
    have G9 := Lib.hid G9'
    have HWS := Lib.hid hws3
    clear SH P9' R9' W9' G9' P8 R8 W8 G8 DS2
    rw [hws3] at HSH
    clear hws3
    go_wp2_with fail
    refine (HSH.out).mono ?_
    rintro e w10 ⟨y1, rfl, o10, g10⟩
    rw [← HWS.out] at g10 o10
    have DS3 : Hid (w.heap.size + 1 + 1 + 1 + 1 + 1 ≤ ws3.heap.size) := Lib.hid (by have := P9.out.lt; omega)
    have W10 := Lib.hid ((W9.out.grown0 g10).add o10 DS3.out)
    have R10 := Lib.hid (R9.out.grown0 g10)
    have P10 := Lib.hid (P9.out.grown0 g10)
    have G10 := Lib.hid (gb_trans G9.out g10)
    clear o10 g10 HSH P9 R9 W9 G9 HWS c0 f0 c1 f1 DS3
    have SH : Calls Tryz.prog 100 #[u2, .int .i64 2] w10 fun e w' => ∃ x, e = .returned x ∧ Wo w' w10.heap.size x (val B64 X2 * 2 ^ 2) ∧ w10.grownBy w' none := lshl_c w10 u2 _ 2 (R10.out.at 2 rfl) (by have := L3.out.2.2; omega) (by decide) (by decide)
    rw [← HVV.out.2.2] at SH
    have HSH := Lib.hid SH
    clear SH
    go_wp2_with fail
    refine (HSH.out).mono ?_
    rintro e w11 ⟨y2, rfl, o11, g11⟩
    have DS4 : Hid (w.heap.size + 1 + 1 + 1 + 1 + 1 ≤ w10.heap.size) := Lib.hid (by have := P10.out.lt; omega)
    have W11 := Lib.hid ((W10.out.grown0 g11).add o11 DS4.out)
    have R11 := Lib.hid (R10.out.grown0 g11)
    have P11 := Lib.hid (P10.out.grown0 g11)
    have G11 := Lib.hid (gb_trans G10.out g11)
    clear o11 g11 HSH W10 R10 P10 G10 DS4
    obtain ⟨zy1, sy1, ly1, vy1⟩ := (W11.out.at 4 rfl).get (N := M + 1) (by have := BV.out; omega)
    obtain ⟨zy2, sy2, ly2, vy2⟩ := (W11.out.at 5 rfl).get (N := M + 1) (by have := BV.out; omega)
    have su0 := R11.out.at 0 rfl
    obtain ⟨Fy1, cy1, rfl, _, _⟩ := sy1.form
    obtain ⟨Fy2, cy2, rfl, _, _⟩ := sy2.form
    obtain ⟨Fu0, cu0, rfl, _, _⟩ := su0.form
    have PT := pts3 w11 34 _ _ _ _ zy1 zy2 su0 sy1 sy2
    have GP := gb_alloc (gb_refl w11 none) (Obj.cells #[.slice Fu0 X0.length cu0, .slice Fy1 zy1.length cy1, .slice Fy2 zy2.length cy2] 34)
    have JN := lsum_c _ 3 _ _ _ PT (by decide) (fun j hj => by
      have b1 := L3.out.1
      rcases (show j = 0 ∨ j = 1 ∨ j = 2 by omega) with rfl | rfl | rfl
      · show X0.length ≤ 100000; omega
      · show zy1.length ≤ 100000; omega
      · show zy2.length ≤ 100000; omega)
    rw [jS3] at JN
    have ej : val B64 (([X0, zy1, zy2] : List (List Int)).getD 0 []) + B64 ^ 0 * val B64 (([X0, zy1, zy2] : List (List Int)).getD 1 []) + B64 ^ 0 * B64 ^ 0 * val B64 (([X0, zy1, zy2] : List (List Int)).getD 2 []) = V0 + 2 * V1 + 4 * V2 := by
      show val B64 X0 + B64 ^ 0 * val B64 zy1 + B64 ^ 0 * B64 ^ 0 * val B64 zy2 = _
      rw [vy1, vy2, ← HVV.out.1, Nat.pow_zero]; omega
    rw [ej] at JN
    have HJN := Lib.hid JN
    have HGP := Lib.hid GP
    clear JN ej PT GP sy1 sy2 su0 ly1 ly2 vy1 vy2
    go_wp2_with fail
    refine (HJN.out).mono ?_
    rintro e w12 ⟨x2, rfl, o12, g12⟩
    have GA := gb_trans HGP.out g12
    have DS5 : Hid (w.heap.size + 1 + 1 + 1 + 1 + 1 ≤ (w11.alloc (Obj.cells #[.slice Fu0 X0.length cu0, .slice Fy1 zy1.length cy1, .slice Fy2 zy2.length cy2] 34)).heap.size) := Lib.hid (by have := P11.out.lt; have := HGP.out.size; omega)
    have W12 := Lib.hid ((W11.out.grown0 GA).add o12 DS5.out)
    have R12 := Lib.hid (R11.out.grown0 GA)
    have P12 := Lib.hid (P11.out.grown0 GA)
    have G12 := Lib.hid (gb_trans G11.out GA)
    obtain ⟨z12, oz12, _, _⟩ := o12
    obtain ⟨F2, c2', rfl, _, _⟩ := oz12.sl.form
    clear oz12 g12 GA HJN HGP W11 R11 P11 G11 DS5
    have c0 := P12.out.c3.cell 0 rfl
    have f0 := P12.out.c3.free 0 rfl
    obtain ⟨ws4, hws4⟩ : ∃ W, W = w12.setCell ⟨w.heap.size + 1 + 1 + 1, 0, none⟩ (.slice F2 z12.length c2') := ⟨_, rfl⟩
    have P13' := P12.out.s3 0 (.slice F2 z12.length c2')
    have R13' := R12.out.set (w.heap.size + 1 + 1 + 1) 0 (by omega) (.slice F2 z12.length c2')
    have W13' := W12.out.set (w.heap.size + 1 + 1 + 1) 0 (by omega) (.slice F2 z12.length c2')
    have G13' := gb_set (p := ⟨w.heap.size + 1 + 1 + 1, 0, none⟩) G12.out (by show w.heap.size ≤ w.heap.size + 1 + 1 + 1; omega) (.slice F2 z12.length c2')
    rw [← hws4] at P13' R13' W13' G13'
    have NO := lnorm_c ws4 u2 _ (R13'.at 2 rfl) (by have := L3.out.2.2; omega)
    have HNO := Lib.hid NO
    have P13 := Lib.hid P13'
    have R13 := Lib.hid R13'
    have W13 := Lib.hid W13'
    have G13 := Lib.hid G13'
    have HWS := Lib.hid hws4
    clear NO P13' R13' W13' G13' P12 R12 W12 G12
    rw [hws4] at HNO
    clear hws4
    go_wp2_with fail
    refine (HNO.out).mono ?_
    rintro e w14 ⟨xi, rfl, o14, g14⟩
    rw [← HWS.out] at g14 o14
    have DS6 : Hid (w.heap.size + 1 + 1 + 1 + 1 + 1 ≤ ws4.heap.size) := Lib.hid (by have := P13.out.lt; omega)
    have W14 := Lib.hid ((W13.out.grown0 g14).add (v := xi) (n := V2) ⟨_, o14, trimZ_nz _, by rw [val_trimZ, HVV.out.2.2]⟩ DS6.out)
    have P14 := Lib.hid (P13.out.grown0 g14)
    have G14 := Lib.hid (gb_trans G13.out g14)
    obtain ⟨Fi, ci', rfl, _, _⟩ := o14.sl.form
    clear o14 g14 HNO P13 R13 W13 G13 HWS c0 f0 DS6
    have c0 := P14.out.c4.cell 0 rfl
    have f0 := P14.out.c4.free 0 rfl
    go_wp2
    refine wp_gen (fun W => w.grownBy W none ∧ P5 W w.heap.size [.slice F0 (trimZ X0).length c0', .bool false] [.slice F1 z6.length c1', .bool false] [.slice Fm z8.length cm', .bool neg] [.slice F2 z12.length c2', .bool false] [.slice Fi (trimZ X2).length ci', .bool false] ∧ Wv W (w.heap.size + 1 + 1 + 1 + 1 + 1) _) ⟨gb_set (p := ⟨w.heap.size + 1 + 1 + 1 + 1, 0, none⟩) G14.out (by show w.heap.size ≤ w.heap.size + 1 + 1 + 1 + 1; omega) _, P14.out.s4 0 _, W14.out.set (w.heap.size + 1 + 1 + 1 + 1) 0 (by omega) _⟩ ?_
    clear P14 W14 G14 c0 f0
    rintro wr ⟨G, P, WV⟩
    have GG := Lib.hid G
    have PP := Lib.hid P
    have WW := Lib.hid WV
    have a0 := P.c0.cell 0 rfl
    have a1 := P.c0.cell 1 rfl
    have a2 := P.c0.free 0 rfl
    have a3 := P.c0.free 1 rfl
    have b0 := P.c1.cell 0 rfl
    have b1 := P.c1.cell 1 rfl
    have b2 := P.c1.free 0 rfl
    have b3 := P.c1.free 1 rfl
    have d0 := P.c2.cell 0 rfl
    have d1 := P.c2.cell 1 rfl
    have d2 := P.c2.free 0 rfl
    have d3 := P.c2.free 1 rfl
    have e0 := P.c3.cell 0 rfl
    have e1 := P.c3.cell 1 rfl
    have e2 := P.c3.free 0 rfl
    have e3 := P.c3.free 1 rfl
    have q0 := P.c4.cell 0 rfl
    have q1 := P.c4.cell 1 rfl
    have q2 := P.c4.free 0 rfl
    have q3 := P.c4.free 1 rfl
    clear G P WV
    have HF : Hid (∀ W, P5 W w.heap.size [.slice F0 (trimZ X0).length c0', .bool false] [.slice F1 z6.length c1', .bool false] [.slice Fm z8.length cm', .bool neg] [.slice F2 z12.length c2', .bool false] [.slice Fi (trimZ X2).length ci', .bool false] →
        Canon.SF [(⟨w.heap.size + 1, 0, none⟩, .agg #[.slice F1 z6.length c1', .bool false]), (⟨w.heap.size + 1 + 1, 0, none⟩, .agg #[.slice Fm z8.length cm', .bool neg]), (⟨w.heap.size + 1 + 1 + 1, 0, none⟩, .agg #[.slice F2 z12.length c2', .bool false]), (⟨w.heap.size + 1 + 1 + 1 + 1, 0, none⟩, .agg #[.slice Fi (trimZ X2).length ci', .bool false])] W) := Lib.hid (fun W P =>
      Canon.sf_agg (fun j u h => P.c1.at0 j h) (Canon.sf_agg (fun j u h => P.c2.at0 j h) (Canon.sf_agg (fun j u h => P.c3.at0 j h) (Canon.sf_agg (fun j u h => P.c4.at0 j h) (Canon.sf_nil _)))))
    refine Canon.region_held [57, 58, 59, 60] _ (by kernel_rfl) (by kernel_rfl) (HF.out _ PP.out) ?_
    refine Canon.segs_at 5 _ _ _ (by kernel_rfl) ?_
    simp only [List.take_succ_cons, List.take_zero, List.drop_succ_cons, List.drop_zero]
    go_wp2
    clear a0 a1 a2 a3 b0 b1 b2 b3 d0 d1 d2 d3 e0 e1 e2 e3 q0 q1 q2 q3
    have PN := Lib.hid (((PP.out.drew).s0 0 (.slice F0 (trimZ X0).length c0')).s0 1 (.bool false))
    have WN := Lib.hid ((WW.out.drew.set (w.heap.size) 0 (by omega) (.slice F0 (trimZ X0).length c0')).set (w.heap.size) 1 (by omega) (.bool false))
    have GN := Lib.hid (gb_set (p := ⟨w.heap.size, 1, none⟩) (gb_set (p := ⟨w.heap.size, 0, none⟩) (gb_drew GG.out) (by show w.heap.size ≤ w.heap.size; omega) (.slice F0 (trimZ X0).length c0')) (by show w.heap.size ≤ w.heap.size; omega) (.bool false))
    clear PP WW GG
    refine ⟨HF.out _ PN.out, ?_⟩
    refine segs_gen (fun W => w.grownBy W none ∧ P5 W w.heap.size [.slice F0 (trimZ X0).length c0', .bool false] [.slice F1 z6.length c1', .bool false] [.slice Fm z8.length cm', .bool neg] [.slice F2 z12.length c2', .bool false] [.slice Fi (trimZ X2).length ci', .bool false] ∧ Wv W (w.heap.size + 1 + 1 + 1 + 1 + 1) _) ⟨GN.out, PN.out, WN.out⟩ ?_
    clear PN WN GN
    rintro wr0 ⟨G, P, WV⟩
    have GG := Lib.hid G
    have PP := Lib.hid P
    have WW := Lib.hid WV
    have a0 := P.c0.cell 0 rfl
    have a1 := P.c0.cell 1 rfl
    have a2 := P.c0.free 0 rfl
    have a3 := P.c0.free 1 rfl
    have b0 := P.c1.cell 0 rfl
    have b1 := P.c1.cell 1 rfl
    have b2 := P.c1.free 0 rfl
    have b3 := P.c1.free 1 rfl
    have d0 := P.c2.cell 0 rfl
    have d1 := P.c2.cell 1 rfl
    have d2 := P.c2.free 0 rfl
    have d3 := P.c2.free 1 rfl
    have e0 := P.c3.cell 0 rfl
    have e1 := P.c3.cell 1 rfl
    have e2 := P.c3.free 0 rfl
    have e3 := P.c3.free 1 rfl
    have q0 := P.c4.cell 0 rfl
    have q1 := P.c4.cell 1 rfl
    have q2 := P.c4.free 0 rfl
    have q3 := P.c4.free 1 rfl
    clear G P WV
    refine Canon.segs_at 0 _ _ _ (by kernel_rfl) ?_
    simp only [List.take_succ_cons, List.take_zero, List.drop_succ_cons, List.drop_zero]
    go_wp2
    clear a0 a1 a2 a3 b0 b1 b2 b3 d0 d1 d2 d3 e0 e1 e2 e3 q0 q1 q2 q3
    have PN := Lib.hid ((PP.out.s1 0 (.slice F1 z6.length c1')).s1 1 (.bool false))
    have WN := Lib.hid ((WW.out.set (w.heap.size + 1) 0 (by omega) (.slice F1 z6.length c1')).set (w.heap.size + 1) 1 (by omega) (.bool false))
    have GN := Lib.hid (gb_set (p := ⟨w.heap.size + 1, 1, none⟩) (gb_set (p := ⟨w.heap.size + 1, 0, none⟩) GG.out (by show w.heap.size ≤ w.heap.size + 1; omega) (.slice F1 z6.length c1')) (by show w.heap.size ≤ w.heap.size + 1; omega) (.bool false))
    clear PP WW GG
    refine ⟨HF.out _ PN.out, ?_⟩
    refine segs_gen (fun W => w.grownBy W none ∧ P5 W w.heap.size [.slice F0 (trimZ X0).length c0', .bool false] [.slice F1 z6.length c1', .bool false] [.slice Fm z8.length cm', .bool neg] [.slice F2 z12.length c2', .bool false] [.slice Fi (trimZ X2).length ci', .bool false] ∧ Wv W (w.heap.size + 1 + 1 + 1 + 1 + 1) _) ⟨GN.out, PN.out, WN.out⟩ ?_
    clear PN WN GN
    rintro wr1 ⟨G, P, WV⟩
    have GG := Lib.hid G
    have PP := Lib.hid P
    have WW := Lib.hid WV
    have a0 := P.c0.cell 0 rfl
    have a1 := P.c0.cell 1 rfl
    have a2 := P.c0.free 0 rfl
    have a3 := P.c0.free 1 rfl
    have b0 := P.c1.cell 0 rfl
    have b1 := P.c1.cell 1 rfl
    have b2 := P.c1.free 0 rfl
    have b3 := P.c1.free 1 rfl
    have d0 := P.c2.cell 0 rfl
    have d1 := P.c2.cell 1 rfl
    have d2 := P.c2.free 0 rfl
    have d3 := P.c2.free 1 rfl
    have e0 := P.c3.cell 0 rfl
    have e1 := P.c3.cell 1 rfl
    have e2 := P.c3.free 0 rfl
    have e3 := P.c3.free 1 rfl
    have q0 := P.c4.cell 0 rfl
    have q1 := P.c4.cell 1 rfl
    have q2 := P.c4.free 0 rfl
    have q3 := P.c4.free 1 rfl
    clear G P WV
    refine Canon.segs_at 0 _ _ _ (by kernel_rfl) ?_
    simp only [List.take_succ_cons, List.take_zero, List.drop_succ_cons, List.drop_zero]
    go_wp2
    clear a0 a1 a2 a3 b0 b1 b2 b3 d0 d1 d2 d3 e0 e1 e2 e3 q0 q1 q2 q3
    have PN := Lib.hid ((PP.out.s2 0 (.slice Fm z8.length cm')).s2 1 (.bool neg))
    have WN := Lib.hid ((WW.out.set (w.heap.size + 1 + 1) 0 (by omega) (.slice Fm z8.length cm')).set (w.heap.size + 1 + 1) 1 (by omega) (.bool neg))
    have GN := Lib.hid (gb_set (p := ⟨w.heap.size + 1 + 1, 1, none⟩) (gb_set (p := ⟨w.heap.size + 1 + 1, 0, none⟩) GG.out (by show w.heap.size ≤ w.heap.size + 1 + 1; omega) (.slice Fm z8.length cm')) (by show w.heap.size ≤ w.heap.size + 1 + 1; omega) (.bool neg))
    clear PP WW GG
    refine ⟨HF.out _ PN.out, ?_⟩
    refine segs_gen (fun W => w.grownBy W none ∧ P5 W w.heap.size [.slice F0 (trimZ X0).length c0', .bool false] [.slice F1 z6.length c1', .bool false] [.slice Fm z8.length cm', .bool neg] [.slice F2 z12.length c2', .bool false] [.slice Fi (trimZ X2).length ci', .bool false] ∧ Wv W (w.heap.size + 1 + 1 + 1 + 1 + 1) _) ⟨GN.out, PN.out, WN.out⟩ ?_
    clear PN WN GN
    rintro wr2 ⟨G, P, WV⟩
    have GG := Lib.hid G
    have PP := Lib.hid P
    have WW := Lib.hid WV
    have a0 := P.c0.cell 0 rfl
    have a1 := P.c0.cell 1 rfl
    have a2 := P.c0.free 0 rfl
    have a3 := P.c0.free 1 rfl
    have b0 := P.c1.cell 0 rfl
    have b1 := P.c1.cell 1 rfl
    have b2 := P.c1.free 0 rfl
    have b3 := P.c1.free 1 rfl
    have d0 := P.c2.cell 0 rfl
    have d1 := P.c2.cell 1 rfl
    have d2 := P.c2.free 0 rfl
    have d3 := P.c2.free 1 rfl
    have e0 := P.c3.cell 0 rfl
    have e1 := P.c3.cell 1 rfl
    have e2 := P.c3.free 0 rfl
    have e3 := P.c3.free 1 rfl
    have q0 := P.c4.cell 0 rfl
    have q1 := P.c4.cell 1 rfl
    have q2 := P.c4.free 0 rfl
    have q3 := P.c4.free 1 rfl
    clear G P WV
    refine Canon.segs_at 0 _ _ _ (by kernel_rfl) ?_
    simp only [List.take_succ_cons, List.take_zero, List.drop_succ_cons, List.drop_zero]
    go_wp2
    clear a0 a1 a2 a3 b0 b1 b2 b3 d0 d1 d2 d3 e0 e1 e2 e3 q0 q1 q2 q3
    have PN := Lib.hid ((PP.out.s3 0 (.slice F2 z12.length c2')).s3 1 (.bool false))
    have WN := Lib.hid ((WW.out.set (w.heap.size + 1 + 1 + 1) 0 (by omega) (.slice F2 z12.length c2')).set (w.heap.size + 1 + 1 + 1) 1 (by omega) (.bool false))
    have GN := Lib.hid (gb_set (p := ⟨w.heap.size + 1 + 1 + 1, 1, none⟩) (gb_set (p := ⟨w.heap.size + 1 + 1 + 1, 0, none⟩) GG.out (by show w.heap.size ≤ w.heap.size + 1 + 1 + 1; omega) (.slice F2 z12.length c2')) (by show w.heap.size ≤ w.heap.size + 1 + 1 + 1; omega) (.bool false))
    clear PP WW GG
    refine ⟨HF.out _ PN.out, ?_⟩
    refine segs_gen (fun W => w.grownBy W none ∧ P5 W w.heap.size [.slice F0 (trimZ X0).length c0', .bool false] [.slice F1 z6.length c1', .bool false] [.slice Fm z8.length cm', .bool neg] [.slice F2 z12.length c2', .bool false] [.slice Fi (trimZ X2).length ci', .bool false] ∧ Wv W (w.heap.size + 1 + 1 + 1 + 1 + 1) _) ⟨GN.out, PN.out, WN.out⟩ ?_
    clear PN WN GN
    rintro wr3 ⟨G, P, WV⟩
    have GG := Lib.hid G
    have PP := Lib.hid P
    have WW := Lib.hid WV
    have a0 := P.c0.cell 0 rfl
    have a1 := P.c0.cell 1 rfl
    have a2 := P.c0.free 0 rfl
    have a3 := P.c0.free 1 rfl
    have b0 := P.c1.cell 0 rfl
    have b1 := P.c1.cell 1 rfl
    have b2 := P.c1.free 0 rfl
    have b3 := P.c1.free 1 rfl
    have d0 := P.c2.cell 0 rfl
    have d1 := P.c2.cell 1 rfl
    have d2 := P.c2.free 0 rfl
    have d3 := P.c2.free 1 rfl
    have e0 := P.c3.cell 0 rfl
    have e1 := P.c3.cell 1 rfl
    have e2 := P.c3.free 0 rfl
    have e3 := P.c3.free 1 rfl
    have q0 := P.c4.cell 0 rfl
    have q1 := P.c4.cell 1 rfl
    have q2 := P.c4.free 0 rfl
    have q3 := P.c4.free 1 rfl
    clear G P WV
    refine Canon.segs_at 0 _ _ _ (by kernel_rfl) ?_
    simp only [List.take_succ_cons, List.take_zero, List.drop_succ_cons, List.drop_zero]
    go_wp2
    clear a0 a1 a2 a3 b0 b1 b2 b3 d0 d1 d2 d3 e0 e1 e2 e3 q0 q1 q2 q3
    have PN := Lib.hid ((PP.out.s4 0 (.slice Fi (trimZ X2).length ci')).s4 1 (.bool false))
    have WN := Lib.hid ((WW.out.set (w.heap.size + 1 + 1 + 1 + 1) 0 (by omega) (.slice Fi (trimZ X2).length ci')).set (w.heap.size + 1 + 1 + 1 + 1) 1 (by omega) (.bool false))
    have GN := Lib.hid (gb_set (p := ⟨w.heap.size + 1 + 1 + 1 + 1, 1, none⟩) (gb_set (p := ⟨w.heap.size + 1 + 1 + 1 + 1, 0, none⟩) GG.out (by show w.heap.size ≤ w.heap.size + 1 + 1 + 1 + 1; omega) (.slice Fi (trimZ X2).length ci')) (by show w.heap.size ≤ w.heap.size + 1 + 1 + 1 + 1; omega) (.bool false))
    clear PP WW GG
    refine ⟨HF.out _ PN.out, ?_⟩
    refine segs_gen (fun W => w.grownBy W none ∧ P5 W w.heap.size [.slice F0 (trimZ X0).length c0', .bool false] [.slice F1 z6.length c1', .bool false] [.slice Fm z8.length cm', .bool neg] [.slice F2 z12.length c2', .bool false] [.slice Fi (trimZ X2).length ci', .bool false] ∧ Wv W (w.heap.size + 1 + 1 + 1 + 1 + 1) _) ⟨GN.out, PN.out, WN.out⟩ ?_
    clear PN WN GN
    rintro wr4 ⟨G, P, WV⟩
    have GG := Lib.hid G
    have PP := Lib.hid P
    have WW := Lib.hid WV
    have a0 := P.c0.cell 0 rfl
    have a1 := P.c0.cell 1 rfl
    have a2 := P.c0.free 0 rfl
    have a3 := P.c0.free 1 rfl
    have b0 := P.c1.cell 0 rfl
    have b1 := P.c1.cell 1 rfl
    have b2 := P.c1.free 0 rfl
    have b3 := P.c1.free 1 rfl
    have d0 := P.c2.cell 0 rfl
    have d1 := P.c2.cell 1 rfl
    have d2 := P.c2.free 0 rfl
    have d3 := P.c2.free 1 rfl
    have e0 := P.c3.cell 0 rfl
    have e1 := P.c3.cell 1 rfl
    have e2 := P.c3.free 0 rfl
    have e3 := P.c3.free 1 rfl
    have q0 := P.c4.cell 0 rfl
    have q1 := P.c4.cell 1 rfl
    have q2 := P.c4.free 0 rfl
    have q3 := P.c4.free 1 rfl
    clear G P WV
    refine Canon.segs_end _ _ _ (by kernel_rfl) ?_
    go_wp2
    refine ⟨by kernel_rfl, by kernel_rfl, by kernel_rfl, ?_⟩
    clear a0 a1 a2 a3 b0 b1 b2 b3 d0 d1 d2 d3 e0 e1 e2 e3 q0 q1 q2 q3
    go_wp2
    refine bodyPost_ret (res_agg5 rfl PP.out.c0 PP.out.c1 PP.out.c2 PP.out.c3 PP.out.c4 rfl rfl rfl rfl rfl (by kernel_rfl) (by kernel_rfl) (by kernel_rfl) (by kernel_rfl) (by kernel_rfl) (by kernel_rfl)) rfl ?_
    have DW : w.heap.size ≤ w.heap.size + 1 + 1 + 1 + 1 + 1 := by omega
    refine ⟨_, _, _, _, _, V0, V1, V2, by rw [← HNEG.out], ?_, ?_, ?_, ?_, (WW.out.at 1 rfl).mono DW, (WW.out.at 2 rfl).mono DW, (WW.out.at 3 rfl).mono DW, (WW.out.at 6 rfl).mono DW, (WW.out.at 7 rfl).mono DW, GG.out⟩
    · rw [← HXV.out, HVV.out.1, HVV.out.2.1, HVV.out.2.2, HX0.out, HX1.out, HX2.out]
      first | (rw [HK2.out]; exact val_cut3 xs k) | exact val_cut3 xs k
    · rw [HVV.out.1, HX0.out]
      have := val_lt (B := B64) (ws_take WX.out k).dg
      rw [List.length_take] at this
      exact Nat.lt_of_lt_of_le this (Nat.pow_le_pow_right (by decide) (Nat.min_le_left _ _))
    · rw [HVV.out.2.1, HX1.out]
      have := val_lt (B := B64) (ws_drop (ws_take WX.out K2) k).dg
      rw [List.length_drop, List.length_take] at this
      exact Nat.lt_of_lt_of_le this (Nat.pow_le_pow_right (by decide) (by first | (rw [HK2.out]; omega) | omega))
    · rw [HVV.out.2.2, HX2.out]
      have := val_lt (B := B64) (ws_drop WX.out K2).dg
      rw [List.length_drop, ← HN.out] at this
      exact Nat.lt_of_lt_of_le this (Nat.pow_le_pow_right (by decide) (by have := HXL.out; first | (rw [HK2.out]; omega) | omega))
end Go.Proofs.YtldkiddoajlohaaGreatDoor

/- Three pieces: put together. -/
namespace Go.Proofs.YtldkiddoajlohaaGreatDoor
open Go.RowKit

theorem jS5 (h : Nat) (f : Nat → Nat) : jS h f 5 = f 0 + B64 ^ h * f 1 + B64 ^ (2 * h) * f 2 + B64 ^ (3 * h) * f 3 + B64 ^ (4 * h) * f 4 := by
  show 0 + B64 ^ (h * 0) * f 0 + B64 ^ (h * 1) * f 1 + B64 ^ (h * 2) * f 2 + B64 ^ (h * 3) * f 3 + B64 ^ (h * 4) * f 4 = _
  rw [Nat.mul_zero, Nat.pow_zero, Nat.one_mul, Nat.zero_add, Nat.mul_one, Nat.mul_comm h 2, Nat.mul_comm h 3, Nat.mul_comm h 4]
theorem jZ1 (f : Nat → Nat) : jS 0 f 1 = f 0 := by simp [jS]
theorem jZ2 (f : Nat → Nat) : jS 0 f 2 = f 0 + f 1 := by simp [jS]
theorem jZ3 (f : Nat → Nat) : jS 0 f 3 = f 0 + f 1 + f 2 := by simp [jS]
/-- Some parts in new memory: one, two, five. -/
theorem pts1 (w : World) (t : TypeId) (v0 : Value) (l0 : List Int) (h0 : Sl w v0 l0) :
    Pts (w.alloc (.cells #[v0] t)) (.slice (some ⟨w.heap.size, 0, none⟩) 1 1) 1 (fun j => [v0].getD j v0) (fun j => [l0].getD j []) := by
  have G := gb_alloc (gb_refl w none) (Obj.cells #[v0] t)
  refine ⟨⟨_, 1, rfl, by decide, by decide, fun _ => ⟨_, 0, rfl, fun j hj => ?_⟩⟩, fun j hj => ?_⟩
  · have C := cs_new w #[v0] t
    rw [Nat.zero_add]
    obtain rfl : j = 0 := by omega
    exact C.cell 0 rfl
  · obtain rfl : j = 0 := by omega
    exact h0.grown0 G
theorem pts2 (w : World) (t : TypeId) (v0 v1 : Value) (l0 l1 : List Int) (h0 : Sl w v0 l0) (h1 : Sl w v1 l1) :
    Pts (w.alloc (.cells #[v0, v1] t)) (.slice (some ⟨w.heap.size, 0, none⟩) 2 2) 2 (fun j => [v0, v1].getD j v0) (fun j => [l0, l1].getD j []) := by
  have G := gb_alloc (gb_refl w none) (Obj.cells #[v0, v1] t)
  refine ⟨⟨_, 2, rfl, by decide, by decide, fun _ => ⟨_, 0, rfl, fun j hj => ?_⟩⟩, fun j hj => ?_⟩
  · have C := cs_new w #[v0, v1] t
    rw [Nat.zero_add]
    rcases (show j = 0 ∨ j = 1 by omega) with rfl | rfl
    · exact C.cell 0 rfl
    · exact C.cell 1 rfl
  · rcases (show j = 0 ∨ j = 1 by omega) with rfl | rfl
    · exact h0.grown0 G
    · exact h1.grown0 G
theorem pts5 (w : World) (t : TypeId) (v0 v1 v2 v3 v4 : Value) (l0 l1 l2 l3 l4 : List Int) (h0 : Sl w v0 l0) (h1 : Sl w v1 l1) (h2 : Sl w v2 l2) (h3 : Sl w v3 l3) (h4 : Sl w v4 l4) :
    Pts (w.alloc (.cells #[v0, v1, v2, v3, v4] t)) (.slice (some ⟨w.heap.size, 0, none⟩) 5 5) 5 (fun j => [v0, v1, v2, v3, v4].getD j v0) (fun j => [l0, l1, l2, l3, l4].getD j []) := by
  have G := gb_alloc (gb_refl w none) (Obj.cells #[v0, v1, v2, v3, v4] t)
  refine ⟨⟨_, 5, rfl, by decide, by decide, fun _ => ⟨_, 0, rfl, fun j hj => ?_⟩⟩, fun j hj => ?_⟩
  · have C := cs_new w #[v0, v1, v2, v3, v4] t
    rw [Nat.zero_add]
    rcases (show j = 0 ∨ j = 1 ∨ j = 2 ∨ j = 3 ∨ j = 4 by omega) with rfl | rfl | rfl | rfl | rfl
    · exact C.cell 0 rfl
    · exact C.cell 1 rfl
    · exact C.cell 2 rfl
    · exact C.cell 3 rfl
    · exact C.cell 4 rfl
  · rcases (show j = 0 ∨ j = 1 ∨ j = 2 ∨ j = 3 ∨ j = 4 by omega) with rfl | rfl | rfl | rfl | rfl
    · exact h0.grown0 G
    · exact h1.grown0 G
    · exact h2.grown0 G
    · exact h3.grown0 G
    · exact h4.grown0 G
theorem Rv.five {W : World} {u0 u1 u2 u3 u4 : Value} {l0 l1 l2 l3 l4 : List Int} (s0 : Sl W u0 l0) (s1 : Sl W u1 l1) (s2 : Sl W u2 l2) (s3 : Sl W u3 l3) (s4 : Sl W u4 l4) : Rv W 0 [(u0, l0), (u1, l1), (u2, l2), (u3, l3), (u4, l4)] := fun i p hp => by
  rcases i with _ | _ | _ | _ | _ | i
  · obtain rfl := Option.some.inj hp; exact ⟨s0, fun _ _ => Nat.zero_le _⟩
  · obtain rfl := Option.some.inj hp; exact ⟨s1, fun _ _ => Nat.zero_le _⟩
  · obtain rfl := Option.some.inj hp; exact ⟨s2, fun _ _ => Nat.zero_le _⟩
  · obtain rfl := Option.some.inj hp; exact ⟨s3, fun _ _ => Nat.zero_le _⟩
  · obtain rfl := Option.some.inj hp; exact ⟨s4, fun _ _ => Nat.zero_le _⟩
  · simp at hp
/-- What three pieces' products make. -/
structure TJ (neg : Bool) (c0 c1 c2 c3 c4 r0 r1 rm r2 ri M : Nat) : Prop where
  e0 : r0 = c0
  e1 : r1 = c0 + c1 + c2 + c3 + c4
  em : if neg then rm + (c0 + c2 + c4) = c1 + c3 else rm + (c1 + c3) = c0 + c2 + c4
  e2 : r2 = c0 + 2 * c1 + 4 * c2 + 8 * c3 + 16 * c4
  ei : ri = c4
  lim : 16 * (c0 + c1 + c2 + c3 + c4) < B64 ^ M
  M4 : M ≤ 40000
set_option maxRecDepth 100000 in
set_option maxHeartbeats 8000000 in
theorem tjoined_c (w : World) (k : Nat) (v0 v1 vm v2 vi : Value) (l0 l1 lm l2 li : List Int) (neg : Bool) (c0 c1 c2 c3 c4 M : Nat) (s0 : Sl w v0 l0) (s1 : Sl w v1 l1) (sm : Sl w vm lm) (s2 : Sl w v2 l2) (si : Sl w vi li)
    (hk : k ≤ 16384) (hl : l0.length ≤ 40000 ∧ l1.length ≤ 40000 ∧ lm.length ≤ 40000 ∧ l2.length ≤ 40000 ∧ li.length ≤ 40000) (h : TJ neg c0 c1 c2 c3 c4 (val B64 l0) (val B64 l1) (val B64 lm) (val B64 l2) (val B64 li) M) :
    Calls Tryz.prog 84 #[.int .i64 k, v0, v1, vm, v2, vi, .bool neg] w fun e w' => ∃ x, e = .returned x ∧ Wo w' w.heap.size x (c0 + B64 ^ k * c1 + B64 ^ (2 * k) * c2 + B64 ^ (3 * k) * c3 + B64 ^ (4 * k) * c4) ∧ w.grownBy w' none := by
  have R0 := Lib.hid (Rv.five s0 s1 sm s2 si)
  have HTJ := Lib.hid h
  have HL := Lib.hid hl
  have AD := Lib.hid (ladd_c w v1 vm _ _ s1 sm (by omega) (by omega))
  have SB := Lib.hid (fun w' (g : w.grownBy w' none) => sub2_c w' v1 vm _ _ (s1.grown0 g) (sm.grown0 g) (by omega))
  obtain ⟨A0, a0, rfl, _, _⟩ := s0.form
  obtain ⟨A1, a1, rfl, _, _⟩ := s1.form
  obtain ⟨Am, am, rfl, _, _⟩ := sm.form
  obtain ⟨A2, a2, rfl, _, _⟩ := s2.form
  obtain ⟨Ai, ai, rfl, _, _⟩ := si.form
  clear s0 s1 sm s2 si h hl
  go_enter Tryz.func84, Tryz.ntmps84
  go_wp2_with fail
  refine (AD.out).mono ?_
  rintro e w1 ⟨y0, rfl, o1, g1⟩
  have W1 := Lib.hid ((Wv.nil w1 w.heap.size).add o1 (Nat.le_refl _))
  have G1 := Lib.hid g1
  have R1 := Lib.hid (R0.out.grown0 g1)
  clear o1 g1 AD R0
  go_wp2_with fail
  refine (SB.out w1 G1.out).mono ?_
  rintro e w2 ⟨y1, rfl, o2, g2⟩
  have W2 := Lib.hid ((W1.out.grown0 g2).add o2 G1.out.size)
  have G2 := Lib.hid (gb_trans G1.out g2)
  have R2 := Lib.hid (R1.out.grown0 g2)
  clear o2 g2 SB R1 W1 G1
  cases neg with
  | true =>
    have HA : Hid (val B64 l1 - val B64 lm = 2 * (c0 + c2 + c4) ∧ val B64 l1 + val B64 lm = 2 * (c1 + c3)) := Lib.hid (by
      have h1 := HTJ.out.e1
      have h2 := HTJ.out.em
      simp at h2
      omega)
    obtain ⟨ze, se, le, ve⟩ := (W2.out.at 1 rfl).get (N := M) (by have := HTJ.out.lim; have := HA.out; omega)
    have SE := lshr_c w2 y1 ze 1 se (by have := HTJ.out.M4; omega) (by decide) (by decide)
    rw [ve, HA.out.1, show 2 * (c0 + c2 + c4) / 2 ^ 1 = c0 + c2 + c4 by omega] at SE
    have HSE := Lib.hid (show Calls Tryz.prog 102 #[y1, .int .i64 1] w2 _ from SE)
    clear SE se le ve
    go_wp2_with fail
    refine (HSE.out).mono ?_
    rintro e w3 ⟨ev, rfl, o3, g3⟩
    have W3 := Lib.hid ((W2.out.grown0 g3).add o3 G2.out.size)
    have R3 := Lib.hid (R2.out.grown0 g3)
    have G3 := Lib.hid (gb_trans G2.out g3)
    clear o3 g3 HSE W2 R2 G2
    obtain ⟨zo, so, lo, vo⟩ := (W3.out.at 0 rfl).get (N := M) (by have := HTJ.out.lim; have := HA.out; omega)
    have SO := lshr_c w3 y0 zo 1 so (by have := HTJ.out.M4; omega) (by decide) (by decide)
    rw [vo, HA.out.2, show 2 * (c1 + c3) / 2 ^ 1 = c1 + c3 by omega] at SO
    have HSO := Lib.hid (show Calls Tryz.prog 102 #[y0, .int .i64 1] w3 _ from SO)
    clear SO so lo vo
    go_wp2_with fail
    refine (HSO.out).mono ?_
    rintro e w4 ⟨od, rfl, o4, g4⟩
    have W4 := Lib.hid ((W3.out.grown0 g4).add o4 G3.out.size)
    have R4 := Lib.hid (R3.out.grown0 g4)
    have G4 := Lib.hid (gb_trans G3.out g4)
    clear o4 g4 HSO W3 R3 G3
    obtain ⟨zv, sv, lv, vv⟩ := (W4.out.at 2 rfl).get (N := M) (by have := HTJ.out.lim; omega)
    have PT := pts2 w4 34 _ _ _ _ (R4.out.at 0 rfl) (R4.out.at 4 rfl)
    have GP := gb_alloc (gb_refl w4 none) (Obj.cells #[.slice A0 l0.length a0, .slice Ai li.length ai] 34)
    have SU := sub_c _ ev _ zv 2 _ _ M (sv.grown0 GP) PT (by decide) (fun j hj => by
      have b := HL.out
      rcases (show j = 0 ∨ j = 1 by omega) with rfl | rfl
      · show l0.length ≤ 100000; omega
      · show li.length ≤ 100000; omega) (by have := HTJ.out.M4; omega) (by
      rw [jZ2]
      show val B64 l0 + val B64 li < _
      rw [HTJ.out.e0, HTJ.out.ei]
      have := HTJ.out.lim; omega)
    rw [jZ2, vv, show c0 + c2 + c4 - (val B64 (([l0, li] : List (List Int)).getD 0 []) + val B64 (([l0, li] : List (List Int)).getD 1 [])) = c2 from by
      show c0 + c2 + c4 - (val B64 l0 + val B64 li) = c2
      rw [HTJ.out.e0, HTJ.out.ei]; omega] at SU
    have HSU := Lib.hid SU
    have HGP := Lib.hid GP
    clear SU PT GP sv lv vv
    go_wp2_with fail
    refine (HSU.out).mono ?_
    rintro e w5 ⟨x2, rfl, o5, g5⟩
    have GA := gb_trans HGP.out g5
    have W5 := Lib.hid ((W4.out.grown0 GA).add o5 (Nat.le_trans G4.out.size HGP.out.size))
    have R5 := Lib.hid (R4.out.grown0 GA)
    have G5 := Lib.hid (gb_trans G4.out GA)
    clear o5 g5 GA HSU HGP W4 R4 G4
    obtain ⟨zs2, ss2, ls2, vs2⟩ := (W5.out.at 4 rfl).get (N := M) (by have := HTJ.out.lim; omega)
    have SH : Calls Tryz.prog 100 #[x2, .int .i64 2] w5 fun e w' => ∃ x, e = .returned x ∧ Wo w' w5.heap.size x (val B64 zs2 * 2 ^ 2) ∧ w5.grownBy w' none := lshl_c w5 x2 zs2 2 ss2 (by have := HTJ.out.M4; omega) (by decide) (by decide)
    rw [vs2] at SH
    have HSH := Lib.hid SH
    clear SH ss2 ls2 vs2
    go_wp2_with fail
    refine (HSH.out).mono ?_
    rintro e w6 ⟨t2, rfl, o6, g6⟩
    have W6 := Lib.hid ((W5.out.grown0 g6).add o6 G5.out.size)
    have R6 := Lib.hid (R5.out.grown0 g6)
    have G6 := Lib.hid (gb_trans G5.out g6)
    clear o6 g6 HSH W5 R5 G5
    have SH : Calls Tryz.prog 100 #[.slice Ai li.length ai, .int .i64 4] w6 fun e w' => ∃ x, e = .returned x ∧ Wo w' w6.heap.size x (val B64 li * 2 ^ 4) ∧ w6.grownBy w' none := lshl_c w6 _ li 4 (R6.out.at 4 rfl) (by have := HL.out; omega) (by decide) (by decide)
    rw [HTJ.out.ei] at SH
    have HSH := Lib.hid SH
    clear SH
    go_wp2_with fail
    refine (HSH.out).mono ?_
    rintro e w7 ⟨t4, rfl, o7, g7⟩
    have W7 := Lib.hid ((W6.out.grown0 g7).add o7 G6.out.size)
    have R7 := Lib.hid (R6.out.grown0 g7)
    have G7 := Lib.hid (gb_trans G6.out g7)
    clear o7 g7 HSH W6 R6 G6
    obtain ⟨q2, sq2, lq2, vq2⟩ := (W7.out.at 5 rfl).get (N := M) (by have := HTJ.out.lim; omega)
    obtain ⟨q4, sq4, lq4, vq4⟩ := (W7.out.at 6 rfl).get (N := M) (by have := HTJ.out.lim; omega)
    obtain ⟨Fq2, fq2, rfl, _, _⟩ := sq2.form
    obtain ⟨Fq4, fq4, rfl, _, _⟩ := sq4.form
    have PT := pts3 w7 34 _ _ _ _ q2 q4 (R7.out.at 0 rfl) sq2 sq4
    have GP := gb_alloc (gb_refl w7 none) (Obj.cells #[.slice A0 l0.length a0, .slice Fq2 q2.length fq2, .slice Fq4 q4.length fq4] 34)
    have SU := sub_c _ (.slice A2 l2.length a2) _ l2 3 _ _ M ((R7.out.at 3 rfl).grown0 GP) PT (by decide) (fun j hj => by
      have b := HL.out
      have b2 := HTJ.out.M4
      rcases (show j = 0 ∨ j = 1 ∨ j = 2 by omega) with rfl | rfl | rfl
      · show l0.length ≤ 100000; omega
      · show q2.length ≤ 100000; omega
      · show q4.length ≤ 100000; omega) (by have := HL.out; omega) (by
      rw [jZ3]
      show val B64 l0 + val B64 q2 + val B64 q4 < _
      rw [HTJ.out.e0, vq2, vq4]
      have := HTJ.out.lim; omega)
    rw [jZ3, HTJ.out.e2, show c0 + 2 * c1 + 4 * c2 + 8 * c3 + 16 * c4 - (val B64 (([l0, q2, q4] : List (List Int)).getD 0 []) + val B64 (([l0, q2, q4] : List (List Int)).getD 1 []) + val B64 (([l0, q2, q4] : List (List Int)).getD 2 [])) = 2 * (c1 + 4 * c3) from by
      show c0 + 2 * c1 + 4 * c2 + 8 * c3 + 16 * c4 - (val B64 l0 + val B64 q2 + val B64 q4) = _
      rw [HTJ.out.e0, vq2, vq4]; omega] at SU
    have HSU := Lib.hid SU
    have HGP := Lib.hid GP
    clear SU PT GP sq2 lq2 vq2 sq4 lq4 vq4
    go_wp2_with fail
    refine (HSU.out).mono ?_
    rintro e w8 ⟨x8, rfl, o8, g8⟩
    have GA := gb_trans HGP.out g8
    have W8 := Lib.hid ((W7.out.grown0 GA).add o8 (Nat.le_trans G7.out.size HGP.out.size))
    have R8 := Lib.hid (R7.out.grown0 GA)
    have G8 := Lib.hid (gb_trans G7.out GA)
    clear o8 g8 GA HSU HGP W7 R7 G7
    obtain ⟨z8, s8, l8, v8⟩ := (W8.out.at 7 rfl).get (N := M) (by have := HTJ.out.lim; omega)
    have SE := lshr_c w8 x8 z8 1 s8 (by have := HTJ.out.M4; omega) (by decide) (by decide)
    rw [v8, show 2 * (c1 + 4 * c3) / 2 ^ 1 = c1 + 4 * c3 by omega] at SE
    have HSE := Lib.hid (show Calls Tryz.prog 102 #[x8, .int .i64 1] w8 _ from SE)
    clear SE s8 l8 v8
    go_wp2_with fail
    refine (HSE.out).mono ?_
    rintro e w9 ⟨x9, rfl, o9, g9⟩
    have W9 := Lib.hid ((W8.out.grown0 g9).add o9 G8.out.size)
    have R9 := Lib.hid (R8.out.grown0 g9)
    have G9 := Lib.hid (gb_trans G8.out g9)
    clear o9 g9 HSE W8 R8 G8
    obtain ⟨z9, s9, l9, v9⟩ := (W9.out.at 8 rfl).get (N := M) (by have := HTJ.out.lim; omega)
    obtain ⟨zd, sd, ld, vd⟩ := (W9.out.at 3 rfl).get (N := M) (by have := HTJ.out.lim; omega)
    obtain ⟨Fd, fd, rfl, _, _⟩ := sd.form
    have PT := pts1 w9 34 _ _ sd
    have GP := gb_alloc (gb_refl w9 none) (Obj.cells #[.slice Fd zd.length fd] 34)
    have SU := sub_c _ x9 _ z9 1 _ _ M (s9.grown0 GP) PT (by decide) (fun j hj => by
      have b2 := HTJ.out.M4
      obtain rfl : j = 0 := by omega
      show zd.length ≤ 100000; omega) (by have := HTJ.out.M4; omega) (by
      rw [jZ1]
      show val B64 zd < _
      rw [vd]
      have := HTJ.out.lim; omega)
    rw [jZ1, v9, show c1 + 4 * c3 - val B64 (([zd] : List (List Int)).getD 0 []) = 3 * c3 from by
      show c1 + 4 * c3 - val B64 zd = _
      rw [vd]; omega] at SU
    have HSU := Lib.hid SU
    have HGP := Lib.hid GP
    clear SU PT GP s9 l9 v9 sd ld vd
    go_wp2_with fail
    refine (HSU.out).mono ?_
    rintro e w10 ⟨x10, rfl, o10, g10⟩
    have GA := gb_trans HGP.out g10
    have W10 := Lib.hid ((W9.out.grown0 GA).add o10 (Nat.le_trans G9.out.size HGP.out.size))
    have R10 := Lib.hid (R9.out.grown0 GA)
    have G10 := Lib.hid (gb_trans G9.out GA)
    clear o10 g10 GA HSU HGP W9 R9 G9
    obtain ⟨z10, s10, l10, v10⟩ := (W10.out.at 9 rfl).get (N := M) (by have := HTJ.out.lim; omega)
    have TH := third_c w10 x10 z10 s10 (by have := HTJ.out.M4; omega) (by rw [v10]; omega)
    rw [v10, show 3 * c3 / 3 = c3 by omega] at TH
    have HTH := Lib.hid TH
    clear TH s10 l10 v10
    go_wp2_with fail
    refine (HTH.out).mono ?_
    rintro e w11 ⟨x11, rfl, o11, g11⟩
    have W11 := Lib.hid ((W10.out.grown0 g11).add o11 G10.out.size)
    have R11 := Lib.hid (R10.out.grown0 g11)
    have G11 := Lib.hid (gb_trans G10.out g11)
    clear o11 g11 HTH W10 R10 G10
    obtain ⟨z11, s11, l11, v11⟩ := (W11.out.at 10 rfl).get (N := M) (by have := HTJ.out.lim; omega)
    obtain ⟨F11, f11, rfl, _, _⟩ := s11.form
    obtain ⟨zd2, sd, ld, vd⟩ := (W11.out.at 3 rfl).get (N := M) (by have := HTJ.out.lim; omega)
    have PT := pts1 w11 34 _ _ s11
    have GP := gb_alloc (gb_refl w11 none) (Obj.cells #[.slice F11 z11.length f11] 34)
    have SU := sub_c _ (.slice Fd zd.length fd) _ zd2 1 _ _ M (sd.grown0 GP) PT (by decide) (fun j hj => by
      have b2 := HTJ.out.M4
      obtain rfl : j = 0 := by omega
      show z11.length ≤ 100000; omega) (by have := HTJ.out.M4; omega) (by
      rw [jZ1]
      show val B64 z11 < _
      rw [v11]
      have := HTJ.out.lim; omega)
    rw [jZ1, vd, show c1 + c3 - val B64 (([z11] : List (List Int)).getD 0 []) = c1 from by
      show c1 + c3 - val B64 z11 = _
      rw [v11]; omega] at SU
    have HSU := Lib.hid SU
    have HGP := Lib.hid GP
    clear SU PT GP s11 l11 v11 sd ld vd
    go_wp2_with fail
    refine (HSU.out).mono ?_
    rintro e w12 ⟨x12, rfl, o12, g12⟩
    have GA := gb_trans HGP.out g12
    have W12 := Lib.hid ((W11.out.grown0 GA).add o12 (Nat.le_trans G11.out.size HGP.out.size))
    have R12 := Lib.hid (R11.out.grown0 GA)
    have G12 := Lib.hid (gb_trans G11.out GA)
    clear o12 g12 GA HSU HGP W11 R11 G11
    obtain ⟨y1', t1, lt1, vt1⟩ := (W12.out.at 11 rfl).get (N := M) (by have := HTJ.out.lim; omega)
    obtain ⟨y2', t2', lt2, vt2⟩ := (W12.out.at 4 rfl).get (N := M) (by have := HTJ.out.lim; omega)
    obtain ⟨y3', t3', lt3, vt3⟩ := (W12.out.at 10 rfl).get (N := M) (by have := HTJ.out.lim; omega)
    obtain ⟨H1, h1, rfl, _, _⟩ := t1.form
    obtain ⟨H2, h2, rfl, _, _⟩ := t2'.form
    have PT := pts5 w12 34 _ _ _ _ _ _ _ _ _ _ (R12.out.at 0 rfl) t1 t2' t3' (R12.out.at 4 rfl)
    have GP := gb_alloc (gb_refl w12 none) (Obj.cells #[.slice A0 l0.length a0, .slice H1 y1'.length h1, .slice H2 y2'.length h2, .slice F11 z11.length f11, .slice Ai li.length ai] 34)
    have JN := ljoin_c _ k 5 _ _ _ PT hk (by decide) (fun j hj => by
      have b := HL.out
      have b2 := HTJ.out.M4
      rcases (show j = 0 ∨ j = 1 ∨ j = 2 ∨ j = 3 ∨ j = 4 by omega) with rfl | rfl | rfl | rfl | rfl
      · show l0.length ≤ 100000; omega
      · show y1'.length ≤ 100000; omega
      · show y2'.length ≤ 100000; omega
      · show y3'.length ≤ 100000; omega
      · show li.length ≤ 100000; omega)
    rw [jS5] at JN
    have ej : val B64 (([l0, y1', y2', y3', li] : List (List Int)).getD 0 []) + B64 ^ k * val B64 (([l0, y1', y2', y3', li] : List (List Int)).getD 1 []) + B64 ^ (2 * k) * val B64 (([l0, y1', y2', y3', li] : List (List Int)).getD 2 []) + B64 ^ (3 * k) * val B64 (([l0, y1', y2', y3', li] : List (List Int)).getD 3 []) + B64 ^ (4 * k) * val B64 (([l0, y1', y2', y3', li] : List (List Int)).getD 4 []) = c0 + B64 ^ k * c1 + B64 ^ (2 * k) * c2 + B64 ^ (3 * k) * c3 + B64 ^ (4 * k) * c4 := by
      show val B64 l0 + B64 ^ k * val B64 y1' + B64 ^ (2 * k) * val B64 y2' + B64 ^ (3 * k) * val B64 y3' + B64 ^ (4 * k) * val B64 li = _
      rw [vt1, vt2, vt3, HTJ.out.e0, HTJ.out.ei]
    rw [ej] at JN
    have HJN := Lib.hid JN
    have HGP := Lib.hid (gb_trans G12.out GP)
    clear JN ej PT GP t1 lt1 vt1 t2' lt2 vt2 t3' lt3 vt3 W12 R12
    go_wp2_with fail
    refine (HJN.out).mono ?_
    rintro e w13 ⟨x, rfl, o13, g13⟩
    have KK : Hid (Wo w13 w.heap.size x (c0 + B64 ^ k * c1 + B64 ^ (2 * k) * c2 + B64 ^ (3 * k) * c3 + B64 ^ (4 * k) * c4) ∧ w.grownBy w13 none) := Lib.hid ⟨o13.mono HGP.out.size, gb_trans HGP.out g13⟩
    clear o13 g13 HJN
    go_wp2
    go_ret
    exact ⟨x, rfl, KK.out⟩
  | false =>
    have HA : Hid (val B64 l1 + val B64 lm = 2 * (c0 + c2 + c4) ∧ val B64 l1 - val B64 lm = 2 * (c1 + c3)) := Lib.hid (by
      have h1 := HTJ.out.e1
      have h2 := HTJ.out.em
      simp at h2
      omega)
    obtain ⟨ze, se, le, ve⟩ := (W2.out.at 0 rfl).get (N := M) (by have := HTJ.out.lim; have := HA.out; omega)
    have SE := lshr_c w2 y0 ze 1 se (by have := HTJ.out.M4; omega) (by decide) (by decide)
    rw [ve, HA.out.1, show 2 * (c0 + c2 + c4) / 2 ^ 1 = c0 + c2 + c4 by omega] at SE
    have HSE := Lib.hid (show Calls Tryz.prog 102 #[y0, .int .i64 1] w2 _ from SE)
    clear SE se le ve
    go_wp2_with fail
    refine (HSE.out).mono ?_
    rintro e w3 ⟨ev, rfl, o3, g3⟩
    have W3 := Lib.hid ((W2.out.grown0 g3).add o3 G2.out.size)
    have R3 := Lib.hid (R2.out.grown0 g3)
    have G3 := Lib.hid (gb_trans G2.out g3)
    clear o3 g3 HSE W2 R2 G2
    obtain ⟨zo, so, lo, vo⟩ := (W3.out.at 1 rfl).get (N := M) (by have := HTJ.out.lim; have := HA.out; omega)
    have SO := lshr_c w3 y1 zo 1 so (by have := HTJ.out.M4; omega) (by decide) (by decide)
    rw [vo, HA.out.2, show 2 * (c1 + c3) / 2 ^ 1 = c1 + c3 by omega] at SO
    have HSO := Lib.hid (show Calls Tryz.prog 102 #[y1, .int .i64 1] w3 _ from SO)
    clear SO so lo vo
    go_wp2_with fail
    refine (HSO.out).mono ?_
    rintro e w4 ⟨od, rfl, o4, g4⟩
    have W4 := Lib.hid ((W3.out.grown0 g4).add o4 G3.out.size)
    have R4 := Lib.hid (R3.out.grown0 g4)
    have G4 := Lib.hid (gb_trans G3.out g4)
    clear o4 g4 HSO W3 R3 G3
    obtain ⟨zv, sv, lv, vv⟩ := (W4.out.at 2 rfl).get (N := M) (by have := HTJ.out.lim; omega)
    have PT := pts2 w4 34 _ _ _ _ (R4.out.at 0 rfl) (R4.out.at 4 rfl)
    have GP := gb_alloc (gb_refl w4 none) (Obj.cells #[.slice A0 l0.length a0, .slice Ai li.length ai] 34)
    have SU := sub_c _ ev _ zv 2 _ _ M (sv.grown0 GP) PT (by decide) (fun j hj => by
      have b := HL.out
      rcases (show j = 0 ∨ j = 1 by omega) with rfl | rfl
      · show l0.length ≤ 100000; omega
      · show li.length ≤ 100000; omega) (by have := HTJ.out.M4; omega) (by
      rw [jZ2]
      show val B64 l0 + val B64 li < _
      rw [HTJ.out.e0, HTJ.out.ei]
      have := HTJ.out.lim; omega)
    rw [jZ2, vv, show c0 + c2 + c4 - (val B64 (([l0, li] : List (List Int)).getD 0 []) + val B64 (([l0, li] : List (List Int)).getD 1 [])) = c2 from by
      show c0 + c2 + c4 - (val B64 l0 + val B64 li) = c2
      rw [HTJ.out.e0, HTJ.out.ei]; omega] at SU
    have HSU := Lib.hid SU
    have HGP := Lib.hid GP
    clear SU PT GP sv lv vv
    go_wp2_with fail
    refine (HSU.out).mono ?_
    rintro e w5 ⟨x2, rfl, o5, g5⟩
    have GA := gb_trans HGP.out g5
    have W5 := Lib.hid ((W4.out.grown0 GA).add o5 (Nat.le_trans G4.out.size HGP.out.size))
    have R5 := Lib.hid (R4.out.grown0 GA)
    have G5 := Lib.hid (gb_trans G4.out GA)
    clear o5 g5 GA HSU HGP W4 R4 G4
    obtain ⟨zs2, ss2, ls2, vs2⟩ := (W5.out.at 4 rfl).get (N := M) (by have := HTJ.out.lim; omega)
    have SH : Calls Tryz.prog 100 #[x2, .int .i64 2] w5 fun e w' => ∃ x, e = .returned x ∧ Wo w' w5.heap.size x (val B64 zs2 * 2 ^ 2) ∧ w5.grownBy w' none := lshl_c w5 x2 zs2 2 ss2 (by have := HTJ.out.M4; omega) (by decide) (by decide)
    rw [vs2] at SH
    have HSH := Lib.hid SH
    clear SH ss2 ls2 vs2
    go_wp2_with fail
    refine (HSH.out).mono ?_
    rintro e w6 ⟨t2, rfl, o6, g6⟩
    have W6 := Lib.hid ((W5.out.grown0 g6).add o6 G5.out.size)
    have R6 := Lib.hid (R5.out.grown0 g6)
    have G6 := Lib.hid (gb_trans G5.out g6)
    clear o6 g6 HSH W5 R5 G5
    have SH : Calls Tryz.prog 100 #[.slice Ai li.length ai, .int .i64 4] w6 fun e w' => ∃ x, e = .returned x ∧ Wo w' w6.heap.size x (val B64 li * 2 ^ 4) ∧ w6.grownBy w' none := lshl_c w6 _ li 4 (R6.out.at 4 rfl) (by have := HL.out; omega) (by decide) (by decide)
    rw [HTJ.out.ei] at SH
    have HSH := Lib.hid SH
    clear SH
    go_wp2_with fail
    refine (HSH.out).mono ?_
    rintro e w7 ⟨t4, rfl, o7, g7⟩
    have W7 := Lib.hid ((W6.out.grown0 g7).add o7 G6.out.size)
    have R7 := Lib.hid (R6.out.grown0 g7)
    have G7 := Lib.hid (gb_trans G6.out g7)
    clear o7 g7 HSH W6 R6 G6
    obtain ⟨q2, sq2, lq2, vq2⟩ := (W7.out.at 5 rfl).get (N := M) (by have := HTJ.out.lim; omega)
    obtain ⟨q4, sq4, lq4, vq4⟩ := (W7.out.at 6 rfl).get (N := M) (by have := HTJ.out.lim; omega)
    obtain ⟨Fq2, fq2, rfl, _, _⟩ := sq2.form
    obtain ⟨Fq4, fq4, rfl, _, _⟩ := sq4.form
    have PT := pts3 w7 34 _ _ _ _ q2 q4 (R7.out.at 0 rfl) sq2 sq4
    have GP := gb_alloc (gb_refl w7 none) (Obj.cells #[.slice A0 l0.length a0, .slice Fq2 q2.length fq2, .slice Fq4 q4.length fq4] 34)
    have SU := sub_c _ (.slice A2 l2.length a2) _ l2 3 _ _ M ((R7.out.at 3 rfl).grown0 GP) PT (by decide) (fun j hj => by
      have b := HL.out
      have b2 := HTJ.out.M4
      rcases (show j = 0 ∨ j = 1 ∨ j = 2 by omega) with rfl | rfl | rfl
      · show l0.length ≤ 100000; omega
      · show q2.length ≤ 100000; omega
      · show q4.length ≤ 100000; omega) (by have := HL.out; omega) (by
      rw [jZ3]
      show val B64 l0 + val B64 q2 + val B64 q4 < _
      rw [HTJ.out.e0, vq2, vq4]
      have := HTJ.out.lim; omega)
    rw [jZ3, HTJ.out.e2, show c0 + 2 * c1 + 4 * c2 + 8 * c3 + 16 * c4 - (val B64 (([l0, q2, q4] : List (List Int)).getD 0 []) + val B64 (([l0, q2, q4] : List (List Int)).getD 1 []) + val B64 (([l0, q2, q4] : List (List Int)).getD 2 [])) = 2 * (c1 + 4 * c3) from by
      show c0 + 2 * c1 + 4 * c2 + 8 * c3 + 16 * c4 - (val B64 l0 + val B64 q2 + val B64 q4) = _
      rw [HTJ.out.e0, vq2, vq4]; omega] at SU
    have HSU := Lib.hid SU
    have HGP := Lib.hid GP
    clear SU PT GP sq2 lq2 vq2 sq4 lq4 vq4
    go_wp2_with fail
    refine (HSU.out).mono ?_
    rintro e w8 ⟨x8, rfl, o8, g8⟩
    have GA := gb_trans HGP.out g8
    have W8 := Lib.hid ((W7.out.grown0 GA).add o8 (Nat.le_trans G7.out.size HGP.out.size))
    have R8 := Lib.hid (R7.out.grown0 GA)
    have G8 := Lib.hid (gb_trans G7.out GA)
    clear o8 g8 GA HSU HGP W7 R7 G7
    obtain ⟨z8, s8, l8, v8⟩ := (W8.out.at 7 rfl).get (N := M) (by have := HTJ.out.lim; omega)
    have SE := lshr_c w8 x8 z8 1 s8 (by have := HTJ.out.M4; omega) (by decide) (by decide)
    rw [v8, show 2 * (c1 + 4 * c3) / 2 ^ 1 = c1 + 4 * c3 by omega] at SE
    have HSE := Lib.hid (show Calls Tryz.prog 102 #[x8, .int .i64 1] w8 _ from SE)
    clear SE s8 l8 v8
    go_wp2_with fail
    refine (HSE.out).mono ?_
    rintro e w9 ⟨x9, rfl, o9, g9⟩
    have W9 := Lib.hid ((W8.out.grown0 g9).add o9 G8.out.size)
    have R9 := Lib.hid (R8.out.grown0 g9)
    have G9 := Lib.hid (gb_trans G8.out g9)
    clear o9 g9 HSE W8 R8 G8
    obtain ⟨z9, s9, l9, v9⟩ := (W9.out.at 8 rfl).get (N := M) (by have := HTJ.out.lim; omega)
    obtain ⟨zd, sd, ld, vd⟩ := (W9.out.at 3 rfl).get (N := M) (by have := HTJ.out.lim; omega)
    obtain ⟨Fd, fd, rfl, _, _⟩ := sd.form
    have PT := pts1 w9 34 _ _ sd
    have GP := gb_alloc (gb_refl w9 none) (Obj.cells #[.slice Fd zd.length fd] 34)
    have SU := sub_c _ x9 _ z9 1 _ _ M (s9.grown0 GP) PT (by decide) (fun j hj => by
      have b2 := HTJ.out.M4
      obtain rfl : j = 0 := by omega
      show zd.length ≤ 100000; omega) (by have := HTJ.out.M4; omega) (by
      rw [jZ1]
      show val B64 zd < _
      rw [vd]
      have := HTJ.out.lim; omega)
    rw [jZ1, v9, show c1 + 4 * c3 - val B64 (([zd] : List (List Int)).getD 0 []) = 3 * c3 from by
      show c1 + 4 * c3 - val B64 zd = _
      rw [vd]; omega] at SU
    have HSU := Lib.hid SU
    have HGP := Lib.hid GP
    clear SU PT GP s9 l9 v9 sd ld vd
    go_wp2_with fail
    refine (HSU.out).mono ?_
    rintro e w10 ⟨x10, rfl, o10, g10⟩
    have GA := gb_trans HGP.out g10
    have W10 := Lib.hid ((W9.out.grown0 GA).add o10 (Nat.le_trans G9.out.size HGP.out.size))
    have R10 := Lib.hid (R9.out.grown0 GA)
    have G10 := Lib.hid (gb_trans G9.out GA)
    clear o10 g10 GA HSU HGP W9 R9 G9
    obtain ⟨z10, s10, l10, v10⟩ := (W10.out.at 9 rfl).get (N := M) (by have := HTJ.out.lim; omega)
    have TH := third_c w10 x10 z10 s10 (by have := HTJ.out.M4; omega) (by rw [v10]; omega)
    rw [v10, show 3 * c3 / 3 = c3 by omega] at TH
    have HTH := Lib.hid TH
    clear TH s10 l10 v10
    go_wp2_with fail
    refine (HTH.out).mono ?_
    rintro e w11 ⟨x11, rfl, o11, g11⟩
    have W11 := Lib.hid ((W10.out.grown0 g11).add o11 G10.out.size)
    have R11 := Lib.hid (R10.out.grown0 g11)
    have G11 := Lib.hid (gb_trans G10.out g11)
    clear o11 g11 HTH W10 R10 G10
    obtain ⟨z11, s11, l11, v11⟩ := (W11.out.at 10 rfl).get (N := M) (by have := HTJ.out.lim; omega)
    obtain ⟨F11, f11, rfl, _, _⟩ := s11.form
    obtain ⟨zd2, sd, ld, vd⟩ := (W11.out.at 3 rfl).get (N := M) (by have := HTJ.out.lim; omega)
    have PT := pts1 w11 34 _ _ s11
    have GP := gb_alloc (gb_refl w11 none) (Obj.cells #[.slice F11 z11.length f11] 34)
    have SU := sub_c _ (.slice Fd zd.length fd) _ zd2 1 _ _ M (sd.grown0 GP) PT (by decide) (fun j hj => by
      have b2 := HTJ.out.M4
      obtain rfl : j = 0 := by omega
      show z11.length ≤ 100000; omega) (by have := HTJ.out.M4; omega) (by
      rw [jZ1]
      show val B64 z11 < _
      rw [v11]
      have := HTJ.out.lim; omega)
    rw [jZ1, vd, show c1 + c3 - val B64 (([z11] : List (List Int)).getD 0 []) = c1 from by
      show c1 + c3 - val B64 z11 = _
      rw [v11]; omega] at SU
    have HSU := Lib.hid SU
    have HGP := Lib.hid GP
    clear SU PT GP s11 l11 v11 sd ld vd
    go_wp2_with fail
    refine (HSU.out).mono ?_
    rintro e w12 ⟨x12, rfl, o12, g12⟩
    have GA := gb_trans HGP.out g12
    have W12 := Lib.hid ((W11.out.grown0 GA).add o12 (Nat.le_trans G11.out.size HGP.out.size))
    have R12 := Lib.hid (R11.out.grown0 GA)
    have G12 := Lib.hid (gb_trans G11.out GA)
    clear o12 g12 GA HSU HGP W11 R11 G11
    obtain ⟨y1', t1, lt1, vt1⟩ := (W12.out.at 11 rfl).get (N := M) (by have := HTJ.out.lim; omega)
    obtain ⟨y2', t2', lt2, vt2⟩ := (W12.out.at 4 rfl).get (N := M) (by have := HTJ.out.lim; omega)
    obtain ⟨y3', t3', lt3, vt3⟩ := (W12.out.at 10 rfl).get (N := M) (by have := HTJ.out.lim; omega)
    obtain ⟨H1, h1, rfl, _, _⟩ := t1.form
    obtain ⟨H2, h2, rfl, _, _⟩ := t2'.form
    have PT := pts5 w12 34 _ _ _ _ _ _ _ _ _ _ (R12.out.at 0 rfl) t1 t2' t3' (R12.out.at 4 rfl)
    have GP := gb_alloc (gb_refl w12 none) (Obj.cells #[.slice A0 l0.length a0, .slice H1 y1'.length h1, .slice H2 y2'.length h2, .slice F11 z11.length f11, .slice Ai li.length ai] 34)
    have JN := ljoin_c _ k 5 _ _ _ PT hk (by decide) (fun j hj => by
      have b := HL.out
      have b2 := HTJ.out.M4
      rcases (show j = 0 ∨ j = 1 ∨ j = 2 ∨ j = 3 ∨ j = 4 by omega) with rfl | rfl | rfl | rfl | rfl
      · show l0.length ≤ 100000; omega
      · show y1'.length ≤ 100000; omega
      · show y2'.length ≤ 100000; omega
      · show y3'.length ≤ 100000; omega
      · show li.length ≤ 100000; omega)
    rw [jS5] at JN
    have ej : val B64 (([l0, y1', y2', y3', li] : List (List Int)).getD 0 []) + B64 ^ k * val B64 (([l0, y1', y2', y3', li] : List (List Int)).getD 1 []) + B64 ^ (2 * k) * val B64 (([l0, y1', y2', y3', li] : List (List Int)).getD 2 []) + B64 ^ (3 * k) * val B64 (([l0, y1', y2', y3', li] : List (List Int)).getD 3 []) + B64 ^ (4 * k) * val B64 (([l0, y1', y2', y3', li] : List (List Int)).getD 4 []) = c0 + B64 ^ k * c1 + B64 ^ (2 * k) * c2 + B64 ^ (3 * k) * c3 + B64 ^ (4 * k) * c4 := by
      show val B64 l0 + B64 ^ k * val B64 y1' + B64 ^ (2 * k) * val B64 y2' + B64 ^ (3 * k) * val B64 y3' + B64 ^ (4 * k) * val B64 li = _
      rw [vt1, vt2, vt3, HTJ.out.e0, HTJ.out.ei]
    rw [ej] at JN
    have HJN := Lib.hid JN
    have HGP := Lib.hid (gb_trans G12.out GP)
    clear JN ej PT GP t1 lt1 vt1 t2' lt2 vt2 t3' lt3 vt3 W12 R12
    go_wp2_with fail
    refine (HJN.out).mono ?_
    rintro e w13 ⟨x, rfl, o13, g13⟩
    have KK : Hid (Wo w13 w.heap.size x (c0 + B64 ^ k * c1 + B64 ^ (2 * k) * c2 + B64 ^ (3 * k) * c3 + B64 ^ (4 * k) * c4) ∧ w.grownBy w13 none) := Lib.hid ⟨o13.mono HGP.out.size, gb_trans HGP.out g13⟩
    clear o13 g13 HJN
    go_wp2
    go_ret
    exact ⟨x, rfl, KK.out⟩
end Go.Proofs.YtldkiddoajlohaaGreatDoor

/- Three pieces: the products. -/
namespace Go.Proofs.YtldkiddoajlohaaGreatDoor
open Go.RowKit

theorem signed_mul {P Q R S : Nat} : if (decide (P < Q) != decide (R < S)) = true then (P - Q + (Q - P)) * (R - S + (S - R)) + (P * R + Q * S) = P * S + Q * R else (P - Q + (Q - P)) * (R - S + (S - R)) + (P * S + Q * R) = P * R + Q * S := by
  by_cases h1 : P < Q
  · obtain ⟨d, rfl⟩ : ∃ d, Q = P + d := ⟨Q - P, by omega⟩
    have e1 : P - (P + d) + (P + d - P) = d := by omega
    rw [e1]
    by_cases h2 : R < S
    · obtain ⟨e, rfl⟩ : ∃ d, S = R + d := ⟨S - R, by omega⟩
      have e2 : R - (R + e) + (R + e - R) = e := by omega
      rw [e2, decide_eq_true h1, decide_eq_true h2]
      simp
      grind
    · obtain ⟨e, rfl⟩ : ∃ d, R = S + d := ⟨R - S, by omega⟩
      have e2 : S + e - S + (S - (S + e)) = e := by omega
      rw [e2, decide_eq_true h1, decide_eq_false h2]
      simp
      grind
  · obtain ⟨d, rfl⟩ : ∃ d, P = Q + d := ⟨P - Q, by omega⟩
    have e1 : Q + d - Q + (Q - (Q + d)) = d := by omega
    rw [e1]
    by_cases h2 : R < S
    · obtain ⟨e, rfl⟩ : ∃ d, S = R + d := ⟨S - R, by omega⟩
      have e2 : R - (R + e) + (R + e - R) = e := by omega
      rw [e2, decide_eq_false h1, decide_eq_true h2]
      simp
      grind
    · obtain ⟨e, rfl⟩ : ∃ d, R = S + d := ⟨R - S, by omega⟩
      have e2 : S + e - S + (S - (S + e)) = e := by omega
      rw [e2, decide_eq_false h1, decide_eq_false h2]
      simp
      grind
/-- The coefficients of a product, by its values. -/
theorem tj_of {V0 V1 V2 U0 U1 U2 M : Nat} (hl : 16 * ((V0 + V2 + V1) * (U0 + U2 + U1)) < B64 ^ M) (hM : M ≤ 40000) :
    TJ (decide (V0 + V2 < V1) != decide (U0 + U2 < U1)) (V0 * U0) (V0 * U1 + V1 * U0) (V0 * U2 + V1 * U1 + V2 * U0) (V1 * U2 + V2 * U1) (V2 * U2)
      (V0 * U0) ((V0 + V2 + V1) * (U0 + U2 + U1)) ((V0 + V2 - V1 + (V1 - (V0 + V2))) * (U0 + U2 - U1 + (U1 - (U0 + U2)))) ((V0 + 2 * V1 + 4 * V2) * (U0 + 2 * U1 + 4 * U2)) (V2 * U2) M := by
  have hs := signed_mul (P := V0 + V2) (Q := V1) (R := U0 + U2) (S := U1)
  have e1 : (V0 + V2) * (U0 + U2) + V1 * U1 = V0 * U0 + (V0 * U2 + V1 * U1 + V2 * U0) + V2 * U2 := by grind
  have e2 : (V0 + V2) * U1 + V1 * (U0 + U2) = V0 * U1 + V1 * U0 + (V1 * U2 + V2 * U1) := by grind
  rw [e1, e2] at hs
  have e3 : (V0 + V2 + V1) * (U0 + U2 + U1) = V0 * U0 + (V0 * U1 + V1 * U0) + (V0 * U2 + V1 * U1 + V2 * U0) + (V1 * U2 + V2 * U1) + V2 * U2 := by grind
  refine ⟨rfl, e3, hs, ?_, rfl, ?_, hM⟩
  · grind
  · rw [← e3]; exact hl
theorem toom_val {P V0 V1 V2 U0 U1 U2 : Nat} : (V0 + P * V1 + P * P * V2) * (U0 + P * U1 + P * P * U2) = V0 * U0 + P * (V0 * U1 + V1 * U0) + P * P * (V0 * U2 + V1 * U1 + V2 * U0) + P * P * P * (V1 * U2 + V2 * U1) + P * P * P * P * (V2 * U2) := by grind
end Go.Proofs.YtldkiddoajlohaaGreatDoor

/- Squares in two pieces. -/
namespace Go.Proofs.YtldkiddoajlohaaGreatDoor
open Go.RowKit

/-- What is asked of the function that squares pieces of p words, at level b. -/
def InS (w : World) (gm fk : Nat) (first : Array Value) (b : Int) (T : Nat → Option Value) (p k : Nat) (d : Int) : Prop :=
  ∀ (W : World) (va : Value) (al : List Int) (a : Int) (c : Mc), w.grownBy W (some gm) → Mt W gm a b c → c.T = T → a + (k : Int) ≤ 1000000000000000 → Sl W va al → al.length = p → Off va gm →
    Calls Tryz.prog fk (first ++ #[va]) W fun e w' => ∃ x c', e = .returned x ∧ Wo w' W.heap.size x (val B64 al * val B64 al) ∧ Mt w' gm (a + (k : Int)) b c' ∧ (c'.T = T ∧ c.v ≤ c'.v ∧ (c'.v ≤ c.v ∨ c'.v ≤ b + d)) ∧ W.grownBy w' (some gm)
set_option maxRecDepth 100000 in
set_option maxHeartbeats 8000000 in
theorem karaSqr_c (w : World) (g2 g3 gm fk : Nat) (fs : Array Value) (a b d : Int) (c : Mc) (T : Nat → Option Value) (va : Value) (al : List Int) (k1 k2 k3 : Nat) (hc2 : w.cell? ⟨g2, 0, none⟩ = some (.pointer (some ⟨g3, 0, none⟩))) (hc3 : w.cell? ⟨g3, 0, none⟩ = some (.pointer (some ⟨gm, 0, none⟩)))
    (hm : Mt w gm a b c) (hT : c.T = T) (hd : 0 ≤ d) (hb1 : b ≤ 1000000) (ha0 : a + ((k1 + k2 + k3 : Nat) : Int) ≤ 1000000000000000) (ha : Sl w va al) (hna : Off va gm) (hl : al.length ≤ 16384) (hx : 2 ≤ al.length)
    (ent : ∀ args w, (callFunc fk args).run Tryz.prog w = .ok (.enter fk args) w)
    (i1 : InS w gm fk fs (b + 1) T ((al.length + 1) / 2) k1 d) (i2 : InS w gm fk fs (b + 1) T (al.length - (al.length + 1) / 2) k2 d) (i3 : InS w gm fk fs (b + 1) T ((al.length + 1) / 2 + 1) k3 d) :
    Calls Tryz.prog 64 #[.pointer (some ⟨g2, 0, none⟩), va, .func (.func fk) fs #[]] w fun e w' => ∃ x c', e = .returned (.tuple #[x, .bool true]) ∧ Wo w' w.heap.size x (val B64 al * val B64 al) ∧ Mt w' gm (a + ((k1 + k2 + k3 : Nat) : Int)) b c' ∧
      (c'.T = T ∧ c.v ≤ c'.v ∧ (c'.v ≤ c.v ∨ c'.v ≤ b + (1 + d))) ∧ w.grownBy w' (some gm) := by
  have hgm : gm < w.heap.size := World.block_lt_of_cell? w _ hm.c0
  have n2 : g2 ≠ gm := Md.ptr_ne hc2 hm
  have n3 : g3 ≠ gm := Md.ptr_ne hc3 hm
  obtain ⟨A, ca, rfl, hca, _⟩ := ha.form
  have EN := enter_c w gm a b c hm (by omega)
  have b0 := hm.b0
  have a0 := hm.a0
  have HEN := Lib.hid EN
  have HGM := Lib.hid hgm
  have HN := Lib.hid (And.intro n2 n3)
  have HT := Lib.hid hT
  have WA := Lib.hid ha.ws
  have HC := Lib.hid (And.intro hc2 hc3)
  clear EN hm hgm n2 n3 hT
  obtain ⟨n, hn⟩ : ∃ n, n = al.length := ⟨_, rfl⟩
  rw [← hn] at hx i1 i2 i3
  rw [← hn] at ha hna hl hca ⊢
  have HNL := Lib.hid hn
  have R0 := Lib.hid ((Rw.nil w gm).add ha hna)
  clear ha hna hn
  obtain ⟨h, hh⟩ : ∃ q, q = (n + 1) / 2 := ⟨_, rfl⟩
  obtain ⟨p, hp⟩ : ∃ q, q = n - h := ⟨_, rfl⟩
  have e1 : ((n : Int) + 1) / 2 = (h : Int) := by omega
  have e2 : (n : Int) - (h : Int) = (p : Int) := by omega
  obtain ⟨H, hH⟩ : ∃ H, H = h + 1 := ⟨_, rfl⟩
  have e4 : (h : Int) + 1 = (H : Int) := by omega
  rw [← hh, ← hH] at i3
  have HH := Lib.hid hH
  rw [← hh] at i1 i2
  rw [← hp] at i2
  have HI1 := Lib.hid i1
  have HI2 := Lib.hid i2
  have HI3 := Lib.hid i3
  have EE : Hid (h ≤ n ∧ p = n - h ∧ p ≤ h) := Lib.hid (by omega)
  have bh : h ≤ 8192 ∧ p ≤ 8192 ∧ H ≤ 8193 := by omega
  clear hh hp hH i1 i2 i3
  go_enter Tryz.func64, Tryz.ntmps64
  go_wp2_with fail
  refine (HEN.out).mono ?_
  rintro e w1 ⟨rfl, m1, mo⟩
  have M1 := Lib.hid m1
  have G1 := Lib.hid mo.gb
  have R1 := Lib.hid (R0.out.grown mo.gb)
  clear m1 mo HEN R0
  have P : Calls Tryz.prog 77 #[.slice A n ca, .int .i64 0, .int .i64 h] w1 fun e w' => ∃ g, e = .returned (.slice (some ⟨g, 0, none⟩) h h) ∧ Own w' w1.heap.size (.slice (some ⟨g, 0, none⟩) h h) (rowOf al h) ∧ w1.grownBy w' none := piece_c w1 _ al 0 h (R1.out.at 0 rfl) (by decide) (by omega)
  have HP := Lib.hid P
  clear P
  go_wp2_with fail
  refine (HP.out).mono ?_
  rintro e w2 ⟨ga0, rfl, o2, g2'⟩
  have B1 : Hid (gm < w1.heap.size) := Lib.hid (Nat.lt_of_lt_of_le HGM.out G1.out.size)
  have G2 := Lib.hid (gb_trans G1.out (gb_none g2' (some gm)))
  have R2 := Lib.hid ((R1.out.grown0 g2').add o2.sl (o2.offg B1.out))
  have M2 := Lib.hid (M1.out.grown g2')
  clear o2 g2' G1 R1 M1 HP
  have P := piece_c w2 _ al h p (R2.out.at 0 rfl) (by omega) (by omega)
  have HP := Lib.hid P
  clear P
  go_wp2_with fail
  refine (HP.out).mono ?_
  rintro e w5 ⟨ga1, rfl, o3, g3'⟩
  have B2 : Hid (gm < w2.heap.size) := Lib.hid (Nat.lt_of_lt_of_le HGM.out G2.out.size)
  have G5 := Lib.hid (gb_trans G2.out (gb_none g3' (some gm)))
  have R5 := Lib.hid ((R2.out.grown0 g3').add o3.sl (o3.offg B2.out))
  have M5 := Lib.hid (M2.out.grown g3')
  clear o3 g3' G2 R2 M2 HP B1
  obtain ⟨A0, hA0⟩ : ∃ z, z = val B64 (rowOf al h) := ⟨_, rfl⟩
  obtain ⟨A1, hA1⟩ : ∃ z, z = val B64 (rowOf (al.drop h) p) := ⟨_, rfl⟩
  have lim : A0 + A1 < B64 ^ H := by
    have t1 := rowOf_lt WA.out h
    have t2 := rowOf_lt (ws_drop WA.out h) p
    have t5 : B64 ^ p ≤ B64 ^ h := Nat.pow_le_pow_right (by decide) EE.out.2.2
    have t7 : B64 ^ H = B64 ^ h * 18446744073709551616 := by rw [HH.out]; exact Nat.pow_succ ..
    rw [← hA0] at t1
    rw [← hA1] at t2
    have t8 : 0 < B64 ^ h := Nat.pow_pos (by decide)
    omega
  have VAL : Hid (val B64 al = A0 + B64 ^ h * A1) := Lib.hid (by
    have t1 := val_split (xs := al) (h := h) (by rw [← HNL.out]; exact EE.out.1)
    rw [← HNL.out, ← EE.out.2.1, ← hA0, ← hA1] at t1
    exact t1)
  have LIM := Lib.hid lim
  have HV : Hid (A0 = val B64 (rowOf al h) ∧ A1 = val B64 (rowOf (al.drop h) p)) := Lib.hid ⟨hA0, hA1⟩
  have AD := ladd_c w5 _ _ _ _ (R5.out.at 1 rfl) (R5.out.at 2 rfl) (by rw [rowOf_len]; omega) (by rw [rowOf_len]; omega)
  rw [← hA0, ← hA1] at AD
  have HAD := Lib.hid AD
  clear AD lim hA0 hA1
  go_wp2_with fail
  refine (HAD.out).mono ?_
  rintro e w6 ⟨s1, rfl, o6, g6'⟩
  obtain ⟨z1, sz1, lz1, vz1⟩ := o6.get LIM.out
  have G6 := Lib.hid (gb_trans G5.out (gb_none g6' (some gm)))
  have R6 := Lib.hid (R5.out.grown0 g6')
  have M6 := Lib.hid (M5.out.grown g6')
  have WD := Lib.hid (wide_c w6 s1 z1 H sz1 (by omega))
  have V1 : Hid (val B64 (rowOf z1 H) = A0 + A1) := Lib.hid (by rw [val_rowOf_all lz1]; exact vz1)
  clear o6 g6' G5 R5 M5 HAD sz1 lz1 vz1
  go_wp2_with fail
  refine (WD.out).mono ?_
  rintro e w9 ⟨gsa, rfl, o7, g7'⟩
  have B6 : Hid (gm < w6.heap.size) := Lib.hid (Nat.lt_of_lt_of_le HGM.out G6.out.size)
  have G9 := Lib.hid (gb_trans G6.out (gb_none g7' (some gm)))
  have R9 := Lib.hid ((R6.out.grown0 g7').add o7.sl (o7.offg B6.out))
  have M9 := Lib.hid (M6.out.grown g7')
  clear o7 g7' G6 R6 M6 WD
  have N1 := HI1.out w9 _ _ _ _ G9.out M9.out HT.out (by omega) (R9.out.at 1 rfl) (rowOf_len _ _) (R9.out.off 1 rfl)
  rw [← HV.out.1] at N1
  have HN1 := Lib.hid N1
  clear N1 HI1
  go_wp2_with fail
  refine (HN1.out).mono ?_
  rintro e w10 ⟨lo, c1, rfl, o10, m10, cc1, g10'⟩
  have B9 : Hid (gm < w9.heap.size) := Lib.hid (Nat.lt_of_lt_of_le HGM.out G9.out.size)
  have G10 := Lib.hid (gb_trans G9.out g10')
  have R10 := Lib.hid (R9.out.grown g10')
  have M10 := Lib.hid m10
  have WL := Lib.hid o10
  have CD1 := Lib.hid cc1
  clear o10 m10 cc1 g10' G9 R9 M9 HN1
  have N2 := HI2.out w10 _ _ _ _ G10.out M10.out CD1.out.1 (by omega) (R10.out.at 2 rfl) (rowOf_len _ _) (R10.out.off 2 rfl)
  rw [← HV.out.2] at N2
  have HN2 := Lib.hid N2
  clear N2 HI2
  go_wp2_with fail
  refine (HN2.out).mono ?_
  rintro e w11 ⟨hi, c2, rfl, o11, m11, cc2, g11'⟩
  have B10 : Hid (gm < w10.heap.size) := Lib.hid (Nat.lt_of_lt_of_le HGM.out G10.out.size)
  have G11 := Lib.hid (gb_trans G10.out g11')
  have R11 := Lib.hid (R10.out.grown g11')
  have M11 := Lib.hid m11
  have WL2 := Lib.hid (WL.out.past B9.out g11')
  have WH := Lib.hid o11
  have CD2 := Lib.hid cc2
  clear o11 m11 cc2 g11' G10 R10 M10 HN2 WL
  have N3 := HI3.out w11 _ _ _ _ G11.out M11.out CD2.out.1 (by omega) (R11.out.at 3 rfl) (rowOf_len _ _) (R11.out.off 3 rfl)
  rw [V1.out] at N3
  have HN3 := Lib.hid N3
  clear N3 HI3
  go_wp2_with fail
  refine (HN3.out).mono ?_
  rintro e w12 ⟨bo, c3, rfl, o12, m12, cc3, g12'⟩
  clear ent
  have B11 : Hid (gm < w11.heap.size) := Lib.hid (Nat.lt_of_lt_of_le HGM.out G11.out.size)
  have G12 := Lib.hid (gb_trans G11.out g12')
  have WL3 := Lib.hid (WL2.out.past B9.out g12')
  have WH3 := Lib.hid (WH.out.past B10.out g12')
  have WB3 := Lib.hid o12
  have CD3 := Lib.hid cc3
  have m12' : Mt w12 gm (a + ((k1 + k2 + k3 : Nat) : Int)) (b + 1) c3 := by
    have e : a + (k1 : Int) + (k2 : Int) + (k3 : Int) = a + ((k1 + k2 + k3 : Nat) : Int) := by omega
    rw [← e]; exact m12
  have LV := leave_c w12 gm _ _ c3 m12' (by omega)
  have eb : (if b + 1 > 0 then b + 1 - 1 else 0) = b := by split <;> omega
  rw [eb] at LV
  have HLV := Lib.hid LV
  clear LV o12 m12 m12' cc3 g12' G11 R11 M11 HN3 WL2 WH eb hc2 hc3
  have hc2 := gb_cell G12.out HC.out.1 (by have := HN.out.1; simpa using this)
  have hc3 := gb_cell G12.out HC.out.2 (by have := HN.out.2; simpa using this)
  go_wp2_with fail
  refine (HLV.out).mono ?_
  rintro e w13 ⟨rfl, m13, mo⟩
  have G13 := Lib.hid (gb_trans G12.out mo.gb)
  have WL4 := Lib.hid (WL3.out.past B9.out mo.gb)
  have WH4 := Lib.hid (WH3.out.past B10.out mo.gb)
  have WB4 := Lib.hid (WB3.out.past B11.out mo.gb)
  have M13 := Lib.hid m13
  clear m13 mo HLV WL3 WH3 WB3 G12 hc2 hc3
  have bnd : Hid (A0 * A0 < B64 ^ (H + H) ∧ A1 * A1 < B64 ^ (H + H) ∧ (A0 + A1) * (A0 + A1) < B64 ^ (H + H) ∧ A0 * A0 + A1 * A1 ≤ (A0 + A1) * (A0 + A1)) := Lib.hid (by
    have t1 := mul_lt_pow LIM.out LIM.out
    have t2 := mul_pieces_le A0 A1 A0 A1
    omega)
  obtain ⟨zl, sl, ll, vl⟩ := WL4.out.get bnd.out.1
  obtain ⟨zh, sh, lh, vh⟩ := WH4.out.get bnd.out.2.1
  obtain ⟨zb, sb, lb, vb⟩ := WB4.out.get bnd.out.2.2.1
  have AD := ladd_c w13 _ _ _ _ sl sh (by omega) (by omega)
  rw [vl, vh] at AD
  have HAD := Lib.hid AD
  have SL := Lib.hid (And.intro sl (And.intro ll vl))
  have SH := Lib.hid (And.intro sh (And.intro lh vh))
  have SB := Lib.hid (And.intro sb (And.intro lb vb))
  clear AD sl ll vl sh lh vh sb lb vb WL4 WH4 WB4
  go_wp2_with fail
  refine (HAD.out).mono ?_
  rintro e w14 ⟨s3, rfl, o14, g14'⟩
  obtain ⟨zs, ss, ls, vs⟩ := o14.get (N := H + H) (by have := bnd.out; omega)
  have SU := lsub_c w14 bo s3 zb zs (SB.out.1.grown0 g14') ss (by have := SB.out.2.1; omega) (by rw [vs, SB.out.2.2]; exact bnd.out.2.2.2)
  rw [vs, SB.out.2.2] at SU
  have HSU := Lib.hid SU
  have G14 := Lib.hid g14'
  clear SU o14 g14' ss ls vs HAD
  go_wp2_with fail
  refine (HSU.out).mono ?_
  rintro e w15 ⟨mi, rfl, o15, g15'⟩
  obtain ⟨zm, sm, lm, vm⟩ := o15.get (N := H + H) (by have := bnd.out; omega)
  have G15 := Lib.hid (gb_trans G14.out g15')
  obtain ⟨Fl, fl, rfl, _, _⟩ := SL.out.1.form
  obtain ⟨Fh, fh, rfl, _, _⟩ := SH.out.1.form
  obtain ⟨Fm, fm, rfl, _, _⟩ := sm.form
  have PT := pts3 w15 34 _ _ _ zl zm zh (SL.out.1.grown0 G15.out) sm (SH.out.1.grown0 G15.out)
  have GP := gb_alloc (gb_refl w15 none) (Obj.cells #[.slice Fl zl.length fl, .slice Fm zm.length fm, .slice Fh zh.length fh] 34)
  have JN := ljoin_c _ h 3 _ _ _ PT (by omega) (by decide) (fun j hj => by
    have b1 := SL.out.2.1
    have b2 := SH.out.2.1
    rcases (show j = 0 ∨ j = 1 ∨ j = 2 by omega) with rfl | rfl | rfl
    · show zl.length ≤ 100000; omega
    · show zm.length ≤ 100000; omega
    · show zh.length ≤ 100000; omega)
  rw [jS3] at JN
  have ej : val B64 (([zl, zm, zh] : List (List Int)).getD 0 []) + B64 ^ h * val B64 (([zl, zm, zh] : List (List Int)).getD 1 []) + B64 ^ h * B64 ^ h * val B64 (([zl, zm, zh] : List (List Int)).getD 2 []) = val B64 al * val B64 al := by
    show val B64 zl + B64 ^ h * val B64 zm + B64 ^ h * B64 ^ h * val B64 zh = _
    rw [SL.out.2.2, vm, SH.out.2.2, VAL.out]
    exact mul_pieces.symm
  rw [ej] at JN
  have HJN := Lib.hid JN
  have HGP := Lib.hid (gb_trans G15.out GP)
  clear JN ej PT GP sm lm vm o15 g15' HSU
  go_wp2_with fail
  refine (HJN.out).mono ?_
  rintro e w16 ⟨x, rfl, o16, g16'⟩
  have KK : Hid (Wo w16 w.heap.size x (val B64 al * val B64 al) ∧ Mt w16 gm (a + ((k1 + k2 + k3 : Nat) : Int)) b c3 ∧ w.grownBy w16 (some gm)) := Lib.hid
    ⟨o16.mono (Nat.le_trans G13.out.size HGP.out.size), M13.out.grown (gb_trans HGP.out g16'), gb_trans G13.out (gb_none (gb_trans HGP.out g16') (some gm))⟩
  have CC : Hid (c3.T = T ∧ c.v ≤ c3.v ∧ (c3.v ≤ c.v ∨ c3.v ≤ b + (1 + d))) := Lib.hid (by
    have t1 := CD1.out
    have t2 := CD2.out
    have t3 := CD3.out
    have t4 : (c.up (b + 1)).v = if b + 1 > c.v then b + 1 else c.v := rfl
    refine ⟨t3.1, ?_⟩
    split at t4 <;> omega)
  clear o16 g16' HJN
  go_wp2
  go_ret2
  exact ⟨x, c3, rfl, KK.out.1, KK.out.2.1, CC.out, KK.out.2.2⟩
end Go.Proofs.YtldkiddoajlohaaGreatDoor

/- Products in three pieces: Toom. -/
namespace Go.Proofs.YtldkiddoajlohaaGreatDoor
open Go.RowKit

theorem P5.growng {w w' : World} {B gm : Nat} {l0 l1 l2 l3 l4 : List Value} (h : P5 w B l0 l1 l2 l3 l4) (g : w.grownBy w' (some gm)) (hg : gm < B) : P5 w' B l0 l1 l2 l3 l4 :=
  ⟨h.c0.grown g (by simp; omega), h.c1.grown g (by simp; omega), h.c2.grown g (by simp; omega), h.c3.grown g (by simp; omega), h.c4.grown g (by simp; omega), Nat.lt_of_lt_of_le h.lt g.size⟩
theorem Wv.growng {W W' : World} {D gm : Nat} {l : List (Value × Nat)} (h : Wv W D l) (g : W.grownBy W' (some gm)) (hd : gm < D) : Wv W' D l := fun i p hp => (h i p hp).past hd g
theorem Wo.form {w : World} {base n : Nat} {v : Value} (h : Wo w base v n) : ∃ A l c, v = .slice A l c := by
  obtain ⟨zs, o, _⟩ := h
  obtain ⟨A, c, e, _⟩ := o.sl.form
  exact ⟨A, _, c, e⟩
/-- Five whole numbers, laid in new memory. -/
abbrev made5 (w : World) (t : TypeId) (x0 x1 xm x2 xi b : Value) : World :=
  ((((w.alloc (.cells #[x0, .bool false] t)).alloc (.cells #[x1, .bool false] t)).alloc (.cells #[xm, b] t)).alloc (.cells #[x2, .bool false] t)).alloc (.cells #[xi, .bool false] t)
theorem made5_p (w : World) (t : TypeId) (x0 x1 xm x2 xi b : Value) : P5 (made5 w t x0 x1 xm x2 xi b) w.heap.size [x0, .bool false] [x1, .bool false] [xm, b] [x2, .bool false] [xi, .bool false] := by
  have e1 := alloc_sz w (.cells #[x0, .bool false] t)
  have e2 := alloc_sz (w.alloc (.cells #[x0, .bool false] t)) (.cells #[x1, .bool false] t)
  have e3 := alloc_sz ((w.alloc (.cells #[x0, .bool false] t)).alloc (.cells #[x1, .bool false] t)) (.cells #[xm, b] t)
  have e4 := alloc_sz (((w.alloc (.cells #[x0, .bool false] t)).alloc (.cells #[x1, .bool false] t)).alloc (.cells #[xm, b] t)) (.cells #[x2, .bool false] t)
  have e5 := alloc_sz ((((w.alloc (.cells #[x0, .bool false] t)).alloc (.cells #[x1, .bool false] t)).alloc (.cells #[xm, b] t)).alloc (.cells #[x2, .bool false] t)) (.cells #[xi, .bool false] t)
  have g := fun (a : World) (o : Array Value) => gb_alloc (gb_refl a none) (Obj.cells o t)
  have k0 := cs_new w #[x0, .bool false] t
  have k1 := cs_new (w.alloc (.cells #[x0, .bool false] t)) #[x1, .bool false] t
  have k2 := cs_new ((w.alloc (.cells #[x0, .bool false] t)).alloc (.cells #[x1, .bool false] t)) #[xm, b] t
  have k3 := cs_new (((w.alloc (.cells #[x0, .bool false] t)).alloc (.cells #[x1, .bool false] t)).alloc (.cells #[xm, b] t)) #[x2, .bool false] t
  have k4 := cs_new ((((w.alloc (.cells #[x0, .bool false] t)).alloc (.cells #[x1, .bool false] t)).alloc (.cells #[xm, b] t)).alloc (.cells #[x2, .bool false] t)) #[xi, .bool false] t
  rw [e1] at k1
  rw [e2, e1] at k2
  rw [e3, e2, e1] at k3
  rw [e4, e3, e2, e1] at k4
  exact ⟨(((k0.grown0 (g _ _)).grown0 (g _ _)).grown0 (g _ _)).grown0 (g _ _), ((k1.grown0 (g _ _)).grown0 (g _ _)).grown0 (g _ _), (k2.grown0 (g _ _)).grown0 (g _ _), k3.grown0 (g _ _), k4, by have e6 : (made5 w t x0 x1 xm x2 xi b).heap.size = _ := e5; omega⟩
theorem made5_g (w : World) (t : TypeId) (x0 x1 xm x2 xi b : Value) : w.grownBy (made5 w t x0 x1 xm x2 xi b) none := gb_alloc (gb_alloc (gb_alloc (gb_alloc (gb_alloc (gb_refl w none) _) _) _) _) _
/-- What pieces of K words are below, and their sums. -/
structure Lm (K H p V0 V1 V2 : Nat) : Prop where
  l0 : V0 < B64 ^ K
  l1 : V0 + V2 + V1 < B64 ^ H
  lm : V0 + V2 - V1 + (V1 - (V0 + V2)) < B64 ^ H
  l2 : V0 + 2 * V1 + 4 * V2 < B64 ^ H
  li : V2 < B64 ^ p
theorem Lm.of {K p V0 V1 V2 : Nat} (h0 : V0 < B64 ^ K) (h1 : V1 < B64 ^ K) (h2 : V2 < B64 ^ p) (hp : p ≤ K) : Lm K (K + 1) p V0 V1 V2 := by
  have e : B64 ^ (K + 1) = B64 ^ K * 18446744073709551616 := Nat.pow_succ ..
  have h3 : B64 ^ p ≤ B64 ^ K := Nat.pow_le_pow_right (by decide) hp
  exact ⟨h0, by omega, by omega, by omega, h2⟩
theorem Lm.both {K p q V0 V1 V2 U0 U1 U2 : Nat} (h : Lm K (K + 1) p V0 V1 V2) (h' : Lm K (K + 1) q U0 U1 U2) : 16 * ((V0 + V2 + V1) * (U0 + U2 + U1)) < B64 ^ (K + 1 + (K + 1) + 1) := by
  have e : B64 ^ (K + 1 + (K + 1) + 1) = B64 ^ (K + 1 + (K + 1)) * 18446744073709551616 := Nat.pow_succ ..
  have := mul_lt_pow h.l1 h'.l1
  omega
set_option maxRecDepth 100000 in
set_option maxHeartbeats 8000000 in
theorem toom_no (w : World) (g1 : Nat) (va vb f : Value) (al bl : List Int) (ha : Sl w va al) (hb : Sl w vb bl) (h : min al.length bl.length ≤ 2 * ((max al.length bl.length + 2) / 3)) (hl : al.length ≤ 1000000) (hl2 : bl.length ≤ 1000000) :
    Calls Tryz.prog 62 #[.pointer (some ⟨g1, 0, none⟩), va, vb, f] w fun e w' => e = .returned (.tuple #[.slice none 0 0, .bool false]) ∧ w' = w := by
  obtain ⟨A, ca, rfl, hca, _⟩ := ha.form
  obtain ⟨B, cb, rfl, hcb, _⟩ := hb.form
  obtain ⟨n, hn⟩ : ∃ n, n = al.length := ⟨_, rfl⟩
  obtain ⟨m, hm'⟩ : ∃ m, m = bl.length := ⟨_, rfl⟩
  rw [← hn, ← hm'] at h ⊢
  rw [← hn] at hl hca
  rw [← hm'] at hl2 hcb
  clear hn hm' ha hb
  by_cases hlt : n < m
  · rw [Nat.min_eq_left (by omega), Nat.max_eq_right (by omega)] at h
    obtain ⟨q, hq⟩ : ∃ q, q = (m + 2) / 3 := ⟨_, rfl⟩
    have e : ((m : Int) + 2) / 3 = (q : Int) := by omega
    obtain ⟨q2, hq2⟩ : ∃ q2, q2 = 2 * q := ⟨_, rfl⟩
    have e2 : 2 * (q : Int) = (q2 : Int) := by omega
    rw [← hq, ← hq2] at h
    have hle : (n : Int) ≤ (q2 : Int) := by omega
    clear hq hq2 h
    go_enter Tryz.func62, Tryz.ntmps62
    go_wp2
    go_ret2
    exact ⟨rfl, rfl⟩
  · rw [Nat.min_eq_right (by omega), Nat.max_eq_left (by omega)] at h
    obtain ⟨q, hq⟩ : ∃ q, q = (n + 2) / 3 := ⟨_, rfl⟩
    have e : ((n : Int) + 2) / 3 = (q : Int) := by omega
    obtain ⟨q2, hq2⟩ : ∃ q2, q2 = 2 * q := ⟨_, rfl⟩
    have e2 : 2 * (q : Int) = (q2 : Int) := by omega
    rw [← hq, ← hq2] at h
    have hle : (m : Int) ≤ (q2 : Int) := by omega
    clear hq hq2 h
    go_enter Tryz.func62, Tryz.ntmps62
    go_wp2
    go_ret2
    exact ⟨rfl, rfl⟩
set_option maxRecDepth 100000 in
set_option maxHeartbeats 8000000 in
theorem toom_c (w : World) (g1 g2 g3 gm fk : Nat) (fs : Array Value) (a b d : Int) (c : Mc) (T : Nat → Option Value) (va vb : Value) (al bl : List Int) (k1 k2 k3 : Nat) (hc1 : w.cell? ⟨g1, 0, none⟩ = some (.pointer (some ⟨g2, 0, none⟩))) (hc2 : w.cell? ⟨g2, 0, none⟩ = some (.pointer (some ⟨g3, 0, none⟩))) (hc3 : w.cell? ⟨g3, 0, none⟩ = some (.pointer (some ⟨gm, 0, none⟩)))
    (hm : Mt w gm a b c) (hT : c.T = T) (hd : 0 ≤ d) (hb1 : b ≤ 1000000) (ha0 : a + ((k1 + k2 + k2 + k2 + k3 : Nat) : Int) ≤ 1000000000000000) (ha : Sl w va al) (hb : Sl w vb bl) (hna : Off va gm) (hnb : Off vb gm) (hl : al.length ≤ 16384) (hl2 : bl.length ≤ 16384)
    (hx : 2 * ((max al.length bl.length + 2) / 3) < min al.length bl.length)
    (ent : ∀ args w, (callFunc fk args).run Tryz.prog w = .ok (.enter fk args) w)
    (i1 : InC w gm fk fs (b + 1) T ((max al.length bl.length + 2) / 3) ((max al.length bl.length + 2) / 3) k1 d)
    (i2 : InC w gm fk fs (b + 1) T ((max al.length bl.length + 2) / 3 + 1) ((max al.length bl.length + 2) / 3 + 1) k2 d)
    (i3 : InC w gm fk fs (b + 1) T (max al.length bl.length - 2 * ((max al.length bl.length + 2) / 3)) (min al.length bl.length - 2 * ((max al.length bl.length + 2) / 3)) k3 d) :
    Calls Tryz.prog 62 #[.pointer (some ⟨g1, 0, none⟩), va, vb, .func (.func fk) fs #[]] w fun e w' => ∃ x c', e = .returned (.tuple #[x, .bool true]) ∧ Wo w' w.heap.size x (val B64 al * val B64 bl) ∧ Mt w' gm (a + ((k1 + k2 + k2 + k2 + k3 : Nat) : Int)) b c' ∧
      (c'.T = T ∧ c.v ≤ c'.v ∧ (c'.v ≤ c.v ∨ c'.v ≤ b + (1 + d))) ∧ w.grownBy w' (some gm) := by
  have hgm : gm < w.heap.size := World.block_lt_of_cell? w _ hm.c0
  have n1 : g1 ≠ gm := Md.ptr_ne hc1 hm
  have n2 : g2 ≠ gm := Md.ptr_ne hc2 hm
  have n3 : g3 ≠ gm := Md.ptr_ne hc3 hm
  obtain ⟨A, ca, rfl, hca, _⟩ := ha.form
  obtain ⟨B, cb, rfl, hcb, _⟩ := hb.form
  have EN := enter_c w gm a b c hm (by omega)
  have b0 := hm.b0
  have a0 := hm.a0
  have HEN := Lib.hid EN
  have HGM := Lib.hid hgm
  have HN := Lib.hid (And.intro n1 (And.intro n2 n3))
  have HT := Lib.hid hT
  have WA := Lib.hid ha.ws
  have WB := Lib.hid hb.ws
  have HC := Lib.hid (And.intro hc1 (And.intro hc2 hc3))
  clear EN hm hgm n1 n2 n3 hT
  obtain ⟨n, hn⟩ : ∃ n, n = al.length := ⟨_, rfl⟩
  obtain ⟨m, hm'⟩ : ∃ m, m = bl.length := ⟨_, rfl⟩
  rw [← hn, ← hm'] at hx i1 i2 i3
  rw [← hn] at ha hna hl hca ⊢
  rw [← hm'] at hb hnb hl2 hcb ⊢
  have HNL := Lib.hid hn
  have HML := Lib.hid hm'
  by_cases hlt : n < m
  · rw [Nat.min_eq_left (by omega), Nat.max_eq_right (by omega)] at hx i3
    rw [Nat.max_eq_right (by omega)] at i1 i2
    have R0 := Lib.hid (((Rw.nil w gm).add hb hnb).add ha hna)
    clear ha hb hna hnb hn hm'
    obtain ⟨K, hK⟩ : ∃ q, q = (m + 2) / 3 := ⟨_, rfl⟩
    obtain ⟨K2, hK2⟩ : ∃ q, q = 2 * K := ⟨_, rfl⟩
    obtain ⟨p, hp⟩ : ∃ q, q = m - K2 := ⟨_, rfl⟩
    obtain ⟨q, hq⟩ : ∃ q, q = n - K2 := ⟨_, rfl⟩
    have e1 : ((m : Int) + 2) / 3 = (K : Int) := by omega
    have e2 : 2 * (K : Int) = (K2 : Int) := by omega
    have e3 : (m : Int) - (K2 : Int) = (p : Int) := by omega
    have e5 : (n : Int) - (K2 : Int) = (q : Int) := by omega
    obtain ⟨H, hH⟩ : ∃ H, H = K + 1 := ⟨_, rfl⟩
    have e4 : (K : Int) + 1 = (H : Int) := by omega
    rw [← hK, ← hH] at i2
    have HH := Lib.hid hH
    rw [← hK, ← hK2] at hx
    have hmh : ¬ (n : Int) ≤ (K2 : Int) := by omega
    rw [← hK] at i1
    rw [← hK, ← hK2, ← hp, ← hq] at i3
    have HI1 := Lib.hid i1
    have HI2 := Lib.hid i2
    have HI3 := Lib.hid i3
    have EE : Hid (K2 = 2 * K ∧ p = m - K2 ∧ q = n - K2 ∧ p ≤ K ∧ q ≤ K ∧ 1 ≤ K) := Lib.hid (by omega)
    have bh : K ≤ 8192 ∧ p ≤ 8192 ∧ q ≤ 8192 ∧ H ≤ 8193 ∧ K2 ≤ 16384 := by omega
    clear hK hK2 hp hq hH i1 i2 i3 hx
    go_enter Tryz.func62, Tryz.ntmps62
    go_wp2_with fail
    refine (HEN.out).mono ?_
    rintro e w1 ⟨rfl, m1, mo⟩
    have M1 := Lib.hid m1
    have G1 := Lib.hid mo.gb
    have R1 := Lib.hid (R0.out.grown mo.gb)
    clear m1 mo HEN R0
    have HP := Lib.hid (points_c w1 _ bl K (R1.out.at 0 rfl) (by have := (HML).out; omega) EE.out.2.2.2.2.2 (by omega))
    go_wp2_with fail
    refine (HP.out).mono ?_
    rintro e w2 ⟨x0, x1, xm, x2, xi, V0, V1, V2, rfl, vv, l0, l1, l2, o0, o1, om, o2, oi, g2'⟩
    obtain ⟨F0, n0, f0, rfl⟩ := o0.form
    obtain ⟨F1, n1, f1, rfl⟩ := o1.form
    obtain ⟨Fm, nm, fm, rfl⟩ := om.form
    obtain ⟨F2, n2', f2, rfl⟩ := o2.form
    obtain ⟨Fi, ni, fi, rfl⟩ := oi.form
    obtain ⟨na, hna⟩ : ∃ z, z = decide (V0 + V2 < V1) := ⟨_, rfl⟩
    rw [← hna]
    have HNA := Lib.hid hna
    have B1 : Hid (gm < w1.heap.size ∧ w.heap.size ≤ w1.heap.size) := Lib.hid ⟨Nat.lt_of_lt_of_le HGM.out G1.out.size, G1.out.size⟩
    rw [← (HML).out, ← EE.out.1, ← EE.out.2.1] at l2
    have LA := Lib.hid (Lm.of l0 l1 l2 EE.out.2.2.2.1)
    rw [← HH.out] at LA
    have VA := Lib.hid vv
    have GG2 := gb_trans g2' (made5_g w2 103 (.slice F0 n0 f0) (.slice F1 n1 f1) (.slice Fm nm fm) (.slice F2 n2' f2) (.slice Fi ni fi) (.bool na))
    have PA2 := Lib.hid (made5_p w2 103 (.slice F0 n0 f0) (.slice F1 n1 f1) (.slice Fm nm fm) (.slice F2 n2' f2) (.slice Fi ni fi) (.bool na))
    have WV2 := Lib.hid ((((((Wv.nil w2 w.heap.size).add o0 B1.out.2).add o1 B1.out.2).add om B1.out.2).add o2 B1.out.2).add oi B1.out.2 |>.grown0 (made5_g w2 103 (.slice F0 n0 f0) (.slice F1 n1 f1) (.slice Fm nm fm) (.slice F2 n2' f2) (.slice Fi ni fi) (.bool na)))
    have R2 := Lib.hid (R1.out.grown0 GG2)
    have M2 := Lib.hid (M1.out.grown GG2)
    have G2 := Lib.hid (gb_trans G1.out (gb_none GG2 (some gm)))
    have S2 : Hid (w1.heap.size ≤ w2.heap.size) := Lib.hid g2'.size
    clear o0 o1 om o2 oi g2' GG2 vv l0 l1 l2 hna HP R1 M1 G1
    have HP := Lib.hid (points_c _ _ al K (R2.out.at 1 rfl) (by have := (HNL).out; omega) EE.out.2.2.2.2.2 (by omega))
    go_wp2_with fail
    refine (HP.out).mono ?_
    rintro e w3 ⟨y0, y1, ym, y2, yi, U0, U1, U2, rfl, vv, l0, l1, l2, o0, o1, om, o2, oi, g3'⟩
    obtain ⟨E0, t0, d0, rfl⟩ := o0.form
    obtain ⟨E1, t1, d1, rfl⟩ := o1.form
    obtain ⟨Em, tm, dm, rfl⟩ := om.form
    obtain ⟨E2, t2, d2, rfl⟩ := o2.form
    obtain ⟨Ei, ti, di, rfl⟩ := oi.form
    obtain ⟨nb, hnb'⟩ : ∃ z, z = decide (U0 + U2 < U1) := ⟨_, rfl⟩
    rw [← hnb']
    have HNB := Lib.hid hnb'
    have SB : Hid (w.heap.size ≤ w2.heap.size) := Lib.hid (Nat.le_trans B1.out.2 S2.out)
    have SB2 : Hid (w.heap.size ≤ (made5 w2 103 (.slice F0 n0 f0) (.slice F1 n1 f1) (.slice Fm nm fm) (.slice F2 n2' f2) (.slice Fi ni fi) (.bool na)).heap.size) := Lib.hid (Nat.le_trans SB.out (made5_g ..).size)
    rw [← (HNL).out, ← EE.out.1, ← EE.out.2.2.1] at l2
    have LB := Lib.hid (Lm.of l0 l1 l2 EE.out.2.2.2.2.1)
    rw [← HH.out] at LB
    have VB := Lib.hid vv
    have GG3 := gb_trans g3' (made5_g w3 103 (.slice E0 t0 d0) (.slice E1 t1 d1) (.slice Em tm dm) (.slice E2 t2 d2) (.slice Ei ti di) (.bool nb))
    have PB3 := Lib.hid (made5_p w3 103 (.slice E0 t0 d0) (.slice E1 t1 d1) (.slice Em tm dm) (.slice E2 t2 d2) (.slice Ei ti di) (.bool nb))
    have PA3 := Lib.hid (PA2.out.grown0 GG3)
    have WV3 := Lib.hid ((((((WV2.out.grown0 g3').add o0 SB2.out).add o1 SB2.out).add om SB2.out).add o2 SB2.out).add oi SB2.out |>.grown0 (made5_g w3 103 (.slice E0 t0 d0) (.slice E1 t1 d1) (.slice Em tm dm) (.slice E2 t2 d2) (.slice Ei ti di) (.bool nb)))
    have M3 := Lib.hid (M2.out.grown GG3)
    have G3 := Lib.hid (gb_trans G2.out (gb_none GG3 (some gm)))
    have SC : Hid (gm < w2.heap.size ∧ gm < w3.heap.size) := Lib.hid (by
      have h1 := SB.out
      have h2 := HGM.out
      have h3 := SB2.out
      have h4 := g3'.size
      omega)
    clear o0 o1 om o2 oi g3' GG3 vv l0 l1 l2 hnb' HP R2 M2 G2 PA2 WV2 S2 B1 SB SB2
    have HGM2 : Hid (∀ {W : World}, w.grownBy W (some gm) → gm < W.heap.size) := Lib.hid (fun g => Nat.lt_of_lt_of_le HGM.out g.size)
    go_wp2
    refine wp_gen (fun W => w.grownBy W (some gm) ∧ P5 W w2.heap.size _ _ _ _ _ ∧ P5 W w3.heap.size _ _ _ _ _ ∧ Wv W w.heap.size _ ∧ Mt W gm a (b + 1) _) ⟨G3.out, PA3.out, PB3.out, WV3.out, M3.out⟩ ?_
    clear G3 PA3 PB3 WV3 M3
    rintro wr ⟨G', PA', PB', WV', M'⟩
    have G := Lib.hid G'
    have PA := Lib.hid PA'
    have PB := Lib.hid PB'
    have WV := Lib.hid WV'
    have M := Lib.hid M'
    clear G' PA' PB' WV' M'
    have HSF := Lib.hid (show Canon.SF [(_, _)] _ from Canon.sf_cons (PB.out.c0.cell 0 rfl) (Canon.sf_nil _))
    have a0 := PA.out.c0.cell 0 rfl
    have b0 := PB.out.c0.cell 0 rfl
    refine Canon.region_held [83] _ (by kernel_rfl) (by kernel_rfl) HSF.out ?_
    refine Canon.segs_at 4 _ _ _ (by kernel_rfl) ?_
    simp only [List.take_succ_cons, List.take_zero, List.drop_succ_cons, List.drop_zero]
    obtain ⟨za, sa, la, va⟩ := (WV.out.drew.at 0 rfl).get (LA.out.l0)
    have HTW := Lib.hid (twide_c _ _ za K sa (by omega))
    have VVA : Hid (val B64 (rowOf (trimZ za) K) = _) := Lib.hid ((val_rowOf_all (Nat.le_trans (trimZ_len za) la)).trans ((val_trimZ _ _).trans va))
    clear sa la va
    go_wp2_with fail
    refine (HTW.out).mono ?_
    rintro e w4 ⟨ga, rfl, oa, g'⟩
    have HSF1 := Lib.hid (Canon.sf_grown0 HSF.out.drew g')
    have SA := Lib.hid (And.intro oa.sl (oa.offg (HGM2.out (gb_drew G.out))))
    have PA1 := Lib.hid (PA.out.drew.grown0 g')
    have PB1 := Lib.hid (PB.out.drew.grown0 g')
    have WV1 := Lib.hid (WV.out.drew.grown0 g')
    have M1 := Lib.hid (M.out.drew.grown g')
    have G1 := Lib.hid (gb_trans (gb_drew G.out) (gb_none g' (some gm)))
    clear oa g' a0 HTW PA PB WV M G HSF
    go_wp2
    refine ⟨HSF1.out, ?_⟩
    refine Canon.segs_at 3 _ _ _ (by kernel_rfl) ?_
    simp only [List.take_succ_cons, List.take_zero, List.drop_succ_cons, List.drop_zero]
    clear b0
    have b0 := PB1.out.c0.cell 0 rfl
    obtain ⟨zb, sb, lb, vb⟩ := (WV1.out.at 5 rfl).get (LB.out.l0)
    have HTW := Lib.hid (twide_c _ _ zb K sb (by omega))
    have VVB : Hid (val B64 (rowOf (trimZ zb) K) = _) := Lib.hid ((val_rowOf_all (Nat.le_trans (trimZ_len zb) lb)).trans ((val_trimZ _ _).trans vb))
    clear sb lb vb
    go_wp2_with fail
    refine (HTW.out).mono ?_
    rintro e w5 ⟨gb, rfl, ob, g'⟩
    have HSF2 := Lib.hid (Canon.sf_grown0 HSF1.out g')
    have SB := Lib.hid (And.intro ob.sl (ob.offg (HGM2.out G1.out)))
    have SA2 := Lib.hid (And.intro (SA.out.1.grown0 g') SA.out.2)
    have PA2 := Lib.hid (PA1.out.grown0 g')
    have PB2 := Lib.hid (PB1.out.grown0 g')
    have WV2 := Lib.hid (WV1.out.grown0 g')
    have M2 := Lib.hid (M1.out.grown g')
    have G2 := Lib.hid (gb_trans G1.out (gb_none g' (some gm)))
    clear ob g' b0 HTW PA1 PB1 WV1 M1 G1 HSF1 SA
    go_wp2
    refine ⟨HSF2.out, ?_⟩
    refine Canon.segs_at 0 _ _ _ (by kernel_rfl) ?_
    simp only [List.take_succ_cons, List.take_zero, List.drop_succ_cons, List.drop_zero]
    have N1 := HI1.out _ _ _ _ _ _ _ G2.out M2.out HT.out (by omega) SA2.out.1 SB.out.1 (rowOf_len _ _) (rowOf_len _ _) SA2.out.2 SB.out.2
    rw [VVA.out, VVB.out] at N1
    have HN1 := Lib.hid N1
    clear N1
    go_wp2_with fail
    refine (HN1.out).mono ?_
    rintro e w6 ⟨r0, c1, rfl, ox, mx, ccx, g'⟩
    have HSF3 := Lib.hid (Canon.sf_grown HSF2.out g' (fun q hq => by
      obtain rfl : q = _ := List.mem_singleton.mp hq
      have := SC.out
      simp; omega))
    have PA := Lib.hid (PA2.out.growng g' SC.out.1)
    have PB := Lib.hid (PB2.out.growng g' SC.out.2)
    have WV := Lib.hid ((WV2.out.growng g' HGM.out).add ox G2.out.size)
    have M := Lib.hid mx
    have G := Lib.hid (gb_trans G2.out g')
    have CD1 := Lib.hid ccx
    clear ox mx ccx g' HN1 PA2 PB2 WV2 M2 G2 HSF2 SA2 SB VVA VVB
    go_wp2
    refine ⟨HSF3.out, ?_⟩
    refine Canon.segs_end _ _ _ (by kernel_rfl) ?_
    go_wp2
    refine ⟨by kernel_rfl, by kernel_rfl, by kernel_rfl, ?_⟩
    clear HSF3
    clear HI1
    go_wp2
    have HSF := Lib.hid (show Canon.SF [(_, _)] _ from Canon.sf_cons (PB.out.c1.cell 0 rfl) (Canon.sf_nil _))
    have a0 := PA.out.c1.cell 0 rfl
    have b0 := PB.out.c1.cell 0 rfl
    refine Canon.region_held [94] _ (by kernel_rfl) (by kernel_rfl) HSF.out ?_
    refine Canon.segs_at 5 _ _ _ (by kernel_rfl) ?_
    simp only [List.take_succ_cons, List.take_zero, List.drop_succ_cons, List.drop_zero]
    obtain ⟨za, sa, la, va⟩ := (WV.out.drew.at 1 rfl).get (LA.out.l1)
    have HTW := Lib.hid (twide_c _ _ za H sa (by omega))
    have VVA : Hid (val B64 (rowOf (trimZ za) H) = _) := Lib.hid ((val_rowOf_all (Nat.le_trans (trimZ_len za) la)).trans ((val_trimZ _ _).trans va))
    clear sa la va
    go_wp2_with fail
    refine (HTW.out).mono ?_
    rintro e w7 ⟨ga, rfl, oa, g'⟩
    have HSF1 := Lib.hid (Canon.sf_grown0 HSF.out.drew g')
    have SA := Lib.hid (And.intro oa.sl (oa.offg (HGM2.out (gb_drew G.out))))
    have PA1 := Lib.hid (PA.out.drew.grown0 g')
    have PB1 := Lib.hid (PB.out.drew.grown0 g')
    have WV1 := Lib.hid (WV.out.drew.grown0 g')
    have M1 := Lib.hid (M.out.drew.grown g')
    have G1 := Lib.hid (gb_trans (gb_drew G.out) (gb_none g' (some gm)))
    clear oa g' a0 HTW PA PB WV M G HSF
    go_wp2
    refine ⟨HSF1.out, ?_⟩
    refine Canon.segs_at 4 _ _ _ (by kernel_rfl) ?_
    simp only [List.take_succ_cons, List.take_zero, List.drop_succ_cons, List.drop_zero]
    clear b0
    have b0 := PB1.out.c1.cell 0 rfl
    obtain ⟨zb, sb, lb, vb⟩ := (WV1.out.at 6 rfl).get (LB.out.l1)
    have HTW := Lib.hid (twide_c _ _ zb H sb (by omega))
    have VVB : Hid (val B64 (rowOf (trimZ zb) H) = _) := Lib.hid ((val_rowOf_all (Nat.le_trans (trimZ_len zb) lb)).trans ((val_trimZ _ _).trans vb))
    clear sb lb vb
    go_wp2_with fail
    refine (HTW.out).mono ?_
    rintro e w8 ⟨gb, rfl, ob, g'⟩
    have HSF2 := Lib.hid (Canon.sf_grown0 HSF1.out g')
    have SB := Lib.hid (And.intro ob.sl (ob.offg (HGM2.out G1.out)))
    have SA2 := Lib.hid (And.intro (SA.out.1.grown0 g') SA.out.2)
    have PA2 := Lib.hid (PA1.out.grown0 g')
    have PB2 := Lib.hid (PB1.out.grown0 g')
    have WV2 := Lib.hid (WV1.out.grown0 g')
    have M2 := Lib.hid (M1.out.grown g')
    have G2 := Lib.hid (gb_trans G1.out (gb_none g' (some gm)))
    clear ob g' b0 HTW PA1 PB1 WV1 M1 G1 HSF1 SA
    go_wp2
    refine ⟨HSF2.out, ?_⟩
    refine Canon.segs_at 0 _ _ _ (by kernel_rfl) ?_
    simp only [List.take_succ_cons, List.take_zero, List.drop_succ_cons, List.drop_zero]
    have N1 := HI2.out _ _ _ _ _ _ _ G2.out M2.out CD1.out.1 (by omega) SA2.out.1 SB.out.1 (rowOf_len _ _) (rowOf_len _ _) SA2.out.2 SB.out.2
    rw [VVA.out, VVB.out] at N1
    have HN1 := Lib.hid N1
    clear N1
    go_wp2_with fail
    refine (HN1.out).mono ?_
    rintro e w9 ⟨r1, c2, rfl, ox, mx, ccx, g'⟩
    have HSF3 := Lib.hid (Canon.sf_grown HSF2.out g' (fun q hq => by
      obtain rfl : q = _ := List.mem_singleton.mp hq
      have := SC.out
      simp; omega))
    have PA := Lib.hid (PA2.out.growng g' SC.out.1)
    have PB := Lib.hid (PB2.out.growng g' SC.out.2)
    have WV := Lib.hid ((WV2.out.growng g' HGM.out).add ox G2.out.size)
    have M := Lib.hid mx
    have G := Lib.hid (gb_trans G2.out g')
    have CD2 := Lib.hid ccx
    clear ox mx ccx g' HN1 PA2 PB2 WV2 M2 G2 HSF2 SA2 SB VVA VVB
    go_wp2
    refine ⟨HSF3.out, ?_⟩
    refine Canon.segs_end _ _ _ (by kernel_rfl) ?_
    go_wp2
    refine ⟨by kernel_rfl, by kernel_rfl, by kernel_rfl, ?_⟩
    clear HSF3
    go_wp2
    have HSF := Lib.hid (show Canon.SF [(_, _)] _ from Canon.sf_cons (PB.out.c2.cell 0 rfl) (Canon.sf_nil _))
    have a0 := PA.out.c2.cell 0 rfl
    have b0 := PB.out.c2.cell 0 rfl
    refine Canon.region_held [106] _ (by kernel_rfl) (by kernel_rfl) HSF.out ?_
    refine Canon.segs_at 5 _ _ _ (by kernel_rfl) ?_
    simp only [List.take_succ_cons, List.take_zero, List.drop_succ_cons, List.drop_zero]
    obtain ⟨za, sa, la, va⟩ := (WV.out.drew.at 2 rfl).get (LA.out.lm)
    have HTW := Lib.hid (twide_c _ _ za H sa (by omega))
    have VVA : Hid (val B64 (rowOf (trimZ za) H) = _) := Lib.hid ((val_rowOf_all (Nat.le_trans (trimZ_len za) la)).trans ((val_trimZ _ _).trans va))
    clear sa la va
    go_wp2_with fail
    refine (HTW.out).mono ?_
    rintro e w10 ⟨ga, rfl, oa, g'⟩
    have HSF1 := Lib.hid (Canon.sf_grown0 HSF.out.drew g')
    have SA := Lib.hid (And.intro oa.sl (oa.offg (HGM2.out (gb_drew G.out))))
    have PA1 := Lib.hid (PA.out.drew.grown0 g')
    have PB1 := Lib.hid (PB.out.drew.grown0 g')
    have WV1 := Lib.hid (WV.out.drew.grown0 g')
    have M1 := Lib.hid (M.out.drew.grown g')
    have G1 := Lib.hid (gb_trans (gb_drew G.out) (gb_none g' (some gm)))
    clear oa g' a0 HTW PA PB WV M G HSF
    go_wp2
    refine ⟨HSF1.out, ?_⟩
    refine Canon.segs_at 4 _ _ _ (by kernel_rfl) ?_
    simp only [List.take_succ_cons, List.take_zero, List.drop_succ_cons, List.drop_zero]
    clear b0
    have b0 := PB1.out.c2.cell 0 rfl
    obtain ⟨zb, sb, lb, vb⟩ := (WV1.out.at 7 rfl).get (LB.out.lm)
    have HTW := Lib.hid (twide_c _ _ zb H sb (by omega))
    have VVB : Hid (val B64 (rowOf (trimZ zb) H) = _) := Lib.hid ((val_rowOf_all (Nat.le_trans (trimZ_len zb) lb)).trans ((val_trimZ _ _).trans vb))
    clear sb lb vb
    go_wp2_with fail
    refine (HTW.out).mono ?_
    rintro e w11 ⟨gb, rfl, ob, g'⟩
    have HSF2 := Lib.hid (Canon.sf_grown0 HSF1.out g')
    have SB := Lib.hid (And.intro ob.sl (ob.offg (HGM2.out G1.out)))
    have SA2 := Lib.hid (And.intro (SA.out.1.grown0 g') SA.out.2)
    have PA2 := Lib.hid (PA1.out.grown0 g')
    have PB2 := Lib.hid (PB1.out.grown0 g')
    have WV2 := Lib.hid (WV1.out.grown0 g')
    have M2 := Lib.hid (M1.out.grown g')
    have G2 := Lib.hid (gb_trans G1.out (gb_none g' (some gm)))
    clear ob g' b0 HTW PA1 PB1 WV1 M1 G1 HSF1 SA
    go_wp2
    refine ⟨HSF2.out, ?_⟩
    refine Canon.segs_at 0 _ _ _ (by kernel_rfl) ?_
    simp only [List.take_succ_cons, List.take_zero, List.drop_succ_cons, List.drop_zero]
    have N1 := HI2.out _ _ _ _ _ _ _ G2.out M2.out CD2.out.1 (by omega) SA2.out.1 SB.out.1 (rowOf_len _ _) (rowOf_len _ _) SA2.out.2 SB.out.2
    rw [VVA.out, VVB.out] at N1
    have HN1 := Lib.hid N1
    clear N1
    go_wp2_with fail
    refine (HN1.out).mono ?_
    rintro e w12 ⟨rm, c3, rfl, ox, mx, ccx, g'⟩
    have HSF3 := Lib.hid (Canon.sf_grown HSF2.out g' (fun q hq => by
      obtain rfl : q = _ := List.mem_singleton.mp hq
      have := SC.out
      simp; omega))
    have PA := Lib.hid (PA2.out.growng g' SC.out.1)
    have PB := Lib.hid (PB2.out.growng g' SC.out.2)
    have WV := Lib.hid ((WV2.out.growng g' HGM.out).add ox G2.out.size)
    have M := Lib.hid mx
    have G := Lib.hid (gb_trans G2.out g')
    have CD3 := Lib.hid ccx
    clear ox mx ccx g' HN1 PA2 PB2 WV2 M2 G2 HSF2 SA2 SB VVA VVB
    go_wp2
    refine ⟨HSF3.out, ?_⟩
    refine Canon.segs_end _ _ _ (by kernel_rfl) ?_
    go_wp2
    refine ⟨by kernel_rfl, by kernel_rfl, by kernel_rfl, ?_⟩
    clear HSF3
    go_wp2
    have HSF := Lib.hid (show Canon.SF [(_, _)] _ from Canon.sf_cons (PB.out.c3.cell 0 rfl) (Canon.sf_nil _))
    have a0 := PA.out.c3.cell 0 rfl
    have b0 := PB.out.c3.cell 0 rfl
    refine Canon.region_held [118] _ (by kernel_rfl) (by kernel_rfl) HSF.out ?_
    refine Canon.segs_at 5 _ _ _ (by kernel_rfl) ?_
    simp only [List.take_succ_cons, List.take_zero, List.drop_succ_cons, List.drop_zero]
    obtain ⟨za, sa, la, va⟩ := (WV.out.drew.at 3 rfl).get (LA.out.l2)
    have HTW := Lib.hid (twide_c _ _ za H sa (by omega))
    have VVA : Hid (val B64 (rowOf (trimZ za) H) = _) := Lib.hid ((val_rowOf_all (Nat.le_trans (trimZ_len za) la)).trans ((val_trimZ _ _).trans va))
    clear sa la va
    go_wp2_with fail
    refine (HTW.out).mono ?_
    rintro e w13 ⟨ga, rfl, oa, g'⟩
    have HSF1 := Lib.hid (Canon.sf_grown0 HSF.out.drew g')
    have SA := Lib.hid (And.intro oa.sl (oa.offg (HGM2.out (gb_drew G.out))))
    have PA1 := Lib.hid (PA.out.drew.grown0 g')
    have PB1 := Lib.hid (PB.out.drew.grown0 g')
    have WV1 := Lib.hid (WV.out.drew.grown0 g')
    have M1 := Lib.hid (M.out.drew.grown g')
    have G1 := Lib.hid (gb_trans (gb_drew G.out) (gb_none g' (some gm)))
    clear oa g' a0 HTW PA PB WV M G HSF
    go_wp2
    refine ⟨HSF1.out, ?_⟩
    refine Canon.segs_at 4 _ _ _ (by kernel_rfl) ?_
    simp only [List.take_succ_cons, List.take_zero, List.drop_succ_cons, List.drop_zero]
    clear b0
    have b0 := PB1.out.c3.cell 0 rfl
    obtain ⟨zb, sb, lb, vb⟩ := (WV1.out.at 8 rfl).get (LB.out.l2)
    have HTW := Lib.hid (twide_c _ _ zb H sb (by omega))
    have VVB : Hid (val B64 (rowOf (trimZ zb) H) = _) := Lib.hid ((val_rowOf_all (Nat.le_trans (trimZ_len zb) lb)).trans ((val_trimZ _ _).trans vb))
    clear sb lb vb
    go_wp2_with fail
    refine (HTW.out).mono ?_
    rintro e w14 ⟨gb, rfl, ob, g'⟩
    have HSF2 := Lib.hid (Canon.sf_grown0 HSF1.out g')
    have SB := Lib.hid (And.intro ob.sl (ob.offg (HGM2.out G1.out)))
    have SA2 := Lib.hid (And.intro (SA.out.1.grown0 g') SA.out.2)
    have PA2 := Lib.hid (PA1.out.grown0 g')
    have PB2 := Lib.hid (PB1.out.grown0 g')
    have WV2 := Lib.hid (WV1.out.grown0 g')
    have M2 := Lib.hid (M1.out.grown g')
    have G2 := Lib.hid (gb_trans G1.out (gb_none g' (some gm)))
    clear ob g' b0 HTW PA1 PB1 WV1 M1 G1 HSF1 SA
    go_wp2
    refine ⟨HSF2.out, ?_⟩
    refine Canon.segs_at 0 _ _ _ (by kernel_rfl) ?_
    simp only [List.take_succ_cons, List.take_zero, List.drop_succ_cons, List.drop_zero]
    have N1 := HI2.out _ _ _ _ _ _ _ G2.out M2.out CD3.out.1 (by omega) SA2.out.1 SB.out.1 (rowOf_len _ _) (rowOf_len _ _) SA2.out.2 SB.out.2
    rw [VVA.out, VVB.out] at N1
    have HN1 := Lib.hid N1
    clear N1
    go_wp2_with fail
    refine (HN1.out).mono ?_
    rintro e w15 ⟨r2, c4, rfl, ox, mx, ccx, g'⟩
    have HSF3 := Lib.hid (Canon.sf_grown HSF2.out g' (fun q hq => by
      obtain rfl : q = _ := List.mem_singleton.mp hq
      have := SC.out
      simp; omega))
    have PA := Lib.hid (PA2.out.growng g' SC.out.1)
    have PB := Lib.hid (PB2.out.growng g' SC.out.2)
    have WV := Lib.hid ((WV2.out.growng g' HGM.out).add ox G2.out.size)
    have M := Lib.hid mx
    have G := Lib.hid (gb_trans G2.out g')
    have CD4 := Lib.hid ccx
    clear ox mx ccx g' HN1 PA2 PB2 WV2 M2 G2 HSF2 SA2 SB VVA VVB
    go_wp2
    refine ⟨HSF3.out, ?_⟩
    refine Canon.segs_end _ _ _ (by kernel_rfl) ?_
    go_wp2
    refine ⟨by kernel_rfl, by kernel_rfl, by kernel_rfl, ?_⟩
    clear HSF3
    clear HI2
    go_wp2
    have HSF := Lib.hid (show Canon.SF [(_, _)] _ from Canon.sf_cons (PB.out.c4.cell 0 rfl) (Canon.sf_nil _))
    have a0 := PA.out.c4.cell 0 rfl
    have b0 := PB.out.c4.cell 0 rfl
    refine Canon.region_held [132] _ (by kernel_rfl) (by kernel_rfl) HSF.out ?_
    refine Canon.segs_at 7 _ _ _ (by kernel_rfl) ?_
    simp only [List.take_succ_cons, List.take_zero, List.drop_succ_cons, List.drop_zero]
    obtain ⟨za, sa, la, va⟩ := (WV.out.drew.at 4 rfl).get (LA.out.li)
    have HTW := Lib.hid (twide_c _ _ za p sa (by omega))
    have VVA : Hid (val B64 (rowOf (trimZ za) p) = _) := Lib.hid ((val_rowOf_all (Nat.le_trans (trimZ_len za) la)).trans ((val_trimZ _ _).trans va))
    clear sa la va
    go_wp2_with fail
    refine (HTW.out).mono ?_
    rintro e w16 ⟨ga, rfl, oa, g'⟩
    have HSF1 := Lib.hid (Canon.sf_grown0 HSF.out.drew g')
    have SA := Lib.hid (And.intro oa.sl (oa.offg (HGM2.out (gb_drew G.out))))
    have PA1 := Lib.hid (PA.out.drew.grown0 g')
    have PB1 := Lib.hid (PB.out.drew.grown0 g')
    have WV1 := Lib.hid (WV.out.drew.grown0 g')
    have M1 := Lib.hid (M.out.drew.grown g')
    have G1 := Lib.hid (gb_trans (gb_drew G.out) (gb_none g' (some gm)))
    clear oa g' a0 HTW PA PB WV M G HSF
    go_wp2
    refine ⟨HSF1.out, ?_⟩
    refine Canon.segs_at 6 _ _ _ (by kernel_rfl) ?_
    simp only [List.take_succ_cons, List.take_zero, List.drop_succ_cons, List.drop_zero]
    clear b0
    have b0 := PB1.out.c4.cell 0 rfl
    obtain ⟨zb, sb, lb, vb⟩ := (WV1.out.at 9 rfl).get (LB.out.li)
    have HTW := Lib.hid (twide_c _ _ zb q sb (by omega))
    have VVB : Hid (val B64 (rowOf (trimZ zb) q) = _) := Lib.hid ((val_rowOf_all (Nat.le_trans (trimZ_len zb) lb)).trans ((val_trimZ _ _).trans vb))
    clear sb lb vb
    go_wp2_with fail
    refine (HTW.out).mono ?_
    rintro e w17 ⟨gb, rfl, ob, g'⟩
    have HSF2 := Lib.hid (Canon.sf_grown0 HSF1.out g')
    have SB := Lib.hid (And.intro ob.sl (ob.offg (HGM2.out G1.out)))
    have SA2 := Lib.hid (And.intro (SA.out.1.grown0 g') SA.out.2)
    have PA2 := Lib.hid (PA1.out.grown0 g')
    have PB2 := Lib.hid (PB1.out.grown0 g')
    have WV2 := Lib.hid (WV1.out.grown0 g')
    have M2 := Lib.hid (M1.out.grown g')
    have G2 := Lib.hid (gb_trans G1.out (gb_none g' (some gm)))
    clear ob g' b0 HTW PA1 PB1 WV1 M1 G1 HSF1 SA
    go_wp2
    refine ⟨HSF2.out, ?_⟩
    refine Canon.segs_at 0 _ _ _ (by kernel_rfl) ?_
    simp only [List.take_succ_cons, List.take_zero, List.drop_succ_cons, List.drop_zero]
    have N1 := HI3.out _ _ _ _ _ _ _ G2.out M2.out CD4.out.1 (by omega) SA2.out.1 SB.out.1 (rowOf_len _ _) (rowOf_len _ _) SA2.out.2 SB.out.2
    rw [VVA.out, VVB.out] at N1
    have HN1 := Lib.hid N1
    clear N1
    go_wp2_with fail
    refine (HN1.out).mono ?_
    rintro e w18 ⟨ri, c5, rfl, ox, mx, ccx, g'⟩
    have HSF3 := Lib.hid (Canon.sf_grown HSF2.out g' (fun q hq => by
      obtain rfl : q = _ := List.mem_singleton.mp hq
      have := SC.out
      simp; omega))
    have PA := Lib.hid (PA2.out.growng g' SC.out.1)
    have PB := Lib.hid (PB2.out.growng g' SC.out.2)
    have WV := Lib.hid ((WV2.out.growng g' HGM.out).add ox G2.out.size)
    have M := Lib.hid mx
    have G := Lib.hid (gb_trans G2.out g')
    have CD5 := Lib.hid ccx
    clear ox mx ccx g' HN1 PA2 PB2 WV2 M2 G2 HSF2 SA2 SB VVA VVB
    go_wp2
    refine ⟨HSF3.out, ?_⟩
    refine Canon.segs_end _ _ _ (by kernel_rfl) ?_
    go_wp2
    refine ⟨by kernel_rfl, by kernel_rfl, by kernel_rfl, ?_⟩
    clear HSF3
    have SCC := SC
    clear HI3 ent
    have ES : a + (k1 : Int) + (k2 : Int) + (k2 : Int) + (k2 : Int) + (k3 : Int) = a + ((k1 + k2 + k2 + k2 + k3 : Nat) : Int) := by omega
    have m' := M.out
    rw [ES] at m'
    have LV := leave_c w18 gm _ _ c5 m' (by omega)
    have eb : (if b + 1 > 0 then b + 1 - 1 else 0) = b := by split <;> omega
    rw [eb] at LV
    have HLV := Lib.hid LV
    clear LV m' M eb ES hc1 hc2 hc3
    have hc1 := gb_cell G.out HC.out.1 (by have := HN.out.1; simpa using this)
    have hc2 := gb_cell G.out HC.out.2.1 (by have := HN.out.2.1; simpa using this)
    have hc3 := gb_cell G.out HC.out.2.2 (by have := HN.out.2.2; simpa using this)
    go_wp2_with fail
    refine (HLV.out).mono ?_
    rintro e w19 ⟨rfl, m19, mo⟩
    have M19 := Lib.hid m19
    have G19 := Lib.hid (gb_trans G.out mo.gb)
    have BG : Hid (gm < w2.heap.size ∧ gm < w3.heap.size) := SCC
    have PA19 := Lib.hid (PA.out.growng mo.gb BG.out.1)
    have PB19 := Lib.hid (PB.out.growng mo.gb BG.out.2)
    have WV19 := Lib.hid (WV.out.growng mo.gb HGM.out)
    clear m19 mo HLV G PA PB WV hc1 hc2 hc3
    obtain ⟨z0, s0, q0, v0⟩ := (WV19.out.at 10 rfl).get (mul_lt_pow LA.out.l0 LB.out.l0)
    obtain ⟨z1, s1, q1, v1⟩ := (WV19.out.at 11 rfl).get (mul_lt_pow LA.out.l1 LB.out.l1)
    obtain ⟨zm, sm, qm, vm⟩ := (WV19.out.at 12 rfl).get (mul_lt_pow LA.out.lm LB.out.lm)
    obtain ⟨z2, s2, q2, v2⟩ := (WV19.out.at 13 rfl).get (mul_lt_pow LA.out.l2 LB.out.l2)
    obtain ⟨zi, si, qi, vi⟩ := (WV19.out.at 14 rfl).get (mul_lt_pow LA.out.li LB.out.li)
    have TT := tj_of (V0 := V0) (V1 := V1) (V2 := V2) (U0 := U0) (U1 := U1) (U2 := U2) (M := K + 1 + (K + 1) + 1) (by
      have t1 := LA.out
      have t2 := LB.out
      rw [HH.out] at t1 t2
      exact t1.both t2) (by omega)
    rw [← HNA.out, ← HNB.out, ← v0, ← v1, ← vm, ← v2, ← vi] at TT
    have JN := tjoined_c w19 K r0 r1 rm r2 ri z0 z1 zm z2 zi _ _ _ _ _ _ _ s0 s1 sm s2 si (by omega) (by omega) TT
    have eP : B64 ^ (2 * K) = B64 ^ K * B64 ^ K ∧ B64 ^ (3 * K) = B64 ^ K * B64 ^ K * B64 ^ K ∧ B64 ^ (4 * K) = B64 ^ K * B64 ^ K * B64 ^ K * B64 ^ K := by
      refine ⟨?_, ?_, ?_⟩
      · rw [Nat.two_mul, Nat.pow_add]
      · rw [show 3 * K = K + K + K by omega, Nat.pow_add, Nat.pow_add]
      · rw [show 4 * K = K + K + K + K by omega, Nat.pow_add, Nat.pow_add, Nat.pow_add]
    rw [eP.1, eP.2.1, eP.2.2, v0, vi, ← toom_val, ← VA.out, ← VB.out] at JN
    have HJN := Lib.hid JN
    have n0 := PA19.out.c2.cell 1 rfl
    have n1 := PB19.out.c2.cell 1 rfl
    clear JN TT eP s0 q0 v0 s1 q1 v1 sm qm vm s2 q2 v2 si qi vi WV19 PA19 PB19
    go_wp2_with fail
    refine (HJN.out).mono ?_
    rintro e w20 ⟨x, rfl, o20, g20⟩
    have KK : Hid (Wo w20 w.heap.size x (val B64 bl * val B64 al) ∧ Mt w20 gm (a + ((k1 + k2 + k2 + k2 + k3 : Nat) : Int)) b c5 ∧ w.grownBy w20 (some gm)) := Lib.hid
      ⟨o20.mono G19.out.size, M19.out.grown g20, gb_trans G19.out (gb_none g20 (some gm))⟩
    have CC : Hid (c5.T = T ∧ c.v ≤ c5.v ∧ (c5.v ≤ c.v ∨ c5.v ≤ b + (1 + d))) := Lib.hid (by
      have t1 := CD1.out
      have t2 := CD2.out
      have t3 := CD3.out
      have t3' := CD4.out
      have t3'' := CD5.out
      have t4 : (c.up (b + 1)).v = if b + 1 > c.v then b + 1 else c.v := rfl
      refine ⟨t3''.1, ?_⟩
      split at t4 <;> omega)
    clear o20 g20 HJN
    go_wp2
    go_ret2
    exact ⟨x, c5, rfl, by first | exact KK.out.1 | (rw [Nat.mul_comm]; exact KK.out.1), KK.out.2.1, CC.out, KK.out.2.2⟩
  · rw [Nat.min_eq_right (by omega), Nat.max_eq_left (by omega)] at hx i3
    rw [Nat.max_eq_left (by omega)] at i1 i2
    have R0 := Lib.hid (((Rw.nil w gm).add ha hna).add hb hnb)
    clear ha hb hna hnb hn hm'
    obtain ⟨K, hK⟩ : ∃ q, q = (n + 2) / 3 := ⟨_, rfl⟩
    obtain ⟨K2, hK2⟩ : ∃ q, q = 2 * K := ⟨_, rfl⟩
    obtain ⟨p, hp⟩ : ∃ q, q = n - K2 := ⟨_, rfl⟩
    obtain ⟨q, hq⟩ : ∃ q, q = m - K2 := ⟨_, rfl⟩
    have e1 : ((n : Int) + 2) / 3 = (K : Int) := by omega
    have e2 : 2 * (K : Int) = (K2 : Int) := by omega
    have e3 : (n : Int) - (K2 : Int) = (p : Int) := by omega
    have e5 : (m : Int) - (K2 : Int) = (q : Int) := by omega
    obtain ⟨H, hH⟩ : ∃ H, H = K + 1 := ⟨_, rfl⟩
    have e4 : (K : Int) + 1 = (H : Int) := by omega
    rw [← hK, ← hH] at i2
    have HH := Lib.hid hH
    rw [← hK, ← hK2] at hx
    have hmh : ¬ (m : Int) ≤ (K2 : Int) := by omega
    rw [← hK] at i1
    rw [← hK, ← hK2, ← hp, ← hq] at i3
    have HI1 := Lib.hid i1
    have HI2 := Lib.hid i2
    have HI3 := Lib.hid i3
    have EE : Hid (K2 = 2 * K ∧ p = n - K2 ∧ q = m - K2 ∧ p ≤ K ∧ q ≤ K ∧ 1 ≤ K) := Lib.hid (by omega)
    have bh : K ≤ 8192 ∧ p ≤ 8192 ∧ q ≤ 8192 ∧ H ≤ 8193 ∧ K2 ≤ 16384 := by omega
    clear hK hK2 hp hq hH i1 i2 i3 hx
    go_enter Tryz.func62, Tryz.ntmps62
    go_wp2_with fail
    refine (HEN.out).mono ?_
    rintro e w1 ⟨rfl, m1, mo⟩
    have M1 := Lib.hid m1
    have G1 := Lib.hid mo.gb
    have R1 := Lib.hid (R0.out.grown mo.gb)
    clear m1 mo HEN R0
    have HP := Lib.hid (points_c w1 _ al K (R1.out.at 0 rfl) (by have := (HNL).out; omega) EE.out.2.2.2.2.2 (by omega))
    go_wp2_with fail
    refine (HP.out).mono ?_
    rintro e w2 ⟨x0, x1, xm, x2, xi, V0, V1, V2, rfl, vv, l0, l1, l2, o0, o1, om, o2, oi, g2'⟩
    obtain ⟨F0, n0, f0, rfl⟩ := o0.form
    obtain ⟨F1, n1, f1, rfl⟩ := o1.form
    obtain ⟨Fm, nm, fm, rfl⟩ := om.form
    obtain ⟨F2, n2', f2, rfl⟩ := o2.form
    obtain ⟨Fi, ni, fi, rfl⟩ := oi.form
    obtain ⟨na, hna⟩ : ∃ z, z = decide (V0 + V2 < V1) := ⟨_, rfl⟩
    rw [← hna]
    have HNA := Lib.hid hna
    have B1 : Hid (gm < w1.heap.size ∧ w.heap.size ≤ w1.heap.size) := Lib.hid ⟨Nat.lt_of_lt_of_le HGM.out G1.out.size, G1.out.size⟩
    rw [← (HNL).out, ← EE.out.1, ← EE.out.2.1] at l2
    have LA := Lib.hid (Lm.of l0 l1 l2 EE.out.2.2.2.1)
    rw [← HH.out] at LA
    have VA := Lib.hid vv
    have GG2 := gb_trans g2' (made5_g w2 103 (.slice F0 n0 f0) (.slice F1 n1 f1) (.slice Fm nm fm) (.slice F2 n2' f2) (.slice Fi ni fi) (.bool na))
    have PA2 := Lib.hid (made5_p w2 103 (.slice F0 n0 f0) (.slice F1 n1 f1) (.slice Fm nm fm) (.slice F2 n2' f2) (.slice Fi ni fi) (.bool na))
    have WV2 := Lib.hid ((((((Wv.nil w2 w.heap.size).add o0 B1.out.2).add o1 B1.out.2).add om B1.out.2).add o2 B1.out.2).add oi B1.out.2 |>.grown0 (made5_g w2 103 (.slice F0 n0 f0) (.slice F1 n1 f1) (.slice Fm nm fm) (.slice F2 n2' f2) (.slice Fi ni fi) (.bool na)))
    have R2 := Lib.hid (R1.out.grown0 GG2)
    have M2 := Lib.hid (M1.out.grown GG2)
    have G2 := Lib.hid (gb_trans G1.out (gb_none GG2 (some gm)))
    have S2 : Hid (w1.heap.size ≤ w2.heap.size) := Lib.hid g2'.size
    clear o0 o1 om o2 oi g2' GG2 vv l0 l1 l2 hna HP R1 M1 G1
    have HP := Lib.hid (points_c _ _ bl K (R2.out.at 1 rfl) (by have := (HML).out; omega) EE.out.2.2.2.2.2 (by omega))
    go_wp2_with fail
    refine (HP.out).mono ?_
    rintro e w3 ⟨y0, y1, ym, y2, yi, U0, U1, U2, rfl, vv, l0, l1, l2, o0, o1, om, o2, oi, g3'⟩
    obtain ⟨E0, t0, d0, rfl⟩ := o0.form
    obtain ⟨E1, t1, d1, rfl⟩ := o1.form
    obtain ⟨Em, tm, dm, rfl⟩ := om.form
    obtain ⟨E2, t2, d2, rfl⟩ := o2.form
    obtain ⟨Ei, ti, di, rfl⟩ := oi.form
    obtain ⟨nb, hnb'⟩ : ∃ z, z = decide (U0 + U2 < U1) := ⟨_, rfl⟩
    rw [← hnb']
    have HNB := Lib.hid hnb'
    have SB : Hid (w.heap.size ≤ w2.heap.size) := Lib.hid (Nat.le_trans B1.out.2 S2.out)
    have SB2 : Hid (w.heap.size ≤ (made5 w2 103 (.slice F0 n0 f0) (.slice F1 n1 f1) (.slice Fm nm fm) (.slice F2 n2' f2) (.slice Fi ni fi) (.bool na)).heap.size) := Lib.hid (Nat.le_trans SB.out (made5_g ..).size)
    rw [← (HML).out, ← EE.out.1, ← EE.out.2.2.1] at l2
    have LB := Lib.hid (Lm.of l0 l1 l2 EE.out.2.2.2.2.1)
    rw [← HH.out] at LB
    have VB := Lib.hid vv
    have GG3 := gb_trans g3' (made5_g w3 103 (.slice E0 t0 d0) (.slice E1 t1 d1) (.slice Em tm dm) (.slice E2 t2 d2) (.slice Ei ti di) (.bool nb))
    have PB3 := Lib.hid (made5_p w3 103 (.slice E0 t0 d0) (.slice E1 t1 d1) (.slice Em tm dm) (.slice E2 t2 d2) (.slice Ei ti di) (.bool nb))
    have PA3 := Lib.hid (PA2.out.grown0 GG3)
    have WV3 := Lib.hid ((((((WV2.out.grown0 g3').add o0 SB2.out).add o1 SB2.out).add om SB2.out).add o2 SB2.out).add oi SB2.out |>.grown0 (made5_g w3 103 (.slice E0 t0 d0) (.slice E1 t1 d1) (.slice Em tm dm) (.slice E2 t2 d2) (.slice Ei ti di) (.bool nb)))
    have M3 := Lib.hid (M2.out.grown GG3)
    have G3 := Lib.hid (gb_trans G2.out (gb_none GG3 (some gm)))
    have SC : Hid (gm < w2.heap.size ∧ gm < w3.heap.size) := Lib.hid (by
      have h1 := SB.out
      have h2 := HGM.out
      have h3 := SB2.out
      have h4 := g3'.size
      omega)
    clear o0 o1 om o2 oi g3' GG3 vv l0 l1 l2 hnb' HP R2 M2 G2 PA2 WV2 S2 B1 SB SB2
    have HGM2 : Hid (∀ {W : World}, w.grownBy W (some gm) → gm < W.heap.size) := Lib.hid (fun g => Nat.lt_of_lt_of_le HGM.out g.size)
    go_wp2
    refine wp_gen (fun W => w.grownBy W (some gm) ∧ P5 W w2.heap.size _ _ _ _ _ ∧ P5 W w3.heap.size _ _ _ _ _ ∧ Wv W w.heap.size _ ∧ Mt W gm a (b + 1) _) ⟨G3.out, PA3.out, PB3.out, WV3.out, M3.out⟩ ?_
    clear G3 PA3 PB3 WV3 M3
    rintro wr ⟨G', PA', PB', WV', M'⟩
    have G := Lib.hid G'
    have PA := Lib.hid PA'
    have PB := Lib.hid PB'
    have WV := Lib.hid WV'
    have M := Lib.hid M'
    clear G' PA' PB' WV' M'
    have HSF := Lib.hid (show Canon.SF [(_, _)] _ from Canon.sf_cons (PB.out.c0.cell 0 rfl) (Canon.sf_nil _))
    have a0 := PA.out.c0.cell 0 rfl
    have b0 := PB.out.c0.cell 0 rfl
    refine Canon.region_held [83] _ (by kernel_rfl) (by kernel_rfl) HSF.out ?_
    refine Canon.segs_at 4 _ _ _ (by kernel_rfl) ?_
    simp only [List.take_succ_cons, List.take_zero, List.drop_succ_cons, List.drop_zero]
    obtain ⟨za, sa, la, va⟩ := (WV.out.drew.at 0 rfl).get (LA.out.l0)
    have HTW := Lib.hid (twide_c _ _ za K sa (by omega))
    have VVA : Hid (val B64 (rowOf (trimZ za) K) = _) := Lib.hid ((val_rowOf_all (Nat.le_trans (trimZ_len za) la)).trans ((val_trimZ _ _).trans va))
    clear sa la va
    go_wp2_with fail
    refine (HTW.out).mono ?_
    rintro e w4 ⟨ga, rfl, oa, g'⟩
    have HSF1 := Lib.hid (Canon.sf_grown0 HSF.out.drew g')
    have SA := Lib.hid (And.intro oa.sl (oa.offg (HGM2.out (gb_drew G.out))))
    have PA1 := Lib.hid (PA.out.drew.grown0 g')
    have PB1 := Lib.hid (PB.out.drew.grown0 g')
    have WV1 := Lib.hid (WV.out.drew.grown0 g')
    have M1 := Lib.hid (M.out.drew.grown g')
    have G1 := Lib.hid (gb_trans (gb_drew G.out) (gb_none g' (some gm)))
    clear oa g' a0 HTW PA PB WV M G HSF
    go_wp2
    refine ⟨HSF1.out, ?_⟩
    refine Canon.segs_at 3 _ _ _ (by kernel_rfl) ?_
    simp only [List.take_succ_cons, List.take_zero, List.drop_succ_cons, List.drop_zero]
    clear b0
    have b0 := PB1.out.c0.cell 0 rfl
    obtain ⟨zb, sb, lb, vb⟩ := (WV1.out.at 5 rfl).get (LB.out.l0)
    have HTW := Lib.hid (twide_c _ _ zb K sb (by omega))
    have VVB : Hid (val B64 (rowOf (trimZ zb) K) = _) := Lib.hid ((val_rowOf_all (Nat.le_trans (trimZ_len zb) lb)).trans ((val_trimZ _ _).trans vb))
    clear sb lb vb
    go_wp2_with fail
    refine (HTW.out).mono ?_
    rintro e w5 ⟨gb, rfl, ob, g'⟩
    have HSF2 := Lib.hid (Canon.sf_grown0 HSF1.out g')
    have SB := Lib.hid (And.intro ob.sl (ob.offg (HGM2.out G1.out)))
    have SA2 := Lib.hid (And.intro (SA.out.1.grown0 g') SA.out.2)
    have PA2 := Lib.hid (PA1.out.grown0 g')
    have PB2 := Lib.hid (PB1.out.grown0 g')
    have WV2 := Lib.hid (WV1.out.grown0 g')
    have M2 := Lib.hid (M1.out.grown g')
    have G2 := Lib.hid (gb_trans G1.out (gb_none g' (some gm)))
    clear ob g' b0 HTW PA1 PB1 WV1 M1 G1 HSF1 SA
    go_wp2
    refine ⟨HSF2.out, ?_⟩
    refine Canon.segs_at 0 _ _ _ (by kernel_rfl) ?_
    simp only [List.take_succ_cons, List.take_zero, List.drop_succ_cons, List.drop_zero]
    have N1 := HI1.out _ _ _ _ _ _ _ G2.out M2.out HT.out (by omega) SA2.out.1 SB.out.1 (rowOf_len _ _) (rowOf_len _ _) SA2.out.2 SB.out.2
    rw [VVA.out, VVB.out] at N1
    have HN1 := Lib.hid N1
    clear N1
    go_wp2_with fail
    refine (HN1.out).mono ?_
    rintro e w6 ⟨r0, c1, rfl, ox, mx, ccx, g'⟩
    have HSF3 := Lib.hid (Canon.sf_grown HSF2.out g' (fun q hq => by
      obtain rfl : q = _ := List.mem_singleton.mp hq
      have := SC.out
      simp; omega))
    have PA := Lib.hid (PA2.out.growng g' SC.out.1)
    have PB := Lib.hid (PB2.out.growng g' SC.out.2)
    have WV := Lib.hid ((WV2.out.growng g' HGM.out).add ox G2.out.size)
    have M := Lib.hid mx
    have G := Lib.hid (gb_trans G2.out g')
    have CD1 := Lib.hid ccx
    clear ox mx ccx g' HN1 PA2 PB2 WV2 M2 G2 HSF2 SA2 SB VVA VVB
    go_wp2
    refine ⟨HSF3.out, ?_⟩
    refine Canon.segs_end _ _ _ (by kernel_rfl) ?_
    go_wp2
    refine ⟨by kernel_rfl, by kernel_rfl, by kernel_rfl, ?_⟩
    clear HSF3
    clear HI1
    go_wp2
    have HSF := Lib.hid (show Canon.SF [(_, _)] _ from Canon.sf_cons (PB.out.c1.cell 0 rfl) (Canon.sf_nil _))
    have a0 := PA.out.c1.cell 0 rfl
    have b0 := PB.out.c1.cell 0 rfl
    refine Canon.region_held [94] _ (by kernel_rfl) (by kernel_rfl) HSF.out ?_
    refine Canon.segs_at 5 _ _ _ (by kernel_rfl) ?_
    simp only [List.take_succ_cons, List.take_zero, List.drop_succ_cons, List.drop_zero]
    obtain ⟨za, sa, la, va⟩ := (WV.out.drew.at 1 rfl).get (LA.out.l1)
    have HTW := Lib.hid (twide_c _ _ za H sa (by omega))
    have VVA : Hid (val B64 (rowOf (trimZ za) H) = _) := Lib.hid ((val_rowOf_all (Nat.le_trans (trimZ_len za) la)).trans ((val_trimZ _ _).trans va))
    clear sa la va
    go_wp2_with fail
    refine (HTW.out).mono ?_
    rintro e w7 ⟨ga, rfl, oa, g'⟩
    have HSF1 := Lib.hid (Canon.sf_grown0 HSF.out.drew g')
    have SA := Lib.hid (And.intro oa.sl (oa.offg (HGM2.out (gb_drew G.out))))
    have PA1 := Lib.hid (PA.out.drew.grown0 g')
    have PB1 := Lib.hid (PB.out.drew.grown0 g')
    have WV1 := Lib.hid (WV.out.drew.grown0 g')
    have M1 := Lib.hid (M.out.drew.grown g')
    have G1 := Lib.hid (gb_trans (gb_drew G.out) (gb_none g' (some gm)))
    clear oa g' a0 HTW PA PB WV M G HSF
    go_wp2
    refine ⟨HSF1.out, ?_⟩
    refine Canon.segs_at 4 _ _ _ (by kernel_rfl) ?_
    simp only [List.take_succ_cons, List.take_zero, List.drop_succ_cons, List.drop_zero]
    clear b0
    have b0 := PB1.out.c1.cell 0 rfl
    obtain ⟨zb, sb, lb, vb⟩ := (WV1.out.at 6 rfl).get (LB.out.l1)
    have HTW := Lib.hid (twide_c _ _ zb H sb (by omega))
    have VVB : Hid (val B64 (rowOf (trimZ zb) H) = _) := Lib.hid ((val_rowOf_all (Nat.le_trans (trimZ_len zb) lb)).trans ((val_trimZ _ _).trans vb))
    clear sb lb vb
    go_wp2_with fail
    refine (HTW.out).mono ?_
    rintro e w8 ⟨gb, rfl, ob, g'⟩
    have HSF2 := Lib.hid (Canon.sf_grown0 HSF1.out g')
    have SB := Lib.hid (And.intro ob.sl (ob.offg (HGM2.out G1.out)))
    have SA2 := Lib.hid (And.intro (SA.out.1.grown0 g') SA.out.2)
    have PA2 := Lib.hid (PA1.out.grown0 g')
    have PB2 := Lib.hid (PB1.out.grown0 g')
    have WV2 := Lib.hid (WV1.out.grown0 g')
    have M2 := Lib.hid (M1.out.grown g')
    have G2 := Lib.hid (gb_trans G1.out (gb_none g' (some gm)))
    clear ob g' b0 HTW PA1 PB1 WV1 M1 G1 HSF1 SA
    go_wp2
    refine ⟨HSF2.out, ?_⟩
    refine Canon.segs_at 0 _ _ _ (by kernel_rfl) ?_
    simp only [List.take_succ_cons, List.take_zero, List.drop_succ_cons, List.drop_zero]
    have N1 := HI2.out _ _ _ _ _ _ _ G2.out M2.out CD1.out.1 (by omega) SA2.out.1 SB.out.1 (rowOf_len _ _) (rowOf_len _ _) SA2.out.2 SB.out.2
    rw [VVA.out, VVB.out] at N1
    have HN1 := Lib.hid N1
    clear N1
    go_wp2_with fail
    refine (HN1.out).mono ?_
    rintro e w9 ⟨r1, c2, rfl, ox, mx, ccx, g'⟩
    have HSF3 := Lib.hid (Canon.sf_grown HSF2.out g' (fun q hq => by
      obtain rfl : q = _ := List.mem_singleton.mp hq
      have := SC.out
      simp; omega))
    have PA := Lib.hid (PA2.out.growng g' SC.out.1)
    have PB := Lib.hid (PB2.out.growng g' SC.out.2)
    have WV := Lib.hid ((WV2.out.growng g' HGM.out).add ox G2.out.size)
    have M := Lib.hid mx
    have G := Lib.hid (gb_trans G2.out g')
    have CD2 := Lib.hid ccx
    clear ox mx ccx g' HN1 PA2 PB2 WV2 M2 G2 HSF2 SA2 SB VVA VVB
    go_wp2
    refine ⟨HSF3.out, ?_⟩
    refine Canon.segs_end _ _ _ (by kernel_rfl) ?_
    go_wp2
    refine ⟨by kernel_rfl, by kernel_rfl, by kernel_rfl, ?_⟩
    clear HSF3
    go_wp2
    have HSF := Lib.hid (show Canon.SF [(_, _)] _ from Canon.sf_cons (PB.out.c2.cell 0 rfl) (Canon.sf_nil _))
    have a0 := PA.out.c2.cell 0 rfl
    have b0 := PB.out.c2.cell 0 rfl
    refine Canon.region_held [106] _ (by kernel_rfl) (by kernel_rfl) HSF.out ?_
    refine Canon.segs_at 5 _ _ _ (by kernel_rfl) ?_
    simp only [List.take_succ_cons, List.take_zero, List.drop_succ_cons, List.drop_zero]
    obtain ⟨za, sa, la, va⟩ := (WV.out.drew.at 2 rfl).get (LA.out.lm)
    have HTW := Lib.hid (twide_c _ _ za H sa (by omega))
    have VVA : Hid (val B64 (rowOf (trimZ za) H) = _) := Lib.hid ((val_rowOf_all (Nat.le_trans (trimZ_len za) la)).trans ((val_trimZ _ _).trans va))
    clear sa la va
    go_wp2_with fail
    refine (HTW.out).mono ?_
    rintro e w10 ⟨ga, rfl, oa, g'⟩
    have HSF1 := Lib.hid (Canon.sf_grown0 HSF.out.drew g')
    have SA := Lib.hid (And.intro oa.sl (oa.offg (HGM2.out (gb_drew G.out))))
    have PA1 := Lib.hid (PA.out.drew.grown0 g')
    have PB1 := Lib.hid (PB.out.drew.grown0 g')
    have WV1 := Lib.hid (WV.out.drew.grown0 g')
    have M1 := Lib.hid (M.out.drew.grown g')
    have G1 := Lib.hid (gb_trans (gb_drew G.out) (gb_none g' (some gm)))
    clear oa g' a0 HTW PA PB WV M G HSF
    go_wp2
    refine ⟨HSF1.out, ?_⟩
    refine Canon.segs_at 4 _ _ _ (by kernel_rfl) ?_
    simp only [List.take_succ_cons, List.take_zero, List.drop_succ_cons, List.drop_zero]
    clear b0
    have b0 := PB1.out.c2.cell 0 rfl
    obtain ⟨zb, sb, lb, vb⟩ := (WV1.out.at 7 rfl).get (LB.out.lm)
    have HTW := Lib.hid (twide_c _ _ zb H sb (by omega))
    have VVB : Hid (val B64 (rowOf (trimZ zb) H) = _) := Lib.hid ((val_rowOf_all (Nat.le_trans (trimZ_len zb) lb)).trans ((val_trimZ _ _).trans vb))
    clear sb lb vb
    go_wp2_with fail
    refine (HTW.out).mono ?_
    rintro e w11 ⟨gb, rfl, ob, g'⟩
    have HSF2 := Lib.hid (Canon.sf_grown0 HSF1.out g')
    have SB := Lib.hid (And.intro ob.sl (ob.offg (HGM2.out G1.out)))
    have SA2 := Lib.hid (And.intro (SA.out.1.grown0 g') SA.out.2)
    have PA2 := Lib.hid (PA1.out.grown0 g')
    have PB2 := Lib.hid (PB1.out.grown0 g')
    have WV2 := Lib.hid (WV1.out.grown0 g')
    have M2 := Lib.hid (M1.out.grown g')
    have G2 := Lib.hid (gb_trans G1.out (gb_none g' (some gm)))
    clear ob g' b0 HTW PA1 PB1 WV1 M1 G1 HSF1 SA
    go_wp2
    refine ⟨HSF2.out, ?_⟩
    refine Canon.segs_at 0 _ _ _ (by kernel_rfl) ?_
    simp only [List.take_succ_cons, List.take_zero, List.drop_succ_cons, List.drop_zero]
    have N1 := HI2.out _ _ _ _ _ _ _ G2.out M2.out CD2.out.1 (by omega) SA2.out.1 SB.out.1 (rowOf_len _ _) (rowOf_len _ _) SA2.out.2 SB.out.2
    rw [VVA.out, VVB.out] at N1
    have HN1 := Lib.hid N1
    clear N1
    go_wp2_with fail
    refine (HN1.out).mono ?_
    rintro e w12 ⟨rm, c3, rfl, ox, mx, ccx, g'⟩
    have HSF3 := Lib.hid (Canon.sf_grown HSF2.out g' (fun q hq => by
      obtain rfl : q = _ := List.mem_singleton.mp hq
      have := SC.out
      simp; omega))
    have PA := Lib.hid (PA2.out.growng g' SC.out.1)
    have PB := Lib.hid (PB2.out.growng g' SC.out.2)
    have WV := Lib.hid ((WV2.out.growng g' HGM.out).add ox G2.out.size)
    have M := Lib.hid mx
    have G := Lib.hid (gb_trans G2.out g')
    have CD3 := Lib.hid ccx
    clear ox mx ccx g' HN1 PA2 PB2 WV2 M2 G2 HSF2 SA2 SB VVA VVB
    go_wp2
    refine ⟨HSF3.out, ?_⟩
    refine Canon.segs_end _ _ _ (by kernel_rfl) ?_
    go_wp2
    refine ⟨by kernel_rfl, by kernel_rfl, by kernel_rfl, ?_⟩
    clear HSF3
    go_wp2
    have HSF := Lib.hid (show Canon.SF [(_, _)] _ from Canon.sf_cons (PB.out.c3.cell 0 rfl) (Canon.sf_nil _))
    have a0 := PA.out.c3.cell 0 rfl
    have b0 := PB.out.c3.cell 0 rfl
    refine Canon.region_held [118] _ (by kernel_rfl) (by kernel_rfl) HSF.out ?_
    refine Canon.segs_at 5 _ _ _ (by kernel_rfl) ?_
    simp only [List.take_succ_cons, List.take_zero, List.drop_succ_cons, List.drop_zero]
    obtain ⟨za, sa, la, va⟩ := (WV.out.drew.at 3 rfl).get (LA.out.l2)
    have HTW := Lib.hid (twide_c _ _ za H sa (by omega))
    have VVA : Hid (val B64 (rowOf (trimZ za) H) = _) := Lib.hid ((val_rowOf_all (Nat.le_trans (trimZ_len za) la)).trans ((val_trimZ _ _).trans va))
    clear sa la va
    go_wp2_with fail
    refine (HTW.out).mono ?_
    rintro e w13 ⟨ga, rfl, oa, g'⟩
    have HSF1 := Lib.hid (Canon.sf_grown0 HSF.out.drew g')
    have SA := Lib.hid (And.intro oa.sl (oa.offg (HGM2.out (gb_drew G.out))))
    have PA1 := Lib.hid (PA.out.drew.grown0 g')
    have PB1 := Lib.hid (PB.out.drew.grown0 g')
    have WV1 := Lib.hid (WV.out.drew.grown0 g')
    have M1 := Lib.hid (M.out.drew.grown g')
    have G1 := Lib.hid (gb_trans (gb_drew G.out) (gb_none g' (some gm)))
    clear oa g' a0 HTW PA PB WV M G HSF
    go_wp2
    refine ⟨HSF1.out, ?_⟩
    refine Canon.segs_at 4 _ _ _ (by kernel_rfl) ?_
    simp only [List.take_succ_cons, List.take_zero, List.drop_succ_cons, List.drop_zero]
    clear b0
    have b0 := PB1.out.c3.cell 0 rfl
    obtain ⟨zb, sb, lb, vb⟩ := (WV1.out.at 8 rfl).get (LB.out.l2)
    have HTW := Lib.hid (twide_c _ _ zb H sb (by omega))
    have VVB : Hid (val B64 (rowOf (trimZ zb) H) = _) := Lib.hid ((val_rowOf_all (Nat.le_trans (trimZ_len zb) lb)).trans ((val_trimZ _ _).trans vb))
    clear sb lb vb
    go_wp2_with fail
    refine (HTW.out).mono ?_
    rintro e w14 ⟨gb, rfl, ob, g'⟩
    have HSF2 := Lib.hid (Canon.sf_grown0 HSF1.out g')
    have SB := Lib.hid (And.intro ob.sl (ob.offg (HGM2.out G1.out)))
    have SA2 := Lib.hid (And.intro (SA.out.1.grown0 g') SA.out.2)
    have PA2 := Lib.hid (PA1.out.grown0 g')
    have PB2 := Lib.hid (PB1.out.grown0 g')
    have WV2 := Lib.hid (WV1.out.grown0 g')
    have M2 := Lib.hid (M1.out.grown g')
    have G2 := Lib.hid (gb_trans G1.out (gb_none g' (some gm)))
    clear ob g' b0 HTW PA1 PB1 WV1 M1 G1 HSF1 SA
    go_wp2
    refine ⟨HSF2.out, ?_⟩
    refine Canon.segs_at 0 _ _ _ (by kernel_rfl) ?_
    simp only [List.take_succ_cons, List.take_zero, List.drop_succ_cons, List.drop_zero]
    have N1 := HI2.out _ _ _ _ _ _ _ G2.out M2.out CD3.out.1 (by omega) SA2.out.1 SB.out.1 (rowOf_len _ _) (rowOf_len _ _) SA2.out.2 SB.out.2
    rw [VVA.out, VVB.out] at N1
    have HN1 := Lib.hid N1
    clear N1
    go_wp2_with fail
    refine (HN1.out).mono ?_
    rintro e w15 ⟨r2, c4, rfl, ox, mx, ccx, g'⟩
    have HSF3 := Lib.hid (Canon.sf_grown HSF2.out g' (fun q hq => by
      obtain rfl : q = _ := List.mem_singleton.mp hq
      have := SC.out
      simp; omega))
    have PA := Lib.hid (PA2.out.growng g' SC.out.1)
    have PB := Lib.hid (PB2.out.growng g' SC.out.2)
    have WV := Lib.hid ((WV2.out.growng g' HGM.out).add ox G2.out.size)
    have M := Lib.hid mx
    have G := Lib.hid (gb_trans G2.out g')
    have CD4 := Lib.hid ccx
    clear ox mx ccx g' HN1 PA2 PB2 WV2 M2 G2 HSF2 SA2 SB VVA VVB
    go_wp2
    refine ⟨HSF3.out, ?_⟩
    refine Canon.segs_end _ _ _ (by kernel_rfl) ?_
    go_wp2
    refine ⟨by kernel_rfl, by kernel_rfl, by kernel_rfl, ?_⟩
    clear HSF3
    clear HI2
    go_wp2
    have HSF := Lib.hid (show Canon.SF [(_, _)] _ from Canon.sf_cons (PB.out.c4.cell 0 rfl) (Canon.sf_nil _))
    have a0 := PA.out.c4.cell 0 rfl
    have b0 := PB.out.c4.cell 0 rfl
    refine Canon.region_held [132] _ (by kernel_rfl) (by kernel_rfl) HSF.out ?_
    refine Canon.segs_at 7 _ _ _ (by kernel_rfl) ?_
    simp only [List.take_succ_cons, List.take_zero, List.drop_succ_cons, List.drop_zero]
    obtain ⟨za, sa, la, va⟩ := (WV.out.drew.at 4 rfl).get (LA.out.li)
    have HTW := Lib.hid (twide_c _ _ za p sa (by omega))
    have VVA : Hid (val B64 (rowOf (trimZ za) p) = _) := Lib.hid ((val_rowOf_all (Nat.le_trans (trimZ_len za) la)).trans ((val_trimZ _ _).trans va))
    clear sa la va
    go_wp2_with fail
    refine (HTW.out).mono ?_
    rintro e w16 ⟨ga, rfl, oa, g'⟩
    have HSF1 := Lib.hid (Canon.sf_grown0 HSF.out.drew g')
    have SA := Lib.hid (And.intro oa.sl (oa.offg (HGM2.out (gb_drew G.out))))
    have PA1 := Lib.hid (PA.out.drew.grown0 g')
    have PB1 := Lib.hid (PB.out.drew.grown0 g')
    have WV1 := Lib.hid (WV.out.drew.grown0 g')
    have M1 := Lib.hid (M.out.drew.grown g')
    have G1 := Lib.hid (gb_trans (gb_drew G.out) (gb_none g' (some gm)))
    clear oa g' a0 HTW PA PB WV M G HSF
    go_wp2
    refine ⟨HSF1.out, ?_⟩
    refine Canon.segs_at 6 _ _ _ (by kernel_rfl) ?_
    simp only [List.take_succ_cons, List.take_zero, List.drop_succ_cons, List.drop_zero]
    clear b0
    have b0 := PB1.out.c4.cell 0 rfl
    obtain ⟨zb, sb, lb, vb⟩ := (WV1.out.at 9 rfl).get (LB.out.li)
    have HTW := Lib.hid (twide_c _ _ zb q sb (by omega))
    have VVB : Hid (val B64 (rowOf (trimZ zb) q) = _) := Lib.hid ((val_rowOf_all (Nat.le_trans (trimZ_len zb) lb)).trans ((val_trimZ _ _).trans vb))
    clear sb lb vb
    go_wp2_with fail
    refine (HTW.out).mono ?_
    rintro e w17 ⟨gb, rfl, ob, g'⟩
    have HSF2 := Lib.hid (Canon.sf_grown0 HSF1.out g')
    have SB := Lib.hid (And.intro ob.sl (ob.offg (HGM2.out G1.out)))
    have SA2 := Lib.hid (And.intro (SA.out.1.grown0 g') SA.out.2)
    have PA2 := Lib.hid (PA1.out.grown0 g')
    have PB2 := Lib.hid (PB1.out.grown0 g')
    have WV2 := Lib.hid (WV1.out.grown0 g')
    have M2 := Lib.hid (M1.out.grown g')
    have G2 := Lib.hid (gb_trans G1.out (gb_none g' (some gm)))
    clear ob g' b0 HTW PA1 PB1 WV1 M1 G1 HSF1 SA
    go_wp2
    refine ⟨HSF2.out, ?_⟩
    refine Canon.segs_at 0 _ _ _ (by kernel_rfl) ?_
    simp only [List.take_succ_cons, List.take_zero, List.drop_succ_cons, List.drop_zero]
    have N1 := HI3.out _ _ _ _ _ _ _ G2.out M2.out CD4.out.1 (by omega) SA2.out.1 SB.out.1 (rowOf_len _ _) (rowOf_len _ _) SA2.out.2 SB.out.2
    rw [VVA.out, VVB.out] at N1
    have HN1 := Lib.hid N1
    clear N1
    go_wp2_with fail
    refine (HN1.out).mono ?_
    rintro e w18 ⟨ri, c5, rfl, ox, mx, ccx, g'⟩
    have HSF3 := Lib.hid (Canon.sf_grown HSF2.out g' (fun q hq => by
      obtain rfl : q = _ := List.mem_singleton.mp hq
      have := SC.out
      simp; omega))
    have PA := Lib.hid (PA2.out.growng g' SC.out.1)
    have PB := Lib.hid (PB2.out.growng g' SC.out.2)
    have WV := Lib.hid ((WV2.out.growng g' HGM.out).add ox G2.out.size)
    have M := Lib.hid mx
    have G := Lib.hid (gb_trans G2.out g')
    have CD5 := Lib.hid ccx
    clear ox mx ccx g' HN1 PA2 PB2 WV2 M2 G2 HSF2 SA2 SB VVA VVB
    go_wp2
    refine ⟨HSF3.out, ?_⟩
    refine Canon.segs_end _ _ _ (by kernel_rfl) ?_
    go_wp2
    refine ⟨by kernel_rfl, by kernel_rfl, by kernel_rfl, ?_⟩
    clear HSF3
    have SCC := SC
    clear HI3 ent
    have ES : a + (k1 : Int) + (k2 : Int) + (k2 : Int) + (k2 : Int) + (k3 : Int) = a + ((k1 + k2 + k2 + k2 + k3 : Nat) : Int) := by omega
    have m' := M.out
    rw [ES] at m'
    have LV := leave_c w18 gm _ _ c5 m' (by omega)
    have eb : (if b + 1 > 0 then b + 1 - 1 else 0) = b := by split <;> omega
    rw [eb] at LV
    have HLV := Lib.hid LV
    clear LV m' M eb ES hc1 hc2 hc3
    have hc1 := gb_cell G.out HC.out.1 (by have := HN.out.1; simpa using this)
    have hc2 := gb_cell G.out HC.out.2.1 (by have := HN.out.2.1; simpa using this)
    have hc3 := gb_cell G.out HC.out.2.2 (by have := HN.out.2.2; simpa using this)
    go_wp2_with fail
    refine (HLV.out).mono ?_
    rintro e w19 ⟨rfl, m19, mo⟩
    have M19 := Lib.hid m19
    have G19 := Lib.hid (gb_trans G.out mo.gb)
    have BG : Hid (gm < w2.heap.size ∧ gm < w3.heap.size) := SCC
    have PA19 := Lib.hid (PA.out.growng mo.gb BG.out.1)
    have PB19 := Lib.hid (PB.out.growng mo.gb BG.out.2)
    have WV19 := Lib.hid (WV.out.growng mo.gb HGM.out)
    clear m19 mo HLV G PA PB WV hc1 hc2 hc3
    obtain ⟨z0, s0, q0, v0⟩ := (WV19.out.at 10 rfl).get (mul_lt_pow LA.out.l0 LB.out.l0)
    obtain ⟨z1, s1, q1, v1⟩ := (WV19.out.at 11 rfl).get (mul_lt_pow LA.out.l1 LB.out.l1)
    obtain ⟨zm, sm, qm, vm⟩ := (WV19.out.at 12 rfl).get (mul_lt_pow LA.out.lm LB.out.lm)
    obtain ⟨z2, s2, q2, v2⟩ := (WV19.out.at 13 rfl).get (mul_lt_pow LA.out.l2 LB.out.l2)
    obtain ⟨zi, si, qi, vi⟩ := (WV19.out.at 14 rfl).get (mul_lt_pow LA.out.li LB.out.li)
    have TT := tj_of (V0 := V0) (V1 := V1) (V2 := V2) (U0 := U0) (U1 := U1) (U2 := U2) (M := K + 1 + (K + 1) + 1) (by
      have t1 := LA.out
      have t2 := LB.out
      rw [HH.out] at t1 t2
      exact t1.both t2) (by omega)
    rw [← HNA.out, ← HNB.out, ← v0, ← v1, ← vm, ← v2, ← vi] at TT
    have JN := tjoined_c w19 K r0 r1 rm r2 ri z0 z1 zm z2 zi _ _ _ _ _ _ _ s0 s1 sm s2 si (by omega) (by omega) TT
    have eP : B64 ^ (2 * K) = B64 ^ K * B64 ^ K ∧ B64 ^ (3 * K) = B64 ^ K * B64 ^ K * B64 ^ K ∧ B64 ^ (4 * K) = B64 ^ K * B64 ^ K * B64 ^ K * B64 ^ K := by
      refine ⟨?_, ?_, ?_⟩
      · rw [Nat.two_mul, Nat.pow_add]
      · rw [show 3 * K = K + K + K by omega, Nat.pow_add, Nat.pow_add]
      · rw [show 4 * K = K + K + K + K by omega, Nat.pow_add, Nat.pow_add, Nat.pow_add]
    rw [eP.1, eP.2.1, eP.2.2, v0, vi, ← toom_val, ← VA.out, ← VB.out] at JN
    have HJN := Lib.hid JN
    have n0 := PA19.out.c2.cell 1 rfl
    have n1 := PB19.out.c2.cell 1 rfl
    clear JN TT eP s0 q0 v0 s1 q1 v1 sm qm vm s2 q2 v2 si qi vi WV19 PA19 PB19
    go_wp2_with fail
    refine (HJN.out).mono ?_
    rintro e w20 ⟨x, rfl, o20, g20⟩
    have KK : Hid (Wo w20 w.heap.size x (val B64 al * val B64 bl) ∧ Mt w20 gm (a + ((k1 + k2 + k2 + k2 + k3 : Nat) : Int)) b c5 ∧ w.grownBy w20 (some gm)) := Lib.hid
      ⟨o20.mono G19.out.size, M19.out.grown g20, gb_trans G19.out (gb_none g20 (some gm))⟩
    have CC : Hid (c5.T = T ∧ c.v ≤ c5.v ∧ (c5.v ≤ c.v ∨ c5.v ≤ b + (1 + d))) := Lib.hid (by
      have t1 := CD1.out
      have t2 := CD2.out
      have t3 := CD3.out
      have t3' := CD4.out
      have t3'' := CD5.out
      have t4 : (c.up (b + 1)).v = if b + 1 > c.v then b + 1 else c.v := rfl
      refine ⟨t3''.1, ?_⟩
      split at t4 <;> omega)
    clear o20 g20 HJN
    go_wp2
    go_ret2
    exact ⟨x, c5, rfl, by first | exact KK.out.1 | (rw [Nat.mul_comm]; exact KK.out.1), KK.out.2.1, CC.out, KK.out.2.2⟩
end Go.Proofs.YtldkiddoajlohaaGreatDoor

/- Squares in three pieces: ToomSqr. -/
namespace Go.Proofs.YtldkiddoajlohaaGreatDoor
open Go.RowKit

set_option maxRecDepth 100000 in
set_option maxHeartbeats 8000000 in
theorem toomSqr_c (w : World) (g1 g2 g3 gm fk : Nat) (fs : Array Value) (a b d : Int) (c : Mc) (T : Nat → Option Value) (va : Value) (al : List Int) (k1 k2 k3 : Nat) (hc1 : w.cell? ⟨g1, 0, none⟩ = some (.pointer (some ⟨g2, 0, none⟩))) (hc2 : w.cell? ⟨g2, 0, none⟩ = some (.pointer (some ⟨g3, 0, none⟩))) (hc3 : w.cell? ⟨g3, 0, none⟩ = some (.pointer (some ⟨gm, 0, none⟩)))
    (hm : Mt w gm a b c) (hT : c.T = T) (hd : 0 ≤ d) (hb1 : b ≤ 1000000) (ha0 : a + ((k1 + k2 + k2 + k2 + k3 : Nat) : Int) ≤ 1000000000000000) (ha : Sl w va al) (hna : Off va gm) (hl : al.length ≤ 16384)
    (hx : 2 * ((al.length + 2) / 3) < al.length)
    (ent : ∀ args w, (callFunc fk args).run Tryz.prog w = .ok (.enter fk args) w)
    (i1 : InS w gm fk fs (b + 1) T ((al.length + 2) / 3) k1 d)
    (i2 : InS w gm fk fs (b + 1) T ((al.length + 2) / 3 + 1) k2 d)
    (i3 : InS w gm fk fs (b + 1) T (al.length - 2 * ((al.length + 2) / 3)) k3 d) :
    Calls Tryz.prog 65 #[.pointer (some ⟨g1, 0, none⟩), va, .func (.func fk) fs #[]] w fun e w' => ∃ x c', e = .returned (.tuple #[x, .bool true]) ∧ Wo w' w.heap.size x (val B64 al * val B64 al) ∧ Mt w' gm (a + ((k1 + k2 + k2 + k2 + k3 : Nat) : Int)) b c' ∧
      (c'.T = T ∧ c.v ≤ c'.v ∧ (c'.v ≤ c.v ∨ c'.v ≤ b + (1 + d))) ∧ w.grownBy w' (some gm) := by
  have hgm : gm < w.heap.size := World.block_lt_of_cell? w _ hm.c0
  have n1 : g1 ≠ gm := Md.ptr_ne hc1 hm
  have n2 : g2 ≠ gm := Md.ptr_ne hc2 hm
  have n3 : g3 ≠ gm := Md.ptr_ne hc3 hm
  obtain ⟨A, ca, rfl, hca, _⟩ := ha.form
  have EN := enter_c w gm a b c hm (by omega)
  have b0 := hm.b0
  have a0' := hm.a0
  have HEN := Lib.hid EN
  have HGM := Lib.hid hgm
  have HN := Lib.hid (And.intro n1 (And.intro n2 n3))
  have HT := Lib.hid hT
  have WA := Lib.hid ha.ws
  have HC := Lib.hid (And.intro hc1 (And.intro hc2 hc3))
  clear EN hm hgm n1 n2 n3 hT
  obtain ⟨n, hn⟩ : ∃ n, n = al.length := ⟨_, rfl⟩
  rw [← hn] at hx i1 i2 i3
  rw [← hn] at ha hna hl hca ⊢
  have HNL := Lib.hid hn
  have R0 := Lib.hid ((Rw.nil w gm).add ha hna)
  clear ha hna hn
  obtain ⟨K, hK⟩ : ∃ q, q = (n + 2) / 3 := ⟨_, rfl⟩
  obtain ⟨K2, hK2⟩ : ∃ q, q = 2 * K := ⟨_, rfl⟩
  obtain ⟨p, hp⟩ : ∃ q, q = n - K2 := ⟨_, rfl⟩
  have e1 : ((n : Int) + 2) / 3 = (K : Int) := by omega
  have e2 : 2 * (K : Int) = (K2 : Int) := by omega
  have e3 : (n : Int) - (K2 : Int) = (p : Int) := by omega
  obtain ⟨H, hH⟩ : ∃ H, H = K + 1 := ⟨_, rfl⟩
  have e4 : (K : Int) + 1 = (H : Int) := by omega
  rw [← hK, ← hH] at i2
  have HH := Lib.hid hH
  rw [← hK, ← hK2] at hx
  have hmh : ¬ (n : Int) ≤ (K2 : Int) := by omega
  rw [← hK] at i1
  rw [← hK, ← hK2, ← hp] at i3
  have HI1 := Lib.hid i1
  have HI2 := Lib.hid i2
  have HI3 := Lib.hid i3
  have EE : Hid (K2 = 2 * K ∧ p = n - K2 ∧ p ≤ K ∧ 1 ≤ K) := Lib.hid (by omega)
  have bh : K ≤ 8192 ∧ p ≤ 8192 ∧ H ≤ 8193 ∧ K2 ≤ 16384 := by omega
  clear hK hK2 hp hH i1 i2 i3 hx
  go_enter Tryz.func65, Tryz.ntmps65
  go_wp2_with fail
  refine (HEN.out).mono ?_
  rintro e w1 ⟨rfl, m1, mo⟩
  have M1 := Lib.hid m1
  have G1 := Lib.hid mo.gb
  have R1 := Lib.hid (R0.out.grown mo.gb)
  clear m1 mo HEN R0
  have HP := Lib.hid (points_c w1 _ al K (R1.out.at 0 rfl) (by have := HNL.out; omega) EE.out.2.2.2 (by omega))
  go_wp2_with fail
  refine (HP.out).mono ?_
  rintro e w2 ⟨x0, x1, xm, x2, xi, V0, V1, V2, rfl, vv, l0, l1, l2, o0, o1, om, o2, oi, g2'⟩
  obtain ⟨F0, n0, f0, rfl⟩ := o0.form
  obtain ⟨F1, n1, f1, rfl⟩ := o1.form
  obtain ⟨Fm, nm, fm, rfl⟩ := om.form
  obtain ⟨F2, n2', f2, rfl⟩ := o2.form
  obtain ⟨Fi, ni, fi, rfl⟩ := oi.form
  obtain ⟨na, hna⟩ : ∃ z, z = decide (V0 + V2 < V1) := ⟨_, rfl⟩
  rw [← hna]
  have HNA := Lib.hid hna
  have B1 : Hid (gm < w1.heap.size ∧ w.heap.size ≤ w1.heap.size) := Lib.hid ⟨Nat.lt_of_lt_of_le HGM.out G1.out.size, G1.out.size⟩
  rw [← HNL.out, ← EE.out.1, ← EE.out.2.1] at l2
  have LA := Lib.hid (Lm.of l0 l1 l2 EE.out.2.2.1)
  rw [← HH.out] at LA
  have VA := Lib.hid vv
  have GG2 := gb_trans g2' (made5_g w2 103 (.slice F0 n0 f0) (.slice F1 n1 f1) (.slice Fm nm fm) (.slice F2 n2' f2) (.slice Fi ni fi) (.bool na))
  have PA2 := Lib.hid (made5_p w2 103 (.slice F0 n0 f0) (.slice F1 n1 f1) (.slice Fm nm fm) (.slice F2 n2' f2) (.slice Fi ni fi) (.bool na))
  have WV2 := Lib.hid ((((((Wv.nil w2 w.heap.size).add o0 B1.out.2).add o1 B1.out.2).add om B1.out.2).add o2 B1.out.2).add oi B1.out.2 |>.grown0 (made5_g w2 103 (.slice F0 n0 f0) (.slice F1 n1 f1) (.slice Fm nm fm) (.slice F2 n2' f2) (.slice Fi ni fi) (.bool na)))
  have M2 := Lib.hid (M1.out.grown GG2)
  have G2 := Lib.hid (gb_trans G1.out (gb_none GG2 (some gm)))
  have SC : Hid (gm < w2.heap.size) := Lib.hid (Nat.lt_of_lt_of_le B1.out.1 g2'.size)
  clear o0 o1 om o2 oi g2' GG2 vv l0 l1 l2 hna HP R1 M1 G1 B1
  have HGM2 : Hid (∀ {W : World}, w.grownBy W (some gm) → gm < W.heap.size) := Lib.hid (fun g => Nat.lt_of_lt_of_le HGM.out g.size)
  have G := G2
  have PA := PA2
  have WV := WV2
  have M := M2
  clear G2 PA2 WV2 M2
  have a0 := PA.out.c0.cell 0 rfl
  obtain ⟨za, sa, la, va⟩ := (WV.out.at 0 rfl).get (LA.out.l0)
  have HTW := Lib.hid (twide_c _ _ za K sa (by omega))
  have VVA : Hid (val B64 (rowOf (trimZ za) K) = _) := Lib.hid ((val_rowOf_all (Nat.le_trans (trimZ_len za) la)).trans ((val_trimZ _ _).trans va))
  clear sa la va
  go_wp2_with fail
  refine (HTW.out).mono ?_
  rintro e w5 ⟨ga, rfl, oa, g'⟩
  have SA := Lib.hid (And.intro oa.sl (oa.offg (HGM2.out G.out)))
  have PA1 := Lib.hid (PA.out.grown0 g')
  have WV1 := Lib.hid (WV.out.grown0 g')
  have M1 := Lib.hid (M.out.grown g')
  have G1 := Lib.hid (gb_trans G.out (gb_none g' (some gm)))
  clear oa g' a0 HTW PA WV M G
  have N1 := HI1.out _ _ _ _ _ G1.out M1.out HT.out (by omega) SA.out.1 (rowOf_len _ _) SA.out.2
  rw [VVA.out] at N1
  have HN1 := Lib.hid N1
  clear N1
  go_wp2_with fail
  refine (HN1.out).mono ?_
  rintro e w6 ⟨r0, c1, rfl, ox, mx, ccx, g'⟩
  have PA := Lib.hid (PA1.out.growng g' SC.out)
  have WV := Lib.hid ((WV1.out.growng g' HGM.out).add ox G1.out.size)
  have M := Lib.hid mx
  have G := Lib.hid (gb_trans G1.out g')
  have CD1 := Lib.hid ccx
  clear ox mx ccx g' HN1 PA1 WV1 M1 G1 SA VVA
  clear HI1
  have a0 := PA.out.c1.cell 0 rfl
  obtain ⟨za, sa, la, va⟩ := (WV.out.at 1 rfl).get (LA.out.l1)
  have HTW := Lib.hid (twide_c _ _ za H sa (by omega))
  have VVA : Hid (val B64 (rowOf (trimZ za) H) = _) := Lib.hid ((val_rowOf_all (Nat.le_trans (trimZ_len za) la)).trans ((val_trimZ _ _).trans va))
  clear sa la va
  go_wp2_with fail
  refine (HTW.out).mono ?_
  rintro e w8 ⟨ga, rfl, oa, g'⟩
  have SA := Lib.hid (And.intro oa.sl (oa.offg (HGM2.out G.out)))
  have PA1 := Lib.hid (PA.out.grown0 g')
  have WV1 := Lib.hid (WV.out.grown0 g')
  have M1 := Lib.hid (M.out.grown g')
  have G1 := Lib.hid (gb_trans G.out (gb_none g' (some gm)))
  clear oa g' a0 HTW PA WV M G
  have N1 := HI2.out _ _ _ _ _ G1.out M1.out CD1.out.1 (by omega) SA.out.1 (rowOf_len _ _) SA.out.2
  rw [VVA.out] at N1
  have HN1 := Lib.hid N1
  clear N1
  go_wp2_with fail
  refine (HN1.out).mono ?_
  rintro e w9 ⟨r1, c2, rfl, ox, mx, ccx, g'⟩
  have PA := Lib.hid (PA1.out.growng g' SC.out)
  have WV := Lib.hid ((WV1.out.growng g' HGM.out).add ox G1.out.size)
  have M := Lib.hid mx
  have G := Lib.hid (gb_trans G1.out g')
  have CD2 := Lib.hid ccx
  clear ox mx ccx g' HN1 PA1 WV1 M1 G1 SA VVA
  have a0 := PA.out.c2.cell 0 rfl
  obtain ⟨za, sa, la, va⟩ := (WV.out.at 2 rfl).get (LA.out.lm)
  have HTW := Lib.hid (twide_c _ _ za H sa (by omega))
  have VVA : Hid (val B64 (rowOf (trimZ za) H) = _) := Lib.hid ((val_rowOf_all (Nat.le_trans (trimZ_len za) la)).trans ((val_trimZ _ _).trans va))
  clear sa la va
  go_wp2_with fail
  refine (HTW.out).mono ?_
  rintro e w11 ⟨ga, rfl, oa, g'⟩
  have SA := Lib.hid (And.intro oa.sl (oa.offg (HGM2.out G.out)))
  have PA1 := Lib.hid (PA.out.grown0 g')
  have WV1 := Lib.hid (WV.out.grown0 g')
  have M1 := Lib.hid (M.out.grown g')
  have G1 := Lib.hid (gb_trans G.out (gb_none g' (some gm)))
  clear oa g' a0 HTW PA WV M G
  have N1 := HI2.out _ _ _ _ _ G1.out M1.out CD2.out.1 (by omega) SA.out.1 (rowOf_len _ _) SA.out.2
  rw [VVA.out] at N1
  have HN1 := Lib.hid N1
  clear N1
  go_wp2_with fail
  refine (HN1.out).mono ?_
  rintro e w12 ⟨rm, c3, rfl, ox, mx, ccx, g'⟩
  have PA := Lib.hid (PA1.out.growng g' SC.out)
  have WV := Lib.hid ((WV1.out.growng g' HGM.out).add ox G1.out.size)
  have M := Lib.hid mx
  have G := Lib.hid (gb_trans G1.out g')
  have CD3 := Lib.hid ccx
  clear ox mx ccx g' HN1 PA1 WV1 M1 G1 SA VVA
  have a0 := PA.out.c3.cell 0 rfl
  obtain ⟨za, sa, la, va⟩ := (WV.out.at 3 rfl).get (LA.out.l2)
  have HTW := Lib.hid (twide_c _ _ za H sa (by omega))
  have VVA : Hid (val B64 (rowOf (trimZ za) H) = _) := Lib.hid ((val_rowOf_all (Nat.le_trans (trimZ_len za) la)).trans ((val_trimZ _ _).trans va))
  clear sa la va
  go_wp2_with fail
  refine (HTW.out).mono ?_
  rintro e w14 ⟨ga, rfl, oa, g'⟩
  have SA := Lib.hid (And.intro oa.sl (oa.offg (HGM2.out G.out)))
  have PA1 := Lib.hid (PA.out.grown0 g')
  have WV1 := Lib.hid (WV.out.grown0 g')
  have M1 := Lib.hid (M.out.grown g')
  have G1 := Lib.hid (gb_trans G.out (gb_none g' (some gm)))
  clear oa g' a0 HTW PA WV M G
  have N1 := HI2.out _ _ _ _ _ G1.out M1.out CD3.out.1 (by omega) SA.out.1 (rowOf_len _ _) SA.out.2
  rw [VVA.out] at N1
  have HN1 := Lib.hid N1
  clear N1
  go_wp2_with fail
  refine (HN1.out).mono ?_
  rintro e w15 ⟨r2, c4, rfl, ox, mx, ccx, g'⟩
  have PA := Lib.hid (PA1.out.growng g' SC.out)
  have WV := Lib.hid ((WV1.out.growng g' HGM.out).add ox G1.out.size)
  have M := Lib.hid mx
  have G := Lib.hid (gb_trans G1.out g')
  have CD4 := Lib.hid ccx
  clear ox mx ccx g' HN1 PA1 WV1 M1 G1 SA VVA
  clear HI2
  have a0 := PA.out.c4.cell 0 rfl
  obtain ⟨za, sa, la, va⟩ := (WV.out.at 4 rfl).get (LA.out.li)
  have HTW := Lib.hid (twide_c _ _ za p sa (by omega))
  have VVA : Hid (val B64 (rowOf (trimZ za) p) = _) := Lib.hid ((val_rowOf_all (Nat.le_trans (trimZ_len za) la)).trans ((val_trimZ _ _).trans va))
  clear sa la va
  go_wp2_with fail
  refine (HTW.out).mono ?_
  rintro e w17 ⟨ga, rfl, oa, g'⟩
  have SA := Lib.hid (And.intro oa.sl (oa.offg (HGM2.out G.out)))
  have PA1 := Lib.hid (PA.out.grown0 g')
  have WV1 := Lib.hid (WV.out.grown0 g')
  have M1 := Lib.hid (M.out.grown g')
  have G1 := Lib.hid (gb_trans G.out (gb_none g' (some gm)))
  clear oa g' a0 HTW PA WV M G
  have N1 := HI3.out _ _ _ _ _ G1.out M1.out CD4.out.1 (by omega) SA.out.1 (rowOf_len _ _) SA.out.2
  rw [VVA.out] at N1
  have HN1 := Lib.hid N1
  clear N1
  go_wp2_with fail
  refine (HN1.out).mono ?_
  rintro e w18 ⟨ri, c5, rfl, ox, mx, ccx, g'⟩
  have PA := Lib.hid (PA1.out.growng g' SC.out)
  have WV := Lib.hid ((WV1.out.growng g' HGM.out).add ox G1.out.size)
  have M := Lib.hid mx
  have G := Lib.hid (gb_trans G1.out g')
  have CD5 := Lib.hid ccx
  clear ox mx ccx g' HN1 PA1 WV1 M1 G1 SA VVA
  clear HI3 ent
  have ES : a + (k1 : Int) + (k2 : Int) + (k2 : Int) + (k2 : Int) + (k3 : Int) = a + ((k1 + k2 + k2 + k2 + k3 : Nat) : Int) := by omega
  have m' := M.out
  rw [ES] at m'
  have LV := leave_c w18 gm _ _ c5 m' (by omega)
  have eb : (if b + 1 > 0 then b + 1 - 1 else 0) = b := by split <;> omega
  rw [eb] at LV
  have HLV := Lib.hid LV
  clear LV m' M eb ES hc1 hc2 hc3
  have hc1 := gb_cell G.out HC.out.1 (by have := HN.out.1; simpa using this)
  have hc2 := gb_cell G.out HC.out.2.1 (by have := HN.out.2.1; simpa using this)
  have hc3 := gb_cell G.out HC.out.2.2 (by have := HN.out.2.2; simpa using this)
  go_wp2_with fail
  refine (HLV.out).mono ?_
  rintro e w19 ⟨rfl, m19, mo⟩
  have M19 := Lib.hid m19
  have G19 := Lib.hid (gb_trans G.out mo.gb)
  have WV19 := Lib.hid (WV.out.growng mo.gb HGM.out)
  clear m19 mo HLV G PA WV hc1 hc2 hc3
  obtain ⟨z0, s0, q0, v0⟩ := (WV19.out.at 5 rfl).get (mul_lt_pow LA.out.l0 LA.out.l0)
  obtain ⟨z1, s1, q1, v1⟩ := (WV19.out.at 6 rfl).get (mul_lt_pow LA.out.l1 LA.out.l1)
  obtain ⟨zm, sm, qm, vm⟩ := (WV19.out.at 7 rfl).get (mul_lt_pow LA.out.lm LA.out.lm)
  obtain ⟨z2, s2, q2, v2⟩ := (WV19.out.at 8 rfl).get (mul_lt_pow LA.out.l2 LA.out.l2)
  obtain ⟨zi, si, qi, vi⟩ := (WV19.out.at 9 rfl).get (mul_lt_pow LA.out.li LA.out.li)
  have TT := tj_of (V0 := V0) (V1 := V1) (V2 := V2) (U0 := V0) (U1 := V1) (U2 := V2) (M := K + 1 + (K + 1) + 1) (by
    have t1 := LA.out
    rw [HH.out] at t1
    exact t1.both t1) (by omega)
  rw [bne_self_eq_false, ← v0, ← v1, ← vm, ← v2, ← vi] at TT
  have JN := tjoined_c w19 K r0 r1 rm r2 ri z0 z1 zm z2 zi _ _ _ _ _ _ _ s0 s1 sm s2 si (by omega) (by omega) TT
  have eP : B64 ^ (2 * K) = B64 ^ K * B64 ^ K ∧ B64 ^ (3 * K) = B64 ^ K * B64 ^ K * B64 ^ K ∧ B64 ^ (4 * K) = B64 ^ K * B64 ^ K * B64 ^ K * B64 ^ K := by
    refine ⟨?_, ?_, ?_⟩
    · rw [Nat.two_mul, Nat.pow_add]
    · rw [show 3 * K = K + K + K by omega, Nat.pow_add, Nat.pow_add]
    · rw [show 4 * K = K + K + K + K by omega, Nat.pow_add, Nat.pow_add, Nat.pow_add]
  rw [eP.1, eP.2.1, eP.2.2, v0, vi, ← toom_val, ← VA.out] at JN
  have HJN := Lib.hid JN
  clear JN TT eP s0 q0 v0 s1 q1 v1 sm qm vm s2 q2 v2 si qi vi WV19
  go_wp2_with fail
  refine (HJN.out).mono ?_
  rintro e w20 ⟨x, rfl, o20, g20⟩
  have KK : Hid (Wo w20 w.heap.size x (val B64 al * val B64 al) ∧ Mt w20 gm (a + ((k1 + k2 + k2 + k2 + k3 : Nat) : Int)) b c5 ∧ w.grownBy w20 (some gm)) := Lib.hid
    ⟨o20.mono G19.out.size, M19.out.grown g20, gb_trans G19.out (gb_none g20 (some gm))⟩
  have CC : Hid (c5.T = T ∧ c.v ≤ c5.v ∧ (c5.v ≤ c.v ∨ c5.v ≤ b + (1 + d))) := Lib.hid (by
    have t1 := CD1.out
    have t2 := CD2.out
    have t3 := CD3.out
    have t3' := CD4.out
    have t3'' := CD5.out
    have t4 : (c.up (b + 1)).v = if b + 1 > c.v then b + 1 else c.v := rfl
    refine ⟨t3''.1, ?_⟩
    split at t4 <;> omega)
  clear o20 g20 HJN
  go_wp2
  go_ret2
  exact ⟨x, c5, rfl, KK.out.1, KK.out.2.1, CC.out, KK.out.2.2⟩
end Go.Proofs.YtldkiddoajlohaaGreatDoor

/- Tables: entries within their ranges, routes. -/
namespace Go.Proofs.YtldkiddoajlohaaGreatDoor
open Go.RowKit

def clampI (l m n : Int) : Int := if n < l then l else if m < n then m else n
theorem clampI_ge {l m n : Int} (h : l ≤ m) : l ≤ clampI l m n := by unfold clampI; split <;> (try split) <;> omega
theorem clampI_le {l m n : Int} (h : l ≤ m) : clampI l m n ≤ m := by unfold clampI; split <;> (try split) <;> omega
theorem clampI_id {l m n : Int} (h1 : l ≤ n) (h2 : n ≤ m) : clampI l m n = n := by unfold clampI; rw [if_neg (by omega), if_neg (by omega)]
/-- A table. -/
structure Tb where
  eb : Int
  et : Int
  en : Int
  ed : Int
  er : Int
  el : Int
  ex : Int
  ep : Int
  ek : Int
  es : Int
  ee : Int
def Tb.clamp (t : Tb) : Tb := ⟨clampI 4 64 t.eb, clampI 12 8192 t.et, clampI 64 16384 t.en, clampI 4 1024 t.ed, clampI 4 4096 t.er, clampI 2 1024 t.el, clampI 2 1024 t.ex, clampI 4 256 t.ep, clampI 4 1024 t.ek, clampI 2 1024 t.es, clampI 2 256 t.ee⟩
abbrev Tb.vs (t : Tb) : List Value := [.int .i64 t.eb, .int .i64 t.et, .int .i64 t.en, .int .i64 t.ed, .int .i64 t.er, .int .i64 t.el, .int .i64 t.ex, .int .i64 t.ep, .int .i64 t.ek, .int .i64 t.es, .int .i64 t.ee]
abbrev Tb.v (t : Tb) : Value := .agg #[.int .i64 t.eb, .int .i64 t.et, .int .i64 t.en, .int .i64 t.ed, .int .i64 t.er, .int .i64 t.el, .int .i64 t.ex, .int .i64 t.ep, .int .i64 t.ek, .int .i64 t.es, .int .i64 t.ee]
/-- A table that may be used. -/
structure TbOk (t : Tb) : Prop where
  eb : 4 ≤ t.eb ∧ t.eb ≤ 64
  et : 12 ≤ t.et ∧ t.et ≤ 8192
  en : 64 ≤ t.en ∧ t.en ≤ 16384
  ed : 4 ≤ t.ed ∧ t.ed ≤ 1024
  er : 4 ≤ t.er ∧ t.er ≤ 4096
  el : 2 ≤ t.el ∧ t.el ≤ 1024
  ex : 2 ≤ t.ex ∧ t.ex ≤ 1024
  ep : 4 ≤ t.ep ∧ t.ep ≤ 256
  ek : 4 ≤ t.ek ∧ t.ek ≤ 1024
  es : 2 ≤ t.es ∧ t.es ≤ 1024
  ee : 2 ≤ t.ee ∧ t.ee ≤ 256
theorem Tb.clamp_ok (t : Tb) : TbOk t.clamp := ⟨⟨clampI_ge (by decide), clampI_le (by decide)⟩, ⟨clampI_ge (by decide), clampI_le (by decide)⟩, ⟨clampI_ge (by decide), clampI_le (by decide)⟩, ⟨clampI_ge (by decide), clampI_le (by decide)⟩, ⟨clampI_ge (by decide), clampI_le (by decide)⟩, ⟨clampI_ge (by decide), clampI_le (by decide)⟩, ⟨clampI_ge (by decide), clampI_le (by decide)⟩, ⟨clampI_ge (by decide), clampI_le (by decide)⟩, ⟨clampI_ge (by decide), clampI_le (by decide)⟩, ⟨clampI_ge (by decide), clampI_le (by decide)⟩, ⟨clampI_ge (by decide), clampI_le (by decide)⟩⟩
theorem TbOk.clamp {t : Tb} (h : TbOk t) : t.clamp = t := by
  unfold Tb.clamp
  rw [clampI_id h.eb.1 h.eb.2, clampI_id h.et.1 h.et.2, clampI_id h.en.1 h.en.2, clampI_id h.ed.1 h.ed.2, clampI_id h.er.1 h.er.2, clampI_id h.el.1 h.el.2, clampI_id h.ex.1 h.ex.2, clampI_id h.ep.1 h.ep.2, clampI_id h.ek.1 h.ek.2, clampI_id h.es.1 h.es.2, clampI_id h.ee.1 h.ee.2]
theorem Tb.clamp_clamp (t : Tb) : t.clamp.clamp = t.clamp := t.clamp_ok.clamp
/-- Which way a product of n by m words goes; n is the greater one. -/
def rt (t : Tb) (n m : Nat) : Nat := if m = 0 then 0 else if (m : Int) < t.eb then 1 else if 2 * m ≤ n + 1 then 2 else if (m : Int) < t.et then 3 else if t.en ≤ ((n + m : Nat) : Int) then 5 else if 2 * ((n + 2) / 3) < m then 4 else 3
theorem twithin_c (w : World) (n l m : Int) (h : l ≤ m) : Calls Tryz.prog 53 #[.int .i64 n, .int .i64 l, .int .i64 m] w fun e w' => e = .returned (.int .i64 (clampI l m n)) ∧ w' = w := by
  by_cases h1 : n < l
  · have e : clampI l m n = l := by unfold clampI; rw [if_pos h1]
    rw [e]
    clear e
    have h2 : n < m := by omega
    go_enter Tryz.func53, Tryz.ntmps53
    go_wp2
    all_goals go_ret
    all_goals exact ⟨by simp; try omega, rfl⟩
  · by_cases h2 : m < n
    · have e : clampI l m n = m := by unfold clampI; rw [if_neg h1, if_pos h2]
      rw [e]
      clear e
      go_enter Tryz.func53, Tryz.ntmps53
      go_wp2
      all_goals go_ret
      all_goals exact ⟨by simp; try omega, rfl⟩
    · have e : clampI l m n = n := by unfold clampI; rw [if_neg h1, if_neg h2]
      rw [e]
      clear e
      go_enter Tryz.func53, Tryz.ntmps53
      go_wp2
      all_goals go_ret
      all_goals exact ⟨by simp; try omega, rfl⟩
set_option maxRecDepth 100000 in
set_option maxHeartbeats 4000000 in
theorem tclamp_c (w : World) (t : Tb) : Calls Tryz.prog 36 #[t.v] w fun e w' => e = .returned t.clamp.v ∧ w.grownBy w' none := by
  have H0 := Lib.hid (fun w => twithin_c w t.eb 4 64 (by decide))
  have H1 := Lib.hid (fun w => twithin_c w t.et 12 8192 (by decide))
  have H2 := Lib.hid (fun w => twithin_c w t.en 64 16384 (by decide))
  have H3 := Lib.hid (fun w => twithin_c w t.ed 4 1024 (by decide))
  have H4 := Lib.hid (fun w => twithin_c w t.er 4 4096 (by decide))
  have H5 := Lib.hid (fun w => twithin_c w t.el 2 1024 (by decide))
  have H6 := Lib.hid (fun w => twithin_c w t.ex 2 1024 (by decide))
  have H7 := Lib.hid (fun w => twithin_c w t.ep 4 256 (by decide))
  have H8 := Lib.hid (fun w => twithin_c w t.ek 4 1024 (by decide))
  have H9 := Lib.hid (fun w => twithin_c w t.es 2 1024 (by decide))
  have H10 := Lib.hid (fun w => twithin_c w t.ee 2 256 (by decide))
  obtain ⟨u, hu⟩ : ∃ u, u = t.clamp := ⟨_, rfl⟩
  rw [← hu]
  rw [show clampI 4 64 t.eb = u.eb by rw [hu]; rfl] at H0
  rw [show clampI 12 8192 t.et = u.et by rw [hu]; rfl] at H1
  rw [show clampI 64 16384 t.en = u.en by rw [hu]; rfl] at H2
  rw [show clampI 4 1024 t.ed = u.ed by rw [hu]; rfl] at H3
  rw [show clampI 4 4096 t.er = u.er by rw [hu]; rfl] at H4
  rw [show clampI 2 1024 t.el = u.el by rw [hu]; rfl] at H5
  rw [show clampI 2 1024 t.ex = u.ex by rw [hu]; rfl] at H6
  rw [show clampI 4 256 t.ep = u.ep by rw [hu]; rfl] at H7
  rw [show clampI 4 1024 t.ek = u.ek by rw [hu]; rfl] at H8
  rw [show clampI 2 1024 t.es = u.es by rw [hu]; rfl] at H9
  rw [show clampI 2 256 t.ee = u.ee by rw [hu]; rfl] at H10
  clear hu
  have GA := gb_alloc (gb_refl w none) (Obj.cells #[.int .i64 t.eb, .int .i64 t.et, .int .i64 t.en, .int .i64 t.ed, .int .i64 t.er, .int .i64 t.el, .int .i64 t.ex, .int .i64 t.ep, .int .i64 t.ek, .int .i64 t.es, .int .i64 t.ee] 23)
  have C0 := cs_new w #[.int .i64 t.eb, .int .i64 t.et, .int .i64 t.en, .int .i64 t.ed, .int .i64 t.er, .int .i64 t.el, .int .i64 t.ex, .int .i64 t.ep, .int .i64 t.ek, .int .i64 t.es, .int .i64 t.ee] 23
  have GB := gb_alloc (gb_refl (w.alloc (Obj.cells #[.int .i64 t.eb, .int .i64 t.et, .int .i64 t.en, .int .i64 t.ed, .int .i64 t.er, .int .i64 t.el, .int .i64 t.ex, .int .i64 t.ep, .int .i64 t.ek, .int .i64 t.es, .int .i64 t.ee] 23)) none) (Obj.cells #[.int .i64 0, .int .i64 0, .int .i64 0, .int .i64 0, .int .i64 0, .int .i64 0, .int .i64 0, .int .i64 0, .int .i64 0, .int .i64 0, .int .i64 0] 23)
  have C1 := cs_new (w.alloc (Obj.cells #[.int .i64 t.eb, .int .i64 t.et, .int .i64 t.en, .int .i64 t.ed, .int .i64 t.er, .int .i64 t.el, .int .i64 t.ex, .int .i64 t.ep, .int .i64 t.ek, .int .i64 t.es, .int .i64 t.ee] 23)) #[.int .i64 0, .int .i64 0, .int .i64 0, .int .i64 0, .int .i64 0, .int .i64 0, .int .i64 0, .int .i64 0, .int .i64 0, .int .i64 0, .int .i64 0] 23
  have C0 := C0.grown0 GB
  have HC0 := Lib.hid C0
  have HC1 := Lib.hid C1
  have HG := Lib.hid (gb_trans GA GB)
  clear GA C0 GB C1
  rw [show (w.alloc (Obj.cells #[.int .i64 t.eb, .int .i64 t.et, .int .i64 t.en, .int .i64 t.ed, .int .i64 t.er, .int .i64 t.el, .int .i64 t.ex, .int .i64 t.ep, .int .i64 t.ek, .int .i64 t.es, .int .i64 t.ee] 23)).heap.size = w.heap.size + 1 from alloc_sz ..] at HC1
  go_enter Tryz.func36, Tryz.ntmps36
  go_wp2
  refine wp_gen (fun W => w.grownBy W none ∧ Cs W w.heap.size t.vs ∧ Cs W (w.heap.size + 1) _) ⟨HG.out, HC0.out, HC1.out⟩ ?_
  clear HG HC0 HC1
  rintro wr ⟨G, c0, c1⟩
  have HG := Lib.hid G
  have HC0 := Lib.hid c0
  have HC1 := Lib.hid c1
  clear G c0 c1
  have HSF := Lib.hid (show Canon.SF [(⟨w.heap.size, 1, none⟩, .int .i64 t.et), (⟨w.heap.size, 2, none⟩, .int .i64 t.en), (⟨w.heap.size, 3, none⟩, .int .i64 t.ed), (⟨w.heap.size, 4, none⟩, .int .i64 t.er), (⟨w.heap.size, 5, none⟩, .int .i64 t.el), (⟨w.heap.size, 6, none⟩, .int .i64 t.ex), (⟨w.heap.size, 7, none⟩, .int .i64 t.ep), (⟨w.heap.size, 8, none⟩, .int .i64 t.ek), (⟨w.heap.size, 9, none⟩, .int .i64 t.es), (⟨w.heap.size, 10, none⟩, .int .i64 t.ee)] wr from Canon.sf_cons (HC0.out.cell 1 rfl) (Canon.sf_cons (HC0.out.cell 2 rfl) (Canon.sf_cons (HC0.out.cell 3 rfl) (Canon.sf_cons (HC0.out.cell 4 rfl) (Canon.sf_cons (HC0.out.cell 5 rfl) (Canon.sf_cons (HC0.out.cell 6 rfl) (Canon.sf_cons (HC0.out.cell 7 rfl) (Canon.sf_cons (HC0.out.cell 8 rfl) (Canon.sf_cons (HC0.out.cell 9 rfl) (Canon.sf_cons (HC0.out.cell 10 rfl) (Canon.sf_nil _)))))))))))
  refine Canon.region_held [7, 10, 13, 16, 19, 22, 25, 28, 31, 34] _ (by kernel_rfl) (by kernel_rfl) HSF.out ?_
  have HC0 := Lib.hid HC0.out.drew
  have HC1 := Lib.hid HC1.out.drew
  have HG := Lib.hid (gb_drew HG.out)
  have HSF := Lib.hid HSF.out.drew
  obtain ⟨wd, hwd⟩ : ∃ W, W = wr.drew := ⟨_, rfl⟩
  rw [← hwd] at HC0 HC1 HG HSF ⊢
  clear hwd
  refine Canon.segs_at 2 _ _ _ (by kernel_rfl) ?_
  simp only [List.take_succ_cons, List.take_zero, List.drop_succ_cons, List.drop_zero]
  have c0 := HC0.out.cell 0 rfl
  go_wp2_with fail
  refine (H0.out _).mono ?_
  rintro e wx ⟨rfl, hwx⟩
  subst hwx
  clear c0 H0
  go_wp2
  refine ⟨HSF.out, ?_⟩
  refine Canon.segs_at 2 _ _ _ (by kernel_rfl) ?_
  simp only [List.take_succ_cons, List.take_zero, List.drop_succ_cons, List.drop_zero]
  have c0 := HC0.out.cell 1 rfl
  go_wp2_with fail
  refine (H1.out _).mono ?_
  rintro e wx ⟨rfl, hwx⟩
  subst hwx
  clear c0 H1
  go_wp2
  refine ⟨HSF.out, ?_⟩
  refine Canon.segs_at 2 _ _ _ (by kernel_rfl) ?_
  simp only [List.take_succ_cons, List.take_zero, List.drop_succ_cons, List.drop_zero]
  have c0 := HC0.out.cell 2 rfl
  go_wp2_with fail
  refine (H2.out _).mono ?_
  rintro e wx ⟨rfl, hwx⟩
  subst hwx
  clear c0 H2
  go_wp2
  refine ⟨HSF.out, ?_⟩
  refine Canon.segs_at 2 _ _ _ (by kernel_rfl) ?_
  simp only [List.take_succ_cons, List.take_zero, List.drop_succ_cons, List.drop_zero]
  have c0 := HC0.out.cell 3 rfl
  go_wp2_with fail
  refine (H3.out _).mono ?_
  rintro e wx ⟨rfl, hwx⟩
  subst hwx
  clear c0 H3
  go_wp2
  refine ⟨HSF.out, ?_⟩
  refine Canon.segs_at 2 _ _ _ (by kernel_rfl) ?_
  simp only [List.take_succ_cons, List.take_zero, List.drop_succ_cons, List.drop_zero]
  have c0 := HC0.out.cell 4 rfl
  go_wp2_with fail
  refine (H4.out _).mono ?_
  rintro e wx ⟨rfl, hwx⟩
  subst hwx
  clear c0 H4
  go_wp2
  refine ⟨HSF.out, ?_⟩
  refine Canon.segs_at 2 _ _ _ (by kernel_rfl) ?_
  simp only [List.take_succ_cons, List.take_zero, List.drop_succ_cons, List.drop_zero]
  have c0 := HC0.out.cell 5 rfl
  go_wp2_with fail
  refine (H5.out _).mono ?_
  rintro e wx ⟨rfl, hwx⟩
  subst hwx
  clear c0 H5
  go_wp2
  refine ⟨HSF.out, ?_⟩
  refine Canon.segs_at 2 _ _ _ (by kernel_rfl) ?_
  simp only [List.take_succ_cons, List.take_zero, List.drop_succ_cons, List.drop_zero]
  have c0 := HC0.out.cell 6 rfl
  go_wp2_with fail
  refine (H6.out _).mono ?_
  rintro e wx ⟨rfl, hwx⟩
  subst hwx
  clear c0 H6
  go_wp2
  refine ⟨HSF.out, ?_⟩
  refine Canon.segs_at 2 _ _ _ (by kernel_rfl) ?_
  simp only [List.take_succ_cons, List.take_zero, List.drop_succ_cons, List.drop_zero]
  have c0 := HC0.out.cell 7 rfl
  go_wp2_with fail
  refine (H7.out _).mono ?_
  rintro e wx ⟨rfl, hwx⟩
  subst hwx
  clear c0 H7
  go_wp2
  refine ⟨HSF.out, ?_⟩
  refine Canon.segs_at 2 _ _ _ (by kernel_rfl) ?_
  simp only [List.take_succ_cons, List.take_zero, List.drop_succ_cons, List.drop_zero]
  have c0 := HC0.out.cell 8 rfl
  go_wp2_with fail
  refine (H8.out _).mono ?_
  rintro e wx ⟨rfl, hwx⟩
  subst hwx
  clear c0 H8
  go_wp2
  refine ⟨HSF.out, ?_⟩
  refine Canon.segs_at 2 _ _ _ (by kernel_rfl) ?_
  simp only [List.take_succ_cons, List.take_zero, List.drop_succ_cons, List.drop_zero]
  have c0 := HC0.out.cell 9 rfl
  go_wp2_with fail
  refine (H9.out _).mono ?_
  rintro e wx ⟨rfl, hwx⟩
  subst hwx
  clear c0 H9
  go_wp2
  refine ⟨HSF.out, ?_⟩
  refine Canon.segs_at 2 _ _ _ (by kernel_rfl) ?_
  simp only [List.take_succ_cons, List.take_zero, List.drop_succ_cons, List.drop_zero]
  have c0 := HC0.out.cell 10 rfl
  go_wp2_with fail
  refine (H10.out _).mono ?_
  rintro e wx ⟨rfl, hwx⟩
  subst hwx
  clear c0 H10
  go_wp2
  refine ⟨HSF.out, ?_⟩
  refine Canon.segs_at 0 _ _ _ (by kernel_rfl) ?_
  simp only [List.take_succ_cons, List.take_zero, List.drop_succ_cons, List.drop_zero]
  go_wp2
  refine ⟨HSF.out, ?_⟩
  refine Canon.segs_at 0 _ _ _ (by kernel_rfl) ?_
  simp only [List.take_succ_cons, List.take_zero, List.drop_succ_cons, List.drop_zero]
  have f0 := HC1.out.free 0 rfl
  have q0 := HC1.out.cell 0 rfl
  have f1 := HC1.out.free 1 rfl
  have q1 := HC1.out.cell 1 rfl
  have f2 := HC1.out.free 2 rfl
  have q2 := HC1.out.cell 2 rfl
  have f3 := HC1.out.free 3 rfl
  have q3 := HC1.out.cell 3 rfl
  have f4 := HC1.out.free 4 rfl
  have q4 := HC1.out.cell 4 rfl
  have f5 := HC1.out.free 5 rfl
  have q5 := HC1.out.cell 5 rfl
  have f6 := HC1.out.free 6 rfl
  have q6 := HC1.out.cell 6 rfl
  have f7 := HC1.out.free 7 rfl
  have q7 := HC1.out.cell 7 rfl
  have f8 := HC1.out.free 8 rfl
  have q8 := HC1.out.cell 8 rfl
  have f9 := HC1.out.free 9 rfl
  have q9 := HC1.out.cell 9 rfl
  have f10 := HC1.out.free 10 rfl
  have q10 := HC1.out.cell 10 rfl
  go_wp2
  clear f0 q0 f1 q1 f2 q2 f3 q3 f4 q4 f5 q5 f6 q6 f7 q7 f8 q8 f9 q9 f10 q10
  have CN := (((((((((((HC1.out.set 0 (.int .i64 u.eb)).set 1 (.int .i64 u.et)).set 2 (.int .i64 u.en)).set 3 (.int .i64 u.ed)).set 4 (.int .i64 u.er)).set 5 (.int .i64 u.el)).set 6 (.int .i64 u.ex)).set 7 (.int .i64 u.ep)).set 8 (.int .i64 u.ek)).set 9 (.int .i64 u.es)).set 10 (.int .i64 u.ee))
  have GR := (gb_rowC (gb_rowC (gb_rowC (gb_rowC (gb_rowC (gb_rowC (gb_rowC (gb_rowC (gb_rowC (gb_rowC (gb_rowC (gb_refl wx (some (w.heap.size + 1))) 0 (.int .i64 u.eb)) 1 (.int .i64 u.et)) 2 (.int .i64 u.en)) 3 (.int .i64 u.ed)) 4 (.int .i64 u.er)) 5 (.int .i64 u.el)) 6 (.int .i64 u.ex)) 7 (.int .i64 u.ep)) 8 (.int .i64 u.ek)) 9 (.int .i64 u.es)) 10 (.int .i64 u.ee))
  have GN := (gb_set (p := ⟨w.heap.size + 1, 10, none⟩) (gb_set (p := ⟨w.heap.size + 1, 9, none⟩) (gb_set (p := ⟨w.heap.size + 1, 8, none⟩) (gb_set (p := ⟨w.heap.size + 1, 7, none⟩) (gb_set (p := ⟨w.heap.size + 1, 6, none⟩) (gb_set (p := ⟨w.heap.size + 1, 5, none⟩) (gb_set (p := ⟨w.heap.size + 1, 4, none⟩) (gb_set (p := ⟨w.heap.size + 1, 3, none⟩) (gb_set (p := ⟨w.heap.size + 1, 2, none⟩) (gb_set (p := ⟨w.heap.size + 1, 1, none⟩) (gb_set (p := ⟨w.heap.size + 1, 0, none⟩) HG.out (by show w.heap.size ≤ w.heap.size + 1; omega) (.int .i64 u.eb)) (by show w.heap.size ≤ w.heap.size + 1; omega) (.int .i64 u.et)) (by show w.heap.size ≤ w.heap.size + 1; omega) (.int .i64 u.en)) (by show w.heap.size ≤ w.heap.size + 1; omega) (.int .i64 u.ed)) (by show w.heap.size ≤ w.heap.size + 1; omega) (.int .i64 u.er)) (by show w.heap.size ≤ w.heap.size + 1; omega) (.int .i64 u.el)) (by show w.heap.size ≤ w.heap.size + 1; omega) (.int .i64 u.ex)) (by show w.heap.size ≤ w.heap.size + 1; omega) (.int .i64 u.ep)) (by show w.heap.size ≤ w.heap.size + 1; omega) (.int .i64 u.ek)) (by show w.heap.size ≤ w.heap.size + 1; omega) (.int .i64 u.es)) (by show w.heap.size ≤ w.heap.size + 1; omega) (.int .i64 u.ee))
  have HCN := Lib.hid CN
  have HGN := Lib.hid GN
  have HSF2 := Lib.hid (Canon.sf_grown HSF.out GR (fun q hq => by
    have : q.1.block = w.heap.size := by
      simp only [List.mem_cons, List.not_mem_nil, or_false] at hq
      rcases hq with rfl | rfl | rfl | rfl | rfl | rfl | rfl | rfl | rfl | rfl <;> rfl
    rw [this]; simp))
  clear CN GN GR HSF HC0 HC1 HG
  refine ⟨HSF2.out, ?_⟩
  refine Canon.segs_end _ _ _ (by kernel_rfl) ?_
  go_wp2
  refine ⟨by kernel_rfl, by kernel_rfl, by kernel_rfl, ?_⟩
  go_wp2
  refine bodyPost_ret (res_agg rfl HCN.out rfl (by kernel_rfl) (by kernel_rfl)) rfl ?_
  exact ⟨rfl, HGN.out⟩
end Go.Proofs.YtldkiddoajlohaaGreatDoor

/- Tables: which way a product goes. -/
namespace Go.Proofs.YtldkiddoajlohaaGreatDoor
open Go.RowKit

theorem rt_le (t : Tb) (n m : Nat) : rt t n m ≤ 5 := by unfold rt; repeat' split <;> try omega
set_option maxRecDepth 100000 in
theorem route_c (w : World) (t : Tb) (n m : Nat) (hn : n ≤ 16384) (hm : m ≤ 16384) : Calls Tryz.prog 93 #[t.v, .int .i64 n, .int .i64 m] w fun e w' => e = .returned (.int .i64 (rt t n m)) ∧ w.grownBy w' none := by
  have C0 := cs_new w #[.int .i64 t.eb, .int .i64 t.et, .int .i64 t.en, .int .i64 t.ed, .int .i64 t.er, .int .i64 t.el, .int .i64 t.ex, .int .i64 t.ep, .int .i64 t.ek, .int .i64 t.es, .int .i64 t.ee] 23
  have hg := gb_alloc (gb_refl w none) (Obj.cells #[.int .i64 t.eb, .int .i64 t.et, .int .i64 t.en, .int .i64 t.ed, .int .i64 t.er, .int .i64 t.el, .int .i64 t.ex, .int .i64 t.ep, .int .i64 t.ek, .int .i64 t.es, .int .i64 t.ee] 23)
  have c0 := C0.cell 0 rfl
  have c1 := C0.cell 1 rfl
  have c2 := C0.cell 2 rfl
  clear C0
  obtain ⟨K, hK⟩ : ∃ K, K = (n + 2) / 3 := ⟨_, rfl⟩
  have eK : ((n : Int) + 2) / 3 = (K : Int) := by omega
  have bK : K ≤ 5462 := by omega
  obtain ⟨r, hr⟩ : ∃ r, r = rt t n m := ⟨_, rfl⟩
  rw [← hr]
  unfold rt at hr
  rw [← hK] at hr
  clear hK
  by_cases h0 : m = 0
  · rw [if_pos h0] at hr
    subst hr
    have e0 : (m : Int) = 0 := by omega
    subst h0
    clear e0
    go_enter Tryz.func93, Tryz.ntmps93
    go_wp2
    go_ret
    exact ⟨rfl, hg⟩
  rw [if_neg h0] at hr
  have e0 : ((m : Int) == 0) = false := by have : ¬ (m : Int) = 0 := by omega
                                           simpa using this
  by_cases h1 : (m : Int) < t.eb
  · rw [if_pos h1] at hr
    subst hr
    go_enter Tryz.func93, Tryz.ntmps93
    go_wp2
    go_ret
    exact ⟨rfl, hg⟩
  rw [if_neg h1] at hr
  by_cases h2 : 2 * m ≤ n + 1
  · rw [if_pos h2] at hr
    subst hr
    have e2 : 2 * (m : Int) ≤ (n : Int) + 1 := by omega
    go_enter Tryz.func93, Tryz.ntmps93
    go_wp2
    go_ret
    exact ⟨rfl, hg⟩
  rw [if_neg h2] at hr
  have e2 : ¬ 2 * (m : Int) ≤ (n : Int) + 1 := by omega
  by_cases h3 : (m : Int) < t.et
  · rw [if_pos h3] at hr
    subst hr
    go_enter Tryz.func93, Tryz.ntmps93
    go_wp2
    go_ret
    exact ⟨rfl, hg⟩
  rw [if_neg h3] at hr
  by_cases h4 : t.en ≤ ((n + m : Nat) : Int)
  · rw [if_pos h4] at hr
    subst hr
    have e4 : t.en ≤ (n : Int) + (m : Int) := by omega
    go_enter Tryz.func93, Tryz.ntmps93
    go_wp2
    go_ret
    exact ⟨rfl, hg⟩
  rw [if_neg h4] at hr
  have e4 : ¬ t.en ≤ (n : Int) + (m : Int) := by omega
  by_cases h5 : 2 * K < m
  · rw [if_pos h5] at hr
    subst hr
    have e5 : 2 * (K : Int) < (m : Int) := by omega
    go_enter Tryz.func93, Tryz.ntmps93
    go_wp2
    go_ret
    exact ⟨rfl, hg⟩
  rw [if_neg h5] at hr
  subst hr
  have e5 : ¬ 2 * (K : Int) < (m : Int) := by omega
  go_enter Tryz.func93, Tryz.ntmps93
  go_wp2
  go_ret
  exact ⟨rfl, hg⟩
theorem may_c (w : World) (n : Nat) (hn : n ≤ 16384) : Calls Tryz.prog 92 #[.int .i64 n] w fun e w' => e = .returned (.bool true) ∧ w' = w := by
  have e : ((n : Int) ≤ 16384) = True := by simp; omega
  go_enter Tryz.func92, Tryz.ntmps92
  go_wp2
  go_ret
  exact ⟨rfl, rfl⟩
set_option maxRecDepth 100000 in
theorem Route_c (w : World) (t : Tb) (n m : Nat) (hn : n ≤ 16384) (hm : m ≤ 16384) : Calls Tryz.prog 70 #[t.v, .int .i64 n, .int .i64 m] w fun e w' => e = .returned (.int .i64 (rt t.clamp (max n m) (min n m))) ∧ w.grownBy w' none := by
  rcases Nat.lt_trichotomy n m with h | h | h
  · have q1 : ((n : Int) < (m : Int)) = True := by simp; omega
    have q2 : ((m : Int) < (n : Int)) = False := by simp; omega
    rw [Nat.max_eq_right (by omega), Nat.min_eq_left (by omega)]
    have HR := Lib.hid (fun w => route_c w t.clamp m n (by omega) (by omega))
    obtain ⟨r, hr⟩ : ∃ r, r = rt t.clamp m n := ⟨_, rfl⟩
    rw [← hr] at HR ⊢
    have HC := Lib.hid (fun w => tclamp_c w t)
    obtain ⟨u, hu⟩ : ∃ u, u = t.clamp := ⟨_, rfl⟩
    rw [← hu] at HR HC
    have HM1 := Lib.hid (fun w => may_c w _ hn)
    have HM2 := Lib.hid (fun w => may_c w _ hm)
    have C0 := cs_new w #[.int .i64 t.eb, .int .i64 t.et, .int .i64 t.en, .int .i64 t.ed, .int .i64 t.er, .int .i64 t.el, .int .i64 t.ex, .int .i64 t.ep, .int .i64 t.ek, .int .i64 t.es, .int .i64 t.ee] 23
    have hg := gb_alloc (gb_refl w none) (Obj.cells #[.int .i64 t.eb, .int .i64 t.et, .int .i64 t.en, .int .i64 t.ed, .int .i64 t.er, .int .i64 t.el, .int .i64 t.ex, .int .i64 t.ep, .int .i64 t.ek, .int .i64 t.es, .int .i64 t.ee] 23)
    have HG := Lib.hid hg
    have HC0 := Lib.hid C0
    clear hr hu C0 hg
    go_enter Tryz.func70, Tryz.ntmps70
    go_wp2_with fail
    refine (HM1.out _).mono ?_
    rintro e w1 ⟨rfl, hw1⟩
    subst hw1
    go_wp2_with fail
    refine (HM2.out _).mono ?_
    rintro e w1 ⟨rfl, hw1⟩
    subst hw1
    have c0 := HC0.out.cell 0 rfl
    have c1 := HC0.out.cell 1 rfl
    have c2 := HC0.out.cell 2 rfl
    have c3 := HC0.out.cell 3 rfl
    have c4 := HC0.out.cell 4 rfl
    have c5 := HC0.out.cell 5 rfl
    have c6 := HC0.out.cell 6 rfl
    have c7 := HC0.out.cell 7 rfl
    have c8 := HC0.out.cell 8 rfl
    have c9 := HC0.out.cell 9 rfl
    have c10 := HC0.out.cell 10 rfl
    go_wp2_with fail
    refine (HC.out _).mono ?_
    rintro e w2 ⟨rfl, g2⟩
    clear c0 c1 c2 c3 c4 c5 c6 c7 c8 c9 c10 HC0
    go_wp2_with fail
    refine (HR.out _).mono ?_
    rintro e w3 ⟨rfl, g3⟩
    go_wp2
    go_ret
    exact ⟨rfl, gb_trans HG.out (gb_trans g2 g3)⟩
  · subst h
    rw [Nat.max_self, Nat.min_self]
    have HR := Lib.hid (fun w => route_c w t.clamp n n (by omega) (by omega))
    obtain ⟨r, hr⟩ : ∃ r, r = rt t.clamp n n := ⟨_, rfl⟩
    rw [← hr] at HR ⊢
    have HC := Lib.hid (fun w => tclamp_c w t)
    obtain ⟨u, hu⟩ : ∃ u, u = t.clamp := ⟨_, rfl⟩
    rw [← hu] at HR HC
    have HM1 := Lib.hid (fun w => may_c w _ hn)
    have HM2 := Lib.hid (fun w => may_c w _ hm)
    have C0 := cs_new w #[.int .i64 t.eb, .int .i64 t.et, .int .i64 t.en, .int .i64 t.ed, .int .i64 t.er, .int .i64 t.el, .int .i64 t.ex, .int .i64 t.ep, .int .i64 t.ek, .int .i64 t.es, .int .i64 t.ee] 23
    have hg := gb_alloc (gb_refl w none) (Obj.cells #[.int .i64 t.eb, .int .i64 t.et, .int .i64 t.en, .int .i64 t.ed, .int .i64 t.er, .int .i64 t.el, .int .i64 t.ex, .int .i64 t.ep, .int .i64 t.ek, .int .i64 t.es, .int .i64 t.ee] 23)
    have HG := Lib.hid hg
    have HC0 := Lib.hid C0
    clear hr hu C0 hg
    go_enter Tryz.func70, Tryz.ntmps70
    go_wp2_with fail
    refine (HM1.out _).mono ?_
    rintro e w1 ⟨rfl, hw1⟩
    subst hw1
    go_wp2_with fail
    refine (HM2.out _).mono ?_
    rintro e w1 ⟨rfl, hw1⟩
    subst hw1
    have c0 := HC0.out.cell 0 rfl
    have c1 := HC0.out.cell 1 rfl
    have c2 := HC0.out.cell 2 rfl
    have c3 := HC0.out.cell 3 rfl
    have c4 := HC0.out.cell 4 rfl
    have c5 := HC0.out.cell 5 rfl
    have c6 := HC0.out.cell 6 rfl
    have c7 := HC0.out.cell 7 rfl
    have c8 := HC0.out.cell 8 rfl
    have c9 := HC0.out.cell 9 rfl
    have c10 := HC0.out.cell 10 rfl
    go_wp2_with fail
    refine (HC.out _).mono ?_
    rintro e w2 ⟨rfl, g2⟩
    clear c0 c1 c2 c3 c4 c5 c6 c7 c8 c9 c10 HC0
    go_wp2_with fail
    refine (HR.out _).mono ?_
    rintro e w3 ⟨rfl, g3⟩
    go_wp2
    go_ret
    exact ⟨rfl, gb_trans HG.out (gb_trans g2 g3)⟩
  · have q1 : ((m : Int) < (n : Int)) = True := by simp; omega
    have q2 : ((n : Int) < (m : Int)) = False := by simp; omega
    rw [Nat.max_eq_left (by omega), Nat.min_eq_right (by omega)]
    have HR := Lib.hid (fun w => route_c w t.clamp n m (by omega) (by omega))
    obtain ⟨r, hr⟩ : ∃ r, r = rt t.clamp n m := ⟨_, rfl⟩
    rw [← hr] at HR ⊢
    have HC := Lib.hid (fun w => tclamp_c w t)
    obtain ⟨u, hu⟩ : ∃ u, u = t.clamp := ⟨_, rfl⟩
    rw [← hu] at HR HC
    have HM1 := Lib.hid (fun w => may_c w _ hn)
    have HM2 := Lib.hid (fun w => may_c w _ hm)
    have C0 := cs_new w #[.int .i64 t.eb, .int .i64 t.et, .int .i64 t.en, .int .i64 t.ed, .int .i64 t.er, .int .i64 t.el, .int .i64 t.ex, .int .i64 t.ep, .int .i64 t.ek, .int .i64 t.es, .int .i64 t.ee] 23
    have hg := gb_alloc (gb_refl w none) (Obj.cells #[.int .i64 t.eb, .int .i64 t.et, .int .i64 t.en, .int .i64 t.ed, .int .i64 t.er, .int .i64 t.el, .int .i64 t.ex, .int .i64 t.ep, .int .i64 t.ek, .int .i64 t.es, .int .i64 t.ee] 23)
    have HG := Lib.hid hg
    have HC0 := Lib.hid C0
    clear hr hu C0 hg
    go_enter Tryz.func70, Tryz.ntmps70
    go_wp2_with fail
    refine (HM1.out _).mono ?_
    rintro e w1 ⟨rfl, hw1⟩
    subst hw1
    go_wp2_with fail
    refine (HM2.out _).mono ?_
    rintro e w1 ⟨rfl, hw1⟩
    subst hw1
    have c0 := HC0.out.cell 0 rfl
    have c1 := HC0.out.cell 1 rfl
    have c2 := HC0.out.cell 2 rfl
    have c3 := HC0.out.cell 3 rfl
    have c4 := HC0.out.cell 4 rfl
    have c5 := HC0.out.cell 5 rfl
    have c6 := HC0.out.cell 6 rfl
    have c7 := HC0.out.cell 7 rfl
    have c8 := HC0.out.cell 8 rfl
    have c9 := HC0.out.cell 9 rfl
    have c10 := HC0.out.cell 10 rfl
    go_wp2_with fail
    refine (HC.out _).mono ?_
    rintro e w2 ⟨rfl, g2⟩
    clear c0 c1 c2 c3 c4 c5 c6 c7 c8 c9 c10 HC0
    go_wp2_with fail
    refine (HR.out _).mono ?_
    rintro e w3 ⟨rfl, g3⟩
    go_wp2
    go_ret
    exact ⟨rfl, gb_trans HG.out (gb_trans g2 g3)⟩
end Go.Proofs.YtldkiddoajlohaaGreatDoor

/- The engine: its pieces in memory, its table. -/
namespace Go.Proofs.YtldkiddoajlohaaGreatDoor
open Go.RowKit

/-- What lies behind the meter: the table. -/
def tbT (t : Tb) : Nat → Option Value := fun j => if 3 ≤ j then t.vs[j - 3]? else none
/-- An engine: engines within engines, the tune at last. -/
structure Eng (w : World) (g0 g1 g2 g3 gm : Nat) : Prop where
  h0 : w.cell? ⟨g0, 0, none⟩ = some (.pointer (some ⟨g1, 0, none⟩))
  h1 : w.cell? ⟨g1, 0, none⟩ = some (.pointer (some ⟨g2, 0, none⟩))
  h2 : w.cell? ⟨g2, 0, none⟩ = some (.pointer (some ⟨g3, 0, none⟩))
  h3 : w.cell? ⟨g3, 0, none⟩ = some (.pointer (some ⟨gm, 0, none⟩))
  n0 : g0 ≠ gm
  n1 : g1 ≠ gm
  n2 : g2 ≠ gm
  n3 : g3 ≠ gm
theorem Eng.grown {w w' : World} {g0 g1 g2 g3 gm : Nat} (h : Eng w g0 g1 g2 g3 gm) (g : w.grownBy w' (some gm)) : Eng w' g0 g1 g2 g3 gm :=
  ⟨gb_cell g h.h0 (by have := h.n0; simpa using this), gb_cell g h.h1 (by have := h.n1; simpa using this), gb_cell g h.h2 (by have := h.n2; simpa using this), gb_cell g h.h3 (by have := h.n3; simpa using this), h.n0, h.n1, h.n2, h.n3⟩
theorem Eng.grown0 {w w' : World} {g0 g1 g2 g3 gm : Nat} (h : Eng w g0 g1 g2 g3 gm) (g : w.grownBy w' none) : Eng w' g0 g1 g2 g3 gm := h.grown (gb_none g _)
theorem Eng.drew {w : World} {g0 g1 g2 g3 gm : Nat} (h : Eng w g0 g1 g2 g3 gm) : Eng w.drew g0 g1 g2 g3 gm := h.grown0 (gb_drew (gb_refl _ none))
set_option maxRecDepth 100000 in
theorem tuneRoute_c (w : World) (gm : Nat) (t : Tb) (a b : Int) (c : Mc) (n m : Nat) (hm : Mt w gm a b c) (hT : c.T = tbT t) (ht : TbOk t) (hn : n ≤ 16384) (hm' : m ≤ 16384) :
    Calls Tryz.prog 57 #[.pointer (some ⟨gm, 0, none⟩), .int .i64 n, .int .i64 m] w fun e w' => e = .returned (.int .i64 (rt t (max n m) (min n m))) ∧ w.grownBy w' none := by
  have HR := Lib.hid (Route_c w t n m hn hm')
  rw [ht.clamp] at HR
  have r := hm.rest
  rw [hT] at r
  have c0 : w.cell? ⟨gm, 3, none⟩ = some (.int .i64 t.eb) := r 3 (by decide)
  have c1 : w.cell? ⟨gm, 4, none⟩ = some (.int .i64 t.et) := r 4 (by decide)
  have c2 : w.cell? ⟨gm, 5, none⟩ = some (.int .i64 t.en) := r 5 (by decide)
  have c3 : w.cell? ⟨gm, 6, none⟩ = some (.int .i64 t.ed) := r 6 (by decide)
  have c4 : w.cell? ⟨gm, 7, none⟩ = some (.int .i64 t.er) := r 7 (by decide)
  have c5 : w.cell? ⟨gm, 8, none⟩ = some (.int .i64 t.el) := r 8 (by decide)
  have c6 : w.cell? ⟨gm, 9, none⟩ = some (.int .i64 t.ex) := r 9 (by decide)
  have c7 : w.cell? ⟨gm, 10, none⟩ = some (.int .i64 t.ep) := r 10 (by decide)
  have c8 : w.cell? ⟨gm, 11, none⟩ = some (.int .i64 t.ek) := r 11 (by decide)
  have c9 : w.cell? ⟨gm, 12, none⟩ = some (.int .i64 t.es) := r 12 (by decide)
  have c10 : w.cell? ⟨gm, 13, none⟩ = some (.int .i64 t.ee) := r 13 (by decide)
  obtain ⟨z, hz⟩ : ∃ z, z = rt t (max n m) (min n m) := ⟨_, rfl⟩
  rw [← hz] at HR ⊢
  clear r hm hT ht hn hm' hz
  go_enter Tryz.func57, Tryz.ntmps57
  go_wp2_with fail
  refine (HR.out).mono ?_
  rintro e w1 ⟨rfl, g1⟩
  have G1 := Lib.hid g1
  clear g1 c0 c1 c2 c3 c4 c5 c6 c7 c8 c9 c10
  go_wp2
  go_ret
  exact ⟨rfl, G1.out⟩
theorem new_mt (w : World) (t : Tb) (T : TypeId) : Mt (w.alloc (Obj.cells #[.int .i64 0, .int .i64 0, .int .i64 0, .int .i64 t.eb, .int .i64 t.et, .int .i64 t.en, .int .i64 t.ed, .int .i64 t.er, .int .i64 t.el, .int .i64 t.ex, .int .i64 t.ep, .int .i64 t.ek, .int .i64 t.es, .int .i64 t.ee] T)) w.heap.size 0 0 ⟨0, tbT t⟩ := by
  have C := cs_new w #[.int .i64 0, .int .i64 0, .int .i64 0, .int .i64 t.eb, .int .i64 t.et, .int .i64 t.en, .int .i64 t.ed, .int .i64 t.er, .int .i64 t.el, .int .i64 t.ex, .int .i64 t.ep, .int .i64 t.ek, .int .i64 t.es, .int .i64 t.ee] T
  refine ⟨C.cell 0 rfl, C.cell 1 rfl, C.cell 2 rfl, C.free 0 rfl, C.free 1 rfl, C.free 2 rfl, Int.le_refl 0, Int.le_refl 0, Int.le_refl 0, fun j hj => ?_⟩
  rw [World.cell?_alloc_new]
  obtain ⟨k, rfl⟩ : ∃ k, j = k + 3 := ⟨j - 3, by omega⟩
  show _ = (if 3 ≤ k + 3 then t.vs[k + 3 - 3]? else none)
  rw [if_pos (by omega), Nat.add_sub_cancel, ← Array.getElem?_toList]
  rfl
set_option maxRecDepth 100000 in
theorem tableNew_c (w : World) (t : Tb) : Calls Tryz.prog 91 #[t.v] w fun e w' => ∃ gm, e = .returned (.pointer (some ⟨gm, 0, none⟩)) ∧ w.heap.size ≤ gm ∧ Mt w' gm 0 0 ⟨0, tbT t.clamp⟩ ∧ w.grownBy w' none := by
  have HI := Lib.hid (fun w => tclamp_c w t)
  have C0 := cs_new w #[.int .i64 t.eb, .int .i64 t.et, .int .i64 t.en, .int .i64 t.ed, .int .i64 t.er, .int .i64 t.el, .int .i64 t.ex, .int .i64 t.ep, .int .i64 t.ek, .int .i64 t.es, .int .i64 t.ee] 23
  have hg := gb_alloc (gb_refl w none) (Obj.cells #[.int .i64 t.eb, .int .i64 t.et, .int .i64 t.en, .int .i64 t.ed, .int .i64 t.er, .int .i64 t.el, .int .i64 t.ex, .int .i64 t.ep, .int .i64 t.ek, .int .i64 t.es, .int .i64 t.ee] 23)
  have HG := Lib.hid hg
  have HC0 := Lib.hid C0
  clear C0 hg
  go_enter Tryz.func91, Tryz.ntmps91
  have c0 := HC0.out.cell 0 rfl
  have c1 := HC0.out.cell 1 rfl
  have c2 := HC0.out.cell 2 rfl
  have c3 := HC0.out.cell 3 rfl
  have c4 := HC0.out.cell 4 rfl
  have c5 := HC0.out.cell 5 rfl
  have c6 := HC0.out.cell 6 rfl
  have c7 := HC0.out.cell 7 rfl
  have c8 := HC0.out.cell 8 rfl
  have c9 := HC0.out.cell 9 rfl
  have c10 := HC0.out.cell 10 rfl
  go_wp2_with fail
  refine (HI.out _).mono ?_
  rintro e w2 ⟨rfl, g2⟩
  have G2 := Lib.hid (gb_trans HG.out g2)
  clear c0 c1 c2 c3 c4 c5 c6 c7 c8 c9 c10 HC0 g2
  go_wp2
  go_ret
  exact ⟨_, rfl, G2.out.size, new_mt w2 t.clamp _, gb_alloc G2.out _⟩
set_option maxRecDepth 100000 in
theorem schoolNew_c (w : World) (t : Tb) : Calls Tryz.prog 68 #[t.v] w fun e w' => ∃ g3 gm, e = .returned (.pointer (some ⟨g3, 0, none⟩)) ∧ w'.cell? ⟨g3, 0, none⟩ = some (.pointer (some ⟨gm, 0, none⟩)) ∧ w.heap.size ≤ g3 ∧ w.heap.size ≤ gm ∧ Mt w' gm 0 0 ⟨0, tbT t.clamp⟩ ∧ w.grownBy w' none := by
  have HI := Lib.hid (fun w => tableNew_c w t)
  have C0 := cs_new w #[.int .i64 t.eb, .int .i64 t.et, .int .i64 t.en, .int .i64 t.ed, .int .i64 t.er, .int .i64 t.el, .int .i64 t.ex, .int .i64 t.ep, .int .i64 t.ek, .int .i64 t.es, .int .i64 t.ee] 23
  have hg := gb_alloc (gb_refl w none) (Obj.cells #[.int .i64 t.eb, .int .i64 t.et, .int .i64 t.en, .int .i64 t.ed, .int .i64 t.er, .int .i64 t.el, .int .i64 t.ex, .int .i64 t.ep, .int .i64 t.ek, .int .i64 t.es, .int .i64 t.ee] 23)
  have HG := Lib.hid hg
  have HC0 := Lib.hid C0
  clear C0 hg
  go_enter Tryz.func68, Tryz.ntmps68
  have c0 := HC0.out.cell 0 rfl
  have c1 := HC0.out.cell 1 rfl
  have c2 := HC0.out.cell 2 rfl
  have c3 := HC0.out.cell 3 rfl
  have c4 := HC0.out.cell 4 rfl
  have c5 := HC0.out.cell 5 rfl
  have c6 := HC0.out.cell 6 rfl
  have c7 := HC0.out.cell 7 rfl
  have c8 := HC0.out.cell 8 rfl
  have c9 := HC0.out.cell 9 rfl
  have c10 := HC0.out.cell 10 rfl
  go_wp2_with fail
  refine (HI.out _).mono ?_
  rintro e w2 ⟨gm, rfl, hg, m2, g2⟩
  have G2 := Lib.hid (gb_trans HG.out g2)
  have M2 := Lib.hid m2
  have HH : Hid (w.heap.size ≤ gm) := Lib.hid (Nat.le_trans HG.out.size hg)
  clear c0 c1 c2 c3 c4 c5 c6 c7 c8 c9 c10 HC0 g2 m2 hg
  go_wp2
  go_ret
  exact ⟨_, gm, rfl, (cs_new w2 _ _).cell 0 rfl, G2.out.size, HH.out, M2.out.grown (gb_alloc (gb_refl _ none) _), gb_alloc G2.out _⟩
set_option maxRecDepth 100000 in
theorem karaNew_c (w : World) (t : Tb) : Calls Tryz.prog 54 #[t.v] w fun e w' => ∃ g2 g3 gm, e = .returned (.pointer (some ⟨g2, 0, none⟩)) ∧ w'.cell? ⟨g2, 0, none⟩ = some (.pointer (some ⟨g3, 0, none⟩)) ∧ w'.cell? ⟨g3, 0, none⟩ = some (.pointer (some ⟨gm, 0, none⟩)) ∧ (w.heap.size ≤ g2 ∧ w.heap.size ≤ g3) ∧ w.heap.size ≤ gm ∧ Mt w' gm 0 0 ⟨0, tbT t.clamp⟩ ∧ w.grownBy w' none := by
  have HI := Lib.hid (fun w => schoolNew_c w t)
  have C0 := cs_new w #[.int .i64 t.eb, .int .i64 t.et, .int .i64 t.en, .int .i64 t.ed, .int .i64 t.er, .int .i64 t.el, .int .i64 t.ex, .int .i64 t.ep, .int .i64 t.ek, .int .i64 t.es, .int .i64 t.ee] 23
  have hg := gb_alloc (gb_refl w none) (Obj.cells #[.int .i64 t.eb, .int .i64 t.et, .int .i64 t.en, .int .i64 t.ed, .int .i64 t.er, .int .i64 t.el, .int .i64 t.ex, .int .i64 t.ep, .int .i64 t.ek, .int .i64 t.es, .int .i64 t.ee] 23)
  have HG := Lib.hid hg
  have HC0 := Lib.hid C0
  clear C0 hg
  go_enter Tryz.func54, Tryz.ntmps54
  have c0 := HC0.out.cell 0 rfl
  have c1 := HC0.out.cell 1 rfl
  have c2 := HC0.out.cell 2 rfl
  have c3 := HC0.out.cell 3 rfl
  have c4 := HC0.out.cell 4 rfl
  have c5 := HC0.out.cell 5 rfl
  have c6 := HC0.out.cell 6 rfl
  have c7 := HC0.out.cell 7 rfl
  have c8 := HC0.out.cell 8 rfl
  have c9 := HC0.out.cell 9 rfl
  have c10 := HC0.out.cell 10 rfl
  go_wp2_with fail
  refine (HI.out _).mono ?_
  rintro e w2 ⟨g3, gm, rfl, k3, hg3, hg, m2, g2⟩
  have G2 := Lib.hid (gb_trans HG.out g2)
  have M2 := Lib.hid m2
  have K3 := Lib.hid k3
  have HH : Hid (w.heap.size ≤ g3 ∧ w.heap.size ≤ gm) := Lib.hid ⟨Nat.le_trans HG.out.size hg3, Nat.le_trans HG.out.size hg⟩
  clear c0 c1 c2 c3 c4 c5 c6 c7 c8 c9 c10 HC0 g2 m2 hg hg3 k3
  go_wp2
  go_ret
  have ga := gb_alloc (gb_refl w2 none) (Obj.cells #[.pointer (some ⟨g3, 0, none⟩)] 53)
  exact ⟨_, g3, gm, rfl, (cs_new w2 _ _).cell 0 rfl, gb_cell0 ga K3.out, ⟨G2.out.size, HH.out.1⟩, HH.out.2, M2.out.grown ga, gb_alloc G2.out _⟩
set_option maxRecDepth 100000 in
theorem toomNew_c (w : World) (t : Tb) : Calls Tryz.prog 40 #[t.v] w fun e w' => ∃ g1 g2 g3 gm, e = .returned (.pointer (some ⟨g1, 0, none⟩)) ∧ w'.cell? ⟨g1, 0, none⟩ = some (.pointer (some ⟨g2, 0, none⟩)) ∧ w'.cell? ⟨g2, 0, none⟩ = some (.pointer (some ⟨g3, 0, none⟩)) ∧ w'.cell? ⟨g3, 0, none⟩ = some (.pointer (some ⟨gm, 0, none⟩)) ∧ (w.heap.size ≤ g1 ∧ w.heap.size ≤ g2 ∧ w.heap.size ≤ g3) ∧ w.heap.size ≤ gm ∧ Mt w' gm 0 0 ⟨0, tbT t.clamp⟩ ∧ w.grownBy w' none := by
  have HI := Lib.hid (fun w => karaNew_c w t)
  have C0 := cs_new w #[.int .i64 t.eb, .int .i64 t.et, .int .i64 t.en, .int .i64 t.ed, .int .i64 t.er, .int .i64 t.el, .int .i64 t.ex, .int .i64 t.ep, .int .i64 t.ek, .int .i64 t.es, .int .i64 t.ee] 23
  have hg := gb_alloc (gb_refl w none) (Obj.cells #[.int .i64 t.eb, .int .i64 t.et, .int .i64 t.en, .int .i64 t.ed, .int .i64 t.er, .int .i64 t.el, .int .i64 t.ex, .int .i64 t.ep, .int .i64 t.ek, .int .i64 t.es, .int .i64 t.ee] 23)
  have HG := Lib.hid hg
  have HC0 := Lib.hid C0
  clear C0 hg
  go_enter Tryz.func40, Tryz.ntmps40
  have c0 := HC0.out.cell 0 rfl
  have c1 := HC0.out.cell 1 rfl
  have c2 := HC0.out.cell 2 rfl
  have c3 := HC0.out.cell 3 rfl
  have c4 := HC0.out.cell 4 rfl
  have c5 := HC0.out.cell 5 rfl
  have c6 := HC0.out.cell 6 rfl
  have c7 := HC0.out.cell 7 rfl
  have c8 := HC0.out.cell 8 rfl
  have c9 := HC0.out.cell 9 rfl
  have c10 := HC0.out.cell 10 rfl
  go_wp2_with fail
  refine (HI.out _).mono ?_
  rintro e w2 ⟨g2, g3, gm, rfl, k2, k3, hg3, hg, m2, g2'⟩
  have G2 := Lib.hid (gb_trans HG.out g2')
  have M2 := Lib.hid m2
  have K3 := Lib.hid (And.intro k2 k3)
  have HH : Hid ((w.heap.size ≤ g2 ∧ w.heap.size ≤ g3) ∧ w.heap.size ≤ gm) := Lib.hid ⟨⟨Nat.le_trans HG.out.size hg3.1, Nat.le_trans HG.out.size hg3.2⟩, Nat.le_trans HG.out.size hg⟩
  clear c0 c1 c2 c3 c4 c5 c6 c7 c8 c9 c10 HC0 g2' m2 hg hg3 k2 k3
  go_wp2
  go_ret
  have ga := gb_alloc (gb_refl w2 none) (Obj.cells #[.pointer (some ⟨g2, 0, none⟩)] 50)
  exact ⟨_, g2, g3, gm, rfl, (cs_new w2 _ _).cell 0 rfl, gb_cell0 ga K3.out.1, gb_cell0 ga K3.out.2, ⟨G2.out.size, HH.out.1⟩, HH.out.2, M2.out.grown ga, gb_alloc G2.out _⟩
set_option maxRecDepth 100000 in
theorem mulNew_c (w : World) (t : Tb) : Calls Tryz.prog 12 #[t.v] w fun e w' => ∃ g0 g1 g2 g3 gm, e = .returned (.pointer (some ⟨g0, 0, none⟩)) ∧ Eng w' g0 g1 g2 g3 gm ∧ w.heap.size ≤ gm ∧ Mt w' gm 0 0 ⟨0, tbT t.clamp⟩ ∧ w.grownBy w' none := by
  have HI := Lib.hid (fun w => toomNew_c w t)
  have C0 := cs_new w #[.int .i64 t.eb, .int .i64 t.et, .int .i64 t.en, .int .i64 t.ed, .int .i64 t.er, .int .i64 t.el, .int .i64 t.ex, .int .i64 t.ep, .int .i64 t.ek, .int .i64 t.es, .int .i64 t.ee] 23
  have hg := gb_alloc (gb_refl w none) (Obj.cells #[.int .i64 t.eb, .int .i64 t.et, .int .i64 t.en, .int .i64 t.ed, .int .i64 t.er, .int .i64 t.el, .int .i64 t.ex, .int .i64 t.ep, .int .i64 t.ek, .int .i64 t.es, .int .i64 t.ee] 23)
  have HG := Lib.hid hg
  have HC0 := Lib.hid C0
  clear C0 hg
  go_enter Tryz.func12, Tryz.ntmps12
  have c0 := HC0.out.cell 0 rfl
  have c1 := HC0.out.cell 1 rfl
  have c2 := HC0.out.cell 2 rfl
  have c3 := HC0.out.cell 3 rfl
  have c4 := HC0.out.cell 4 rfl
  have c5 := HC0.out.cell 5 rfl
  have c6 := HC0.out.cell 6 rfl
  have c7 := HC0.out.cell 7 rfl
  have c8 := HC0.out.cell 8 rfl
  have c9 := HC0.out.cell 9 rfl
  have c10 := HC0.out.cell 10 rfl
  go_wp2_with fail
  refine (HI.out _).mono ?_
  rintro e w2 ⟨g1, g2, g3, gm, rfl, k1, k2, k3, hg3, hg, m2, g2'⟩
  have G2 := Lib.hid (gb_trans HG.out g2')
  have M2 := Lib.hid m2
  have K3 := Lib.hid (And.intro k1 (And.intro k2 k3))
  have HH : Hid (w.heap.size ≤ gm) := Lib.hid (Nat.le_trans HG.out.size hg)
  clear c0 c1 c2 c3 c4 c5 c6 c7 c8 c9 c10 HC0 g2' m2 hg hg3 k1 k2 k3
  go_wp2
  go_ret
  have ga := gb_alloc (gb_refl w2 none) (Obj.cells #[.pointer (some ⟨g1, 0, none⟩)] 47)
  have mm := M2.out.grown ga
  have e0 := (cs_new w2 #[.pointer (some ⟨g1, 0, none⟩)] 47).cell 0 rfl
  have e1 := gb_cell0 ga K3.out.1
  have e2 := gb_cell0 ga K3.out.2.1
  have e3 := gb_cell0 ga K3.out.2.2
  exact ⟨_, g1, g2, g3, gm, rfl, ⟨e0, e1, e2, e3, Md.ptr_ne e0 mm, Md.ptr_ne e1 mm, Md.ptr_ne e2 mm, Md.ptr_ne e3 mm⟩, HH.out, mm, gb_alloc G2.out _⟩
end Go.Proofs.YtldkiddoajlohaaGreatDoor

/- Rows of rows that are appended to; products in pieces. -/
namespace Go.Proofs.YtldkiddoajlohaaGreatDoor
open Go.RowKit

/-- A row of naturals, of the call's own. -/
def OwnV (w : World) (base : Nat) (v : Value) (vs : List Value) : Prop := w.ownsRow base 34 1 v vs.length vs
theorem ownv_nil (w : World) (base : Nat) : OwnV w base (.slice none 0 0) [] := ⟨rfl, .inl ⟨rfl, rfl⟩⟩
theorem OwnV.grown {w w' : World} {base : Nat} {v : Value} {vs : List Value} {row : Option Nat} (h : OwnV w base v vs) (hg : w.grownBy w' row) (hr : v.ownBlock = none ∨ v.ownBlock ≠ row) : OwnV w' base v vs := h.kept hg hr
theorem OwnV.grown0 {w w' : World} {base : Nat} {v : Value} {vs : List Value} (h : OwnV w base v vs) (hg : w.grownBy w' none) : OwnV w' base v vs :=
  h.grown hg (by cases v.ownBlock <;> simp)
theorem OwnV.lt {w : World} {base : Nat} {v : Value} {vs : List Value} (h : OwnV w base v vs) : ∀ k, v.ownBlock = some k → base ≤ k ∧ k < w.heap.size := World.ownsRow.lt h
theorem OwnV.growng {w w' : World} {base gm : Nat} {v : Value} {vs : List Value} (h : OwnV w base v vs) (hg : w.grownBy w' (some gm)) (hb : gm < base) : OwnV w' base v vs :=
  h.grown hg (by
    cases e : v.ownBlock with
    | none => exact .inl rfl
    | some k => right; intro e2; have := (h.lt k e).1; simp only [Option.some.injEq] at e2; omega)
theorem OwnV.form {w : World} {base : Nat} {v : Value} {vs : List Value} (h : OwnV w base v vs) :
    (v = .slice none 0 0 ∧ vs = []) ∨ ∃ g c, v = .slice (some ⟨g, 0, none⟩) vs.length c ∧ base ≤ g ∧ g < w.heap.size ∧ vs.length ≤ c ∧ c ≤ 9223372036854775807 := by
  rcases h.2 with ⟨h1, h2⟩ | ⟨g, cap, cur, hv, hg, hh, h1, h2, _⟩
  · exact .inl ⟨h1, List.eq_nil_of_length_eq_zero h2⟩
  · exact .inr ⟨g, cap, hv, hg, (Array.getElem?_eq_some_iff.1 hh).1, h1, by simpa [maxLen] using h2⟩
theorem OwnV.cells {w : World} {base : Nat} {v : Value} {vs : List Value} (h : OwnV w base v vs) : Cells w v vs.length 1 (fun j => vs.getD j undef) := by
  rcases h.form with ⟨rfl, rfl⟩ | ⟨g, c, rfl, h1, h2, h3, h4⟩
  · exact ⟨none, 0, rfl, by simp, by omega, fun h => by simp at h⟩
  · refine ⟨_, c, rfl, h3, h4, fun _ => ⟨g, 0, rfl, fun j hj => ?_⟩⟩
    have := World.ownsRow.cellAt h j (by omega)
    rw [Nat.mul_one] at hj
    show w.cell? ⟨g, 0 + j, none⟩ = some (vs.getD j undef)
    rw [Nat.zero_add, this, List.getD_eq_getElem?_getD, List.getElem?_eq_getElem hj]
    rfl
theorem own_ne {w : World} {b b' : Nat} {u v : Value} {xs : List Int} {vs : List Value} (h : Own w b u xs) (h' : OwnV w b' v vs) : u.ownBlock = none ∨ u.ownBlock ≠ v.ownBlock := by
  rcases h.1.2 with ⟨rfl, _⟩ | ⟨g, cap, cur, rfl, _, hh, _⟩
  · exact .inl rfl
  · right
    rcases h'.2 with ⟨rfl, _⟩ | ⟨g', cap', cur', rfl, _, hh', _⟩
    · simp [Value.ownBlock]
    · intro e
      simp only [Value.ownBlock, Option.some.injEq] at e
      subst e
      rw [hh] at hh'
      simp at hh'
theorem Wv.append {W W' : World} {D b : Nat} {l : List (Value × Nat)} {v : Value} {vs : List Value} (h : Wv W D l) (hv : OwnV W b v vs) (g : W.grownBy W' v.ownBlock) : Wv W' D l := fun i p hp => by
  obtain ⟨zs, ow, nz, e⟩ := h i p hp
  exact ⟨zs, ow.grown g (own_ne ow hv), nz, e⟩
theorem info_nat : (Tryz.prog.info? 34).map (fun i => (i.zero, i.size, i.bytes)) = some (some (.slice none 0 0), 1, 24) := by kernel_rfl
theorem ownv_append {w : World} {base : Nat} {ops : Array Oper} {rest : List Oper} {o : Oper} {a : Act} {Q : Exit → Act → World → Prop} (t : TypeId) (ht : Tryz.prog.underlying t = some (.slice 34))
    (s x : Operand) (hgd : o.guard = none) (ho : o.op = .call { callee := .builtin .append, args := #[s, x], argTypes := #[t, t] })
    (v : Value) (vs : List Value) (hs : a.eval s = v) (hown : OwnV w base v vs)
    (g : Nat) (A : Option Addr) (n c : Nat) (hx : a.eval x = .slice (some ⟨g, 0, none⟩) 1 1) (hc : w.cell? ⟨g, 0, none⟩ = some (.slice A n c)) (hb : vs.length ≤ 1000000) (hbase : base ≤ w.heap.size)
    (h : ∀ v' w', OwnV w' base v' (vs ++ [.slice A n c]) → w.grownBy w' v.ownBlock → wpList Tryz.prog ops Q rest (a.put o.dst v') w') : wpList Tryz.prog ops Q (o :: rest) a w := by
  obtain ⟨i, hi, he⟩ := Option.map_eq_some_iff.1 info_nat
  simp only [Prod.mk.injEq] at he
  refine wpList_append_own w hgd s x t ho base 34 i (.slice none 0 0) 1 24 ht hi he.1 he.2.1 he.2.2 rfl (by decide) v vs.length vs hs hown ⟨g, 0, none⟩ 1 1 [.slice A n c] hx rfl (fun j u hu => ?_) (fun u hu => ?_) (by unfold maxLen; omega) (by omega) hbase ?_
  · cases j with
    | zero => obtain rfl := Option.some.inj hu; exact hc
    | succ j => simp at hu
  · obtain rfl := List.mem_singleton.1 hu
    rfl
  · intro v' w' h2 h3 _
    refine h v' w' ?_ h3
    show World.ownsRow _ _ _ _ _ (vs ++ [_]).length _
    rw [List.length_append]
    exact h2
theorem Wv.pick {W : World} {D N : Nat} {l : List (Value × Nat)} (h : Wv W D l) (hN : ∀ (i : Nat) (p : Value × Nat), l[i]? = some p → p.2 < B64 ^ N) : ∃ X : Nat → List Int, ∀ j, j < l.length → Sl W ((l.map (·.1)).getD j undef) (X j) ∧ (X j).length ≤ N ∧ val B64 (X j) = (l.map (·.2)).getD j 0 := by
  have e : ∀ j, ∃ X : List Int, j < l.length → Sl W ((l.map (·.1)).getD j undef) X ∧ X.length ≤ N ∧ val B64 X = (l.map (·.2)).getD j 0 := fun j => by
    by_cases hj : j < l.length
    · obtain ⟨zs, s, ln, v⟩ := (h j l[j] (List.getElem?_eq_getElem hj)).get (hN j l[j] (List.getElem?_eq_getElem hj))
      refine ⟨zs, fun _ => ⟨?_, ln, ?_⟩⟩
      · rw [List.getD_eq_getElem?_getD, List.getElem?_map, List.getElem?_eq_getElem hj]; exact s
      · rw [List.getD_eq_getElem?_getD, List.getElem?_map, List.getElem?_eq_getElem hj]; exact v
    · exact ⟨[], fun k => absurd k hj⟩
  exact ⟨fun j => Classical.choose (e j), fun j => Classical.choose_spec (e j)⟩
theorem jS_pieces (al : List Int) (m bv : Nat) : ∀ cnt, jS m (fun j => val B64 ((al.drop (m * j)).take m) * bv) cnt = val B64 (al.take (m * cnt)) * bv
  | 0 => by simp [jS, val]
  | cnt + 1 => by
    rw [jS, jS_pieces al m bv cnt, Nat.mul_add, Nat.mul_one]
    have e := val_cut (al.take (m * cnt + m)) (m * cnt)
    rw [List.take_take, Nat.min_eq_left (by omega), List.drop_take, Nat.add_sub_cancel_left] at e
    rw [e, Nat.add_mul, Nat.mul_assoc]
/-- The products of so many pieces. -/
def PcL (al : List Int) (bv m : Nat) (L : List (Value × Nat)) : Prop := ∀ (j : Nat) (p : Value × Nat), L[j]? = some p → p.2 = val B64 ((al.drop (m * j)).take m) * bv
theorem PcL.nil (al : List Int) (bv m : Nat) : PcL al bv m [] := fun j p h => by simp at h
theorem PcL.add {al : List Int} {bv m i : Nat} {L : List (Value × Nat)} (h : PcL al bv m L) (hi : L.length = i) (x : Value) : PcL al bv m (L ++ [(x, val B64 ((al.drop (m * i)).take m) * bv)]) := fun j p hp => by
  by_cases hj : j < L.length
  · rw [List.getElem?_append_left hj] at hp
    exact h j p hp
  · rw [List.getElem?_append_right (by omega)] at hp
    cases hk : j - L.length with
    | zero => rw [hk] at hp; obtain rfl := Option.some.inj hp; rw [show j = i by omega]
    | succ k => rw [hk] at hp; simp at hp
theorem PcL.lt {al bl : List Int} {m : Nat} {L : List (Value × Nat)} (h : PcL al (val B64 bl) m L) (ha : Ws al) (hb : Ws bl) (hm : bl.length = m) : ∀ (i : Nat) (p : Value × Nat), L[i]? = some p → p.2 < B64 ^ (m + m) := fun i p hp => by
  rw [h i p hp]
  refine mul_lt_pow ?_ ?_
  · have := val_lt (B := B64) (ws_take (ws_drop ha (m * i)) m).dg
    exact Nat.lt_of_lt_of_le this (Nat.pow_le_pow_right (by decide) (by rw [List.length_take]; exact Nat.min_le_left _ _))
  · have := val_lt (B := B64) hb.dg
    rw [hm] at this
    exact this
theorem PcL.all {al : List Int} {bv m : Nat} {L : List (Value × Nat)} (h : PcL al bv m L) (hl : al.length ≤ m * L.length) : jS m (fun j => (L.map (·.2)).getD j 0) L.length = val B64 al * bv := by
  have e := jS_pieces al m bv L.length
  rw [List.take_of_length_le hl] at e
  rw [← e]
  refine jS_congr _ fun j hj => ?_
  rw [List.getD_eq_getElem?_getD, List.getElem?_map, List.getElem?_eq_getElem hj]
  exact h j _ (List.getElem?_eq_getElem hj)
/-- What so many pieces cost. -/
def pcost (n m k1 k2 i : Nat) : Nat := if m * i ≤ n then i * k1 else n / m * k1 + k2
def pall (n m k1 k2 : Nat) : Nat := n / m * k1 + if 0 < n % m then k2 else 0
theorem pcost_0 (n m k1 k2 : Nat) : pcost n m k1 k2 0 = 0 := by unfold pcost; rw [if_pos (by omega), Nat.zero_mul]
theorem pcost_full {n m k1 k2 i : Nat} (h : m * (i + 1) ≤ n) : pcost n m k1 k2 (i + 1) = pcost n m k1 k2 i + k1 := by
  have : m * i ≤ n := by rw [Nat.mul_add] at h; omega
  unfold pcost
  rw [if_pos h, if_pos this, Nat.add_mul, Nat.one_mul]
theorem pcost_last {n m k1 k2 i : Nat} (h0 : m * i < n) (h : n < m * (i + 1)) : pcost n m k1 k2 (i + 1) = pcost n m k1 k2 i + k2 := by
  have hm : 0 < m := by
    rcases Nat.eq_zero_or_pos m with rfl | h
    · simp at h
    · exact h
  have : n / m = i := by
    rw [Nat.div_eq_iff hm]
    rw [Nat.mul_add, Nat.mul_one] at h
    rw [Nat.mul_comm i m]
    omega
  unfold pcost
  rw [if_neg (by omega), if_pos (by omega), this]
theorem pcost_end {n m k1 k2 i : Nat} (hm : 0 < m) (h0 : n ≤ m * i) (h : m * i < n + m) : pcost n m k1 k2 i = pall n m k1 k2 := by
  unfold pcost pall
  have e := Nat.div_add_mod n m
  have lt := Nat.mod_lt n hm
  by_cases hle : m * i ≤ n
  · have : n / m = i := by
      rw [Nat.div_eq_iff hm, Nat.mul_comm i m]; omega
    rw [if_pos hle, this, if_neg (by rw [this] at e; omega), Nat.add_zero]
  · rw [if_neg hle]
    congr 1
    refine (if_pos ?_).symm
    rcases Nat.eq_zero_or_pos (n % m) with hz | hz
    · exfalso
      rw [hz, Nat.add_zero] at e
      have h1 : m * i < m * (n / m + 1) := by rw [Nat.mul_add, Nat.mul_one, e]; exact h
      have h2 : m * (n / m) < m * i := by rw [e]; omega
      have h3 := Nat.lt_of_mul_lt_mul_left h1
      have h4 := Nat.lt_of_mul_lt_mul_left h2
      omega
    · exact hz
theorem pcost_le {n m k1 k2 i : Nat} (hm : 0 < m) (h : m * i < n + m) : pcost n m k1 k2 i ≤ pall n m k1 k2 := by
  by_cases hle : m * i ≤ n
  · have e : i ≤ n / m := (Nat.le_div_iff_mul_le hm).2 (by rw [Nat.mul_comm]; exact hle)
    unfold pcost pall
    rw [if_pos hle]
    have := Nat.mul_le_mul_right k1 e
    omega
  · rw [pcost_end hm (by omega) h]
    exact Nat.le_refl _
theorem Mt.rowo {w w' : World} {g : Nat} {a b : Int} {c : Mc} {row : Option Nat} (m : Mt w g a b c) (o : w.grownBy w' row) (hr : some g ≠ row) : Mt w' g a b c := by
  have hb := o.block g (World.block_lt_of_cell? w _ m.c0) hr
  have e : ∀ j, w'.cell? ⟨g, j, none⟩ = w.cell? ⟨g, j, none⟩ := fun j => World.cell?_of_block hb
  have f : ∀ j, w'.frozen? ⟨g, j, none⟩ = w.frozen? ⟨g, j, none⟩ := fun j => World.frozen?_of_block hb
  exact ⟨(e 0).trans m.c0, (e 1).trans m.c1, (e 2).trans m.c2, (f 0).trans m.f0, (f 1).trans m.f1, (f 2).trans m.f2, m.a0, m.b0, m.c0', fun j hj => (e j).trans (m.rest j hj)⟩
theorem Wv.parts {W : World} {D b m : Nat} {al bl : List Int} {L : List (Value × Nat)} {v : Value} (h : Wv W D L) (p : PcL al (val B64 bl) m L) (o : OwnV W b v (L.map (·.1))) (ha : Ws al) (hb : Ws bl) (hm : bl.length = m) (hl : al.length ≤ m * L.length) :
    ∃ X : Nat → List Int, Pts W v L.length (fun j => (L.map (·.1)).getD j undef) X ∧ (∀ j, j < L.length → (X j).length ≤ m + m) ∧ jS m (fun j => val B64 (X j)) L.length = val B64 al * val B64 bl := by
  obtain ⟨X, hX⟩ := h.pick (p.lt ha hb hm)
  have oc := o.cells
  rw [List.length_map] at oc
  refine ⟨X, ⟨oc, fun j hj => (hX j hj).1⟩, fun j hj => (hX j hj).2.1, ?_⟩
  rw [← p.all hl]
  exact jS_congr _ fun j hj => (hX j hj).2.2
end Go.Proofs.YtldkiddoajlohaaGreatDoor
