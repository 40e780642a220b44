/- Primes: the test. -/
import Derived.Test.YtoiclkaecgpbbaaDoorPri1
import Derived.Test.YtoiclkaecgpbbaaDoorCs
namespace Go.Proofs.YtoiclkaecgpbbaaDoor
open Go.RowKit

/-- The table that finds the lowest digit stands. -/
def Db (w : World) : Prop := ∀ i, i < 64 → w.cell? ⟨0, i, none⟩ = some (.int .u8 ((db.getD i 0 : Nat) : Int))
theorem Db.grown0 {w w' : World} (h : Db w) (g : w.grownBy w' none) : Db w' := fun i hi => gb_cell0 g (h i hi)
set_option maxRecDepth 100000 in
theorem tz64_c (w : World) (x : Nat) (h0 : 0 < x) (hx : x < 2 ^ 64) (hd : Db w) :
    Calls Tryd.prog 53 #[.int .u64 x] w fun e w' => e = .returned (.int .i64 ((tz x).1 : Nat)) ∧ w' = w := by
  obtain ⟨e1, e2, e3⟩ := tzF_spec 64 x h0 hx
  change x = 2 ^ (tz x).1 * (tz x).2 at e1
  change (tz x).2 % 2 = 1 at e2
  change (tz x).1 < 64 at e3
  obtain ⟨s, hs⟩ : ∃ s, s = (tz x).1 := ⟨_, rfl⟩
  obtain ⟨d, hd'⟩ : ∃ d, d = (tz x).2 := ⟨_, rfl⟩
  rw [← hs, ← hd'] at e1
  rw [← hd'] at e2
  rw [← hs] at e3 ⊢
  obtain ⟨y, hy⟩ : ∃ y, y = 2 ^ 64 - x := ⟨_, rfl⟩
  have hn : IntKind.u64.wrap (-(x : Int)) = (y : Int) := by rw [IntKind.wrap_u64]; omega
  have hl : x &&& y = 2 ^ s := by
    have := low_bit s (d / 2) (by rw [show 2 * (d / 2) + 1 = d by omega, ← e1]; exact hx)
    rw [show 2 * (d / 2) + 1 = d by omega, ← e1, ← hy] at this
    exact this
  obtain ⟨P, hP⟩ : ∃ P, P = 2 ^ s := ⟨_, rfl⟩
  have hb : bits .and .u64 (x : Int) (y : Int) = (P : Int) := by
    rw [bits_and_u64_nat x y (by omega) (by omega), hl, hP]
  obtain ⟨q, hq⟩ : ∃ q, q = P * 285870213051353865 % 18446744073709551616 := ⟨_, rfl⟩
  have hm : IntKind.u64.wrap ((P : Int) * 285870213051353865) = (q : Int) := by rw [IntKind.wrap_u64]; omega
  obtain ⟨t1, t2⟩ := db_at s e3
  rw [← hP, ← hq] at t1 t2
  obtain ⟨i, hi⟩ : ∃ i, i = q / 2 ^ 58 := ⟨_, rfl⟩
  rw [← hi] at t1 t2
  have hsh : (q : Int) / 2 ^ 58 = (i : Int) := by omega
  have hsh2 : (q : Int) / 288230376151711744 = (i : Int) := by omega
  have ci := hd i t1
  rw [t2] at ci
  have hx0 : ((x : Int) == 0) = false := by simp; omega
  have t64 : i < 64 := t1
  clear e1 e2 hs hd' hy hl hP hq hi hd t1 t2
  go_enter Tryd.func53, Tryd.ntmps53
  go_wp2
  go_ret
  exact ⟨rfl, rfl⟩
theorem divB_some {n p : Nat} : ∀ {l : List Nat}, divB n l = some p → p ∈ l ∧ n % p = 0
  | [], h => by cases h
  | q :: l, h => by
    unfold divB at h
    by_cases hq : n % q = 0
    · rw [if_pos hq] at h; obtain rfl := Option.some.inj h; exact ⟨List.mem_cons_self .., hq⟩
    · rw [if_neg hq] at h; obtain ⟨h1, h2⟩ := divB_some h; exact ⟨List.mem_cons_of_mem _ h1, h2⟩
theorem divB_skip {n : Nat} : ∀ {l : List Nat} (i : Nat), (∀ j, j < i → n % l.getD j 1 ≠ 0) → divB n l = divB n (l.drop i)
  | [], i, _ => by rw [List.drop_nil]
  | q :: l, 0, _ => rfl
  | q :: l, i + 1, h => by
    have h0 : n % q ≠ 0 := h 0 (by omega)
    have h1 := divB_skip (l := l) i (fun j hj => h (j + 1) (by omega))
    show divB n (q :: l) = divB n (l.drop i)
    rw [divB, if_neg h0]; exact h1
theorem divB_hit {n i : Nat} (hi : i < 12) (h : ∀ j, j < i → n % smallP.getD j 1 ≠ 0) (k : n % smallP.getD i 1 = 0) : divB n smallP = some (smallP.getD i 1) := by
  rw [divB_skip i h]
  have e : smallP.drop i = smallP.getD i 1 :: smallP.drop (i + 1) := by
    rw [List.drop_eq_getElem_cons (show i < smallP.length from hi), List.getD_eq_getElem?_getD, List.getElem?_eq_getElem (show i < smallP.length from hi)]; rfl
  rw [e, divB, if_pos k]
theorem divB_none {n : Nat} (h : ∀ j, j < 12 → n % smallP.getD j 1 ≠ 0) : divB n smallP = none := by
  rw [divB_skip 12 h]; rfl
theorem all_hit {f : Nat → Bool} {l : List Nat} {i : Nat} (hi : i < l.length) (k : f (l.getD i 1) = false) : l.all f = false := by
  cases e : l.all f with
  | false => rfl
  | true =>
    have := List.all_eq_true.1 e (l.getD i 1) (by rw [List.getD_eq_getElem?_getD, List.getElem?_eq_getElem hi]; exact List.getElem_mem hi)
    rw [k] at this; cases this
theorem all_none {f : Nat → Bool} {l : List Nat} (h : ∀ j, j < l.length → f (l.getD j 1) = true) : l.all f = true := by
  refine List.all_eq_true.2 fun x hx => ?_
  obtain ⟨j, hj, rfl⟩ := List.getElem_of_mem hx
  have := h j hj
  rwa [List.getD_eq_getElem?_getD, List.getElem?_eq_getElem hj] at this
theorem smallP_at (i : Nat) (hi : i < 12) : 2 ≤ smallP.getD i 1 ∧ smallP.getD i 1 ≤ 37 := by
  have : ∀ i : Fin 12, 2 ≤ smallP.getD i.1 1 ∧ smallP.getD i.1 1 ≤ 37 := by decide
  exact this ⟨i, hi⟩
theorem big_of {n : Nat} (h2 : ¬ n < 2) (h : ∀ j, j < 12 → n % smallP.getD j 1 ≠ 0) : 37 < n := by
  by_cases k : 37 < n
  · exact k
  · have : ∀ n : Fin 38, 2 ≤ n.1 → ∃ j : Fin 12, n.1 % smallP.getD j.1 1 = 0 := by decide
    obtain ⟨j, hj⟩ := this ⟨n, by omega⟩ (by show 2 ≤ n; omega)
    exact absurd hj (h j.1 j.2)
theorem tz_facts {n : Nat} (h0 : 2 < n) (h1 : n < 2 ^ 64) (ho : n % 2 ≠ 0) : 0 < (tz (n - 1)).1 ∧ (tz (n - 1)).1 ≤ 64 ∧ (tz (n - 1)).2 < 2 ^ 64 ∧ (n - 1) / 2 ^ (tz (n - 1)).1 = (tz (n - 1)).2 := by
  obtain ⟨e1, e2, e3⟩ := tzF_spec 64 (n - 1) (by omega) (by omega)
  change n - 1 = 2 ^ (tz (n - 1)).1 * (tz (n - 1)).2 at e1
  change (tz (n - 1)).2 % 2 = 1 at e2
  change (tz (n - 1)).1 < 64 at e3
  have hp : 0 < 2 ^ (tz (n - 1)).1 := Nat.pow_pos (by decide)
  refine ⟨?_, by omega, ?_, ?_⟩
  · by_cases k : 0 < (tz (n - 1)).1
    · exact k
    · rw [show (tz (n - 1)).1 = 0 by omega, Nat.pow_zero, Nat.one_mul] at e1; omega
  · have : (tz (n - 1)).2 * 1 ≤ (tz (n - 1)).2 * 2 ^ (tz (n - 1)).1 := Nat.mul_le_mul_left _ hp
    rw [Nat.mul_comm _ (2 ^ _)] at this
    omega
  · exact Nat.div_eq_of_eq_mul_right hp e1
def smallV : Value := .agg #[.int .u64 2, .int .u64 3, .int .u64 5, .int .u64 7, .int .u64 11, .int .u64 13, .int .u64 17, .int .u64 19, .int .u64 23, .int .u64 29, .int .u64 31, .int .u64 37]
set_option maxRecDepth 10000 in
theorem small_ix (w : World) (i : Nat) (hi : i < 12) : (Instr.index 82 (.agg #[.int .u64 2, .int .u64 3, .int .u64 5, .int .u64 7, .int .u64 11, .int .u64 13, .int .u64 17, .int .u64 19, .int .u64 23, .int .u64 29, .int .u64 31, .int .u64 37]) (.int .i64 i)).run Tryd.prog w = .ok (.int .u64 (smallP.getD i 1 : Nat)) w := by
  rcases i with _ | _ | _ | _ | _ | _ | _ | _ | _ | _ | _ | _ | i
  · rfl
  · rfl
  · rfl
  · rfl
  · rfl
  · rfl
  · rfl
  · rfl
  · rfl
  · rfl
  · rfl
  · rfl
  · exact absurd hi (by omega)
set_option maxRecDepth 100000 in
set_option maxHeartbeats 1000000 in
theorem is_c (w : World) (n : Nat) (hn : n < 2 ^ 64) (hd : Db w) :
    Calls Tryd.prog 14 #[.int .u64 n] w fun e w' => e = .returned (.bool (isP n)) ∧ w.grownBy w' none := by
  by_cases h2 : n < 2
  · have fin : isP n = false := by unfold isP; rw [if_pos h2]
    rw [fin]
    clear fin hn hd
    go_enter Tryd.func14, Tryd.ntmps14
    go_wp2
    go_ret
    exact ⟨rfl, gb_refl _ _⟩
  · have hit : ∀ i, i < 12 → (∀ j, j < i → n % smallP.getD j 1 ≠ 0) → n % smallP.getD i 1 = 0 → isP n = (n == smallP.getD i 1) := fun i hi h k => by
      unfold isP; rw [if_neg h2, divB_hit hi h k]
    have non : (∀ j, j < 12 → n % smallP.getD j 1 ≠ 0) → isP n = smallP.all fun p => !wit p n (tz (n - 1)).2 (tz (n - 1)).1 := fun h => by
      unfold isP; rw [if_neg h2, divB_none h]
    have tf : (∀ j, j < 12 → n % smallP.getD j 1 ≠ 0) → 0 < (tz (n - 1)).1 ∧ (tz (n - 1)).1 ≤ 64 ∧ (tz (n - 1)).2 < 2 ^ 64 ∧ (n - 1) / 2 ^ (tz (n - 1)).1 = (tz (n - 1)).2 := fun h =>
      tz_facts (by have := h 0 (by decide); simp [smallP] at this; omega) hn (h 0 (by decide))
    have HIT := Lib.hid hit
    have NON := Lib.hid non
    have TF := Lib.hid tf
    have HN := Lib.hid hn
    have HD := Lib.hid hd
    clear hit non tf hn hd
    have h2' : ¬ (n : Int) < 2 := by omega
    go_enter Tryd.func14, Tryd.ntmps14
    go_wp2
    go_loopw [14] (fun v14 wr => ∃ i : Nat, v14 = .int .i64 i ∧ i ≤ 12 ∧ (∀ j, j < i → n % smallP.getD j 1 ≠ 0) ∧ Cs wr w.heap.size [.int .u64 2, .int .u64 3, .int .u64 5, .int .u64 7, .int .u64 11, .int .u64 13, .int .u64 17, .int .u64 19, .int .u64 23, .int .u64 29, .int .u64 31, .int .u64 37] ∧ w.grownBy wr none) (fun v14 _ => 12 - (intOf v14).toNat)
    case atStart => exact ⟨0, rfl, by omega, fun j hj => by omega, cs_new _ _ _, gb_alloc (gb_refl _ _) _⟩
    case round =>
      obtain ⟨i, rfl, hi, hs, C, G⟩ := hrel
      have HS := Lib.hid hs
      clear hs
      by_cases hi12 : i < 12
      · have ix := fun w => small_ix w i hi12
        obtain ⟨p1, p2⟩ := smallP_at i hi12
        have ht := HIT.out i hi12 HS.out
        have hstep : n % smallP.getD i 1 ≠ 0 → ∀ j, j < i + 1 → n % smallP.getD j 1 ≠ 0 := fun h j hj => by
          by_cases e : j = i
          · rw [e]; exact h
          · exact HS.out j (by omega)
        obtain ⟨p, hp⟩ : ∃ p, p = smallP.getD i 1 := ⟨_, rfl⟩
        rw [← hp] at ix p1 p2 ht hstep
        have HST := Lib.hid hstep
        have HT := Lib.hid ht
        clear hp hstep ht
        have em : (n : Int) % (p : Int) = ((n % p : Nat) : Int) := by rw [Int.natCast_emod]
        by_cases hz : n % p = 0
        · have ht := HT.out hz
          rw [hz] at em
          have hb : (((n : Int) == (p : Int))) = isP n := by
            rw [ht]
            by_cases e : n = p
            · rw [e]; simp
            · have : ¬ (n : Int) = (p : Int) := by omega
              rw [beq_eq_false_iff_ne.2 this, beq_eq_false_iff_ne.2 e]
          obtain ⟨b, hbb⟩ : ∃ b, b = isP n := ⟨_, rfl⟩
          rw [← hbb] at hb
          have HB := Lib.hid hbb
          clear ht hbb
          go_wp2
          go_ret
          exact ⟨by rw [← HB.out]; rfl, G⟩
        · have em0 : ¬ (n : Int) % (p : Int) = 0 := by omega
          have hb : ((n : Int) % (p : Int) == 0) = false := by simpa using em0
          have nx := HST.out hz
          have NX := Lib.hid nx
          clear nx em
          go_wp2
          go_roundw
          case rel => exact ⟨i + 1, by go_num, by omega, NX.out, C, G⟩
          case measure => simp [intOf]; omega
      · obtain rfl : i = 12 := by omega
        have nn := NON.out HS.out
        obtain ⟨t0, t1, t2, t3⟩ := TF.out HS.out
        have n37 := big_of h2 HS.out
        obtain ⟨m, hm⟩ : ∃ m, m = n - 1 := ⟨_, rfl⟩
        have T := fun w (h : Db w) => tz64_c w m (by omega) (by have := HN.out; omega) h
        rw [← hm] at nn t0 t1 t2 t3
        have em : (n : Int) - 1 = (m : Int) := by omega
        obtain ⟨s, hs⟩ : ∃ s, s = (tz m).1 := ⟨_, rfl⟩
        obtain ⟨d, hd⟩ : ∃ d, d = (tz m).2 := ⟨_, rfl⟩
        rw [← hs, ← hd] at nn
        rw [← hs] at t0 t1 t3 T
        rw [← hd] at t2 t3
        have es : (m : Int) / 2 ^ s = (d : Int) := by
          have e : (m : Int) / 2 ^ s = ((m / 2 ^ s : Nat) : Int) := by rw [Int.natCast_ediv, Int.natCast_pow]; rfl
          rw [e, t3]
        have n64 : (n : Int) < 18446744073709551616 := by have := HN.out; omega
        have X := fun w (p : Nat) (h : p ≤ 37) => witness_c w p n d s (by omega) (by omega) n64 t2 t0 t1
        have X2 : ∀ w (p : Nat), p ≤ 37 → Calls Tryd.prog 54 #[.int .u64 p, .int .u64 n, .int .u64 d, .int .i64 s] w fun e w' => e = .returned (.bool (wit p n d s)) ∧ w.grownBy w' none := fun w p h => by
          have := X w p h
          rwa [Int.emod_eq_of_lt (by omega) (by omega)] at this
        have HT := Lib.hid T
        have HX := Lib.hid X2
        have HNN := Lib.hid nn
        have hs64 : s ≤ 64 := t1
        have hm64 : (m : Int) < 18446744073709551616 := by omega
        clear hs hd hm T X X2 nn t0 t1 t2 t3
        have c0 := C.cell 0 rfl
        have c1 := C.cell 1 rfl
        have c2 := C.cell 2 rfl
        have c3 := C.cell 3 rfl
        have c4 := C.cell 4 rfl
        have c5 := C.cell 5 rfl
        have c6 := C.cell 6 rfl
        have c7 := C.cell 7 rfl
        have c8 := C.cell 8 rfl
        have c9 := C.cell 9 rfl
        have c10 := C.cell 10 rfl
        have c11 := C.cell 11 rfl
        clear C
        go_wp2_with fail
        refine (HT.out _ (HD.out.grown0 G)).mono ?_
        rintro e w1 ⟨rfl, rfl⟩
        go_wp2
        clear c0 c1 c2 c3 c4 c5 c6 c7 c8 c9 c10 c11 em es hm64 n64
        obtain ⟨wo, rfl⟩ : ∃ wo : World, wo = w1 := ⟨_, rfl⟩
        go_loopw [34] (fun v34 wr => ∃ i : Nat, v34 = .int .i64 i ∧ i ≤ 12 ∧ (∀ j, j < i → wit (smallP.getD j 1 : Nat) n d s = false) ∧ wo.grownBy wr none) (fun v34 _ => 12 - (intOf v34).toNat)
        case atStart => exact ⟨0, rfl, by omega, fun j hj => by omega, gb_refl _ _⟩
        case round =>
          obtain ⟨i, rfl, hi, hs, R⟩ := hrel
          have HS2 := Lib.hid hs
          clear hs
          by_cases hi12 : i < 12
          · have ix := fun w => small_ix w i hi12
            obtain ⟨p1, p2⟩ := smallP_at i hi12
            have ht : wit (smallP.getD i 1 : Nat) n d s = true → isP n = false := fun h => by
              rw [HNN.out]
              exact all_hit (i := i) hi12 (by rw [h]; rfl)
            have hstep : wit (smallP.getD i 1 : Nat) n d s = false → ∀ j, j < i + 1 → wit (smallP.getD j 1 : Nat) n d s = false := fun h j hj => by
              by_cases e : j = i
              · rw [e]; exact h
              · exact HS2.out j (by omega)
            have X := fun w => HX.out w _ p2
            obtain ⟨p, hp⟩ : ∃ p, p = smallP.getD i 1 := ⟨_, rfl⟩
            rw [← hp] at ix p1 p2 ht hstep X
            obtain ⟨b, hb⟩ : ∃ b, b = wit (p : Nat) n d s := ⟨_, rfl⟩
            rw [← hb] at ht hstep X
            have HST := Lib.hid hstep
            have HT2 := Lib.hid ht
            have HX2 := Lib.hid X
            clear hp hstep ht X hb
            go_wp2_with fail
            refine (HX2.out _).mono ?_
            rintro e w2 ⟨rfl, g2⟩
            cases b with
            | true =>
              have fin := HT2.out rfl
              have FIN := Lib.hid fin
              clear fin
              go_wp2
              go_ret
              exact ⟨by rw [FIN.out]; rfl, gb_trans (gb_trans G R) g2⟩
            | false =>
              have nx := HST.out rfl
              have NX := Lib.hid nx
              clear nx
              go_wp2
              go_roundw
              case rel => exact ⟨i + 1, by go_num, by omega, NX.out, gb_trans R g2⟩
              case measure => simp [intOf]; omega
          · obtain rfl : i = 12 := by omega
            have fin : isP n = true := by
              rw [HNN.out]
              exact all_none (fun j hj => by rw [HS2.out j hj]; rfl)
            have FIN := Lib.hid fin
            clear fin
            go_wp2
            go_ret
            exact ⟨by rw [FIN.out]; rfl, gb_trans G R⟩
end Go.Proofs.YtoiclkaecgpbbaaDoor
