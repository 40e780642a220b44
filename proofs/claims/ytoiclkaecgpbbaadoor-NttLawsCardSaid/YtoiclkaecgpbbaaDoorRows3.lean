/- Appending a row that is read. -/
import Derived.Test.YtoiclkaecgpbbaaDoorRows2
import Derived.Laws.OwnMore
import Derived.Tactics
namespace Go.Proofs.YtoiclkaecgpbbaaDoor
open Go.RowKit

theorem run_append_none_any {P : Program} (w : World) (base : Nat) (t ty e : TypeId) (i : TypeInfo) (size : Nat) (ht : P.underlying t = some (.slice e)) (hi : P.info? e = some i)
    (v : Value) (n : Nat) (xs : List Value) (hown : w.ownsRow base e size v n xs) (c : Nat) :
    (Builtin.append_ #[t, t] ty #[v, .slice none 0 c]).run P w = .ok v w := by
  rcases hown.2 with ⟨rfl, rfl⟩ | ⟨g, cap, cur, rfl, _, _, hnc, _⟩
  · simp [Builtin.append_, run_underlying ht, sizeOf, typeInfo, hi, Builtin.lenOf, Builtin.firstCells]
  · simp [Builtin.append_, run_underlying ht, sizeOf, typeInfo, hi, Builtin.lenOf, Builtin.firstCells, hnc, storeCells]
theorem own_append_sl {w : World} {base : Nat} {ops : Array Oper} {rest : List Oper} {o : Oper} {a : Act} {Q : Exit → Act → World → Prop} (t : TypeId) (ht : Tryd.prog.underlying t = some (.slice 22))
    (s x : Operand) (hgd : o.guard = none) (ho : o.op = .call { callee := .builtin .append, args := #[s, x], argTypes := #[t, t] })
    (v : Value) (xs : List Int) (hs : a.eval s = v) (hown : Own w base v xs)
    (y : Value) (ys : List Int) (hx : a.eval x = y) (hsl : Sl w y ys) (hb : xs.length + ys.length ≤ 1000000000000) (hbase : base ≤ w.heap.size)
    (h : ∀ v' w', Own w' base v' (xs ++ ys) → w.grownBy w' v.ownBlock → wpList Tryd.prog ops Q rest (a.put o.dst v') w') : wpList Tryd.prog ops Q (o :: rest) a w := by
  obtain ⟨A, c, rfl, h1, h2, h3, h4⟩ := hsl
  cases A with
  | none =>
    have hn : ys.length = 0 := by
      by_cases hk : 0 < ys.length
      · obtain ⟨b, o, e, _⟩ := h4 hk
        simp at e
      · omega
    obtain rfl := List.eq_nil_of_length_eq_zero hn
    obtain ⟨i, hi, he⟩ := Option.map_eq_some_iff.1 info_u64
    have hh := h v w (by rw [List.append_nil]; exact hown) (gb_refl _ _)
    refine wpList_plain hgd fun K hK => ?_
    have hrun := run_append_none_any (P := Tryd.prog) w base t o.type 22 i 1 ht hi v xs.length (nums xs) hown.1 c
    have hx' : a.eval x = .slice none 0 c := hx
    unfold Oper.wp
    simp [execOp, ho, resolve, invoke, builtin, hs, hx', hrun, Result.andThen]
    exact hK _ _ hh
  | some ad =>
    refine own_append t ht s x hgd ho v xs hs hown ad ys.length c ys hx rfl h3 (fun j hj => ?_) hb hbase h
    obtain ⟨b, o, e, hc⟩ := h4 (by omega)
    simp only [Option.some.injEq] at e
    rw [e]
    have e2 : (⟨b, o, none⟩ : Addr).add j = ⟨b, o + j, none⟩ := by unfold Addr.add; split <;> simp_all
    rw [e2]
    exact hc j hj
theorem gb_rowC {a b : World} {g : Nat} (h : a.grownBy b (some g)) (j : Nat) (u : Value) : a.grownBy (b.setCell ⟨g, j, none⟩ u) (some g) :=
  gb_trans h ⟨rfl, rfl, rfl, by simp [World.setCell], fun k _ hk => Below.heap_setCell _ _ _ _ (fun e => hk (by rw [e]))⟩
theorem Cs.other {w : World} {g b : Nat} {l : List Value} (h : Cs w g l) (hr : g ≠ b) (j : Nat) (u : Value) : Cs (w.setCell ⟨b, j, none⟩ u) g l :=
  h.grown (gb_rowC (gb_refl w (some b)) j u) (by simpa using hr)
/-- v is the number n as words, none of nothing on top, in memory of the call's own. -/
def Wo (w : World) (base : Nat) (v : Value) (n : Nat) : Prop := ∃ zs, Own w base v zs ∧ Nz zs ∧ val 18446744073709551616 zs = n
theorem Wo.grown0 {w w' : World} {base : Nat} {v : Value} {n : Nat} (h : Wo w base v n) (g : w.grownBy w' none) : Wo w' base v n := by
  obtain ⟨xs, h1, h2⟩ := h; exact ⟨xs, h1.grown0 g, h2⟩
theorem Wo.mono {w : World} {base base' : Nat} {v : Value} {n : Nat} (h : Wo w base v n) (g : base' ≤ base) : Wo w base' v n := by
  obtain ⟨xs, h1, h2⟩ := h; exact ⟨xs, h1.mono g, h2⟩
end Go.Proofs.YtoiclkaecgpbbaaDoor
