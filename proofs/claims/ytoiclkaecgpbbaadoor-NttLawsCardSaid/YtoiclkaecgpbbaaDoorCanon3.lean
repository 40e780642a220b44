/- A region that draws its order is walked in the order of the text, if operations that no edge orders do not touch each other: the law 'region_canon'. -/
import Derived.Test.YtoiclkaecgpbbaaDoorCanon2
import Derived.Laws.AppendOwn
import Derived.RowKit
namespace Go.Proofs.YtoiclkaecgpbbaaDoor.Canon
open Go

section
variable {P : Program} {ops : Array Oper} {H : List Nat} {F : List (Addr × Value)}

/-- The operations of the listed places, each calm, one behind the other. -/
def Run (P : Program) (ops : Array Oper) (H : List Nat) (F : List (Addr × Value)) : List Nat → (Act → World → Prop) → Act → World → Prop
  | [], K, a, w => K a w
  | i :: l, K, a, w => match ops[i]? with
    | some o => S P ops H F o (Run P ops H F l K) a w
    | none => Run P ops H F l K a w

theorem run_mono {K K' : Act → World → Prop} (hK : ∀ a w, K a w → K' a w) : ∀ (l : List Nat) (a : Act) (w : World), Run P ops H F l K a w → Run P ops H F l K' a w := by
  intro l
  induction l with
  | nil => intro a w h; exact hK a w h
  | cons i l ih =>
    intro a w h
    unfold Run at h ⊢
    cases ho : ops[i]? with
    | none => rw [ho] at h; exact ih a w h
    | some o => rw [ho] at h; exact S.mono h fun _ _ _ _ h => ih _ _ h

/-- The i-th is moved ahead of those with which it is compatible. -/
theorem run_front {K : Act → World → Prop} {i : Nat} {oi : Oper} (hi : ops[i]? = some oi) (hpi : plain oi = true) (c2 : List Nat) :
    ∀ (c1 : List Nat), (∀ j ∈ c1, ∃ oj, ops[j]? = some oj ∧ plain oj = true ∧ compat H ops oj oi = true) →
      ∀ (a : Act) (w : World), Run P ops H F (c1 ++ i :: c2) K a w → Run P ops H F (i :: (c1 ++ c2)) K a w := by
  intro c1
  induction c1 with
  | nil => intro _ a w h; exact h
  | cons j c1 ih =>
    intro hc a w h
    obtain ⟨oj, hj, hpj, hcj⟩ := hc j List.mem_cons_self
    have ih' := ih (fun k hk => hc k (List.mem_cons_of_mem _ hk))
    simp only [List.cons_append, Run, hj, hi] at h ⊢
    refine swap hpj hpi hcj (S.mono h fun a1 v w1 _ h1 => ?_)
    have := ih' _ _ h1
    simp only [Run, hi] at this
    exact this

/-! ### The check -/
def maskOf (acc : List Nat) (o : Oper) : Nat := o.after.toList.foldl (fun m e => if Region.binds .any e then m ||| (1 <<< e.on) ||| acc.getD e.on 0 else m) 0
def masksFrom : List Nat → List Oper → List Nat
  | acc, [] => acc
  | acc, o :: l => masksFrom (acc ++ [maskOf acc o]) l
def low (ops : Array Oper) : Bool := ops.toList.zipIdx.all fun (o, i) => o.after.toList.all fun e => !Region.binds .any e || decide (e.on < i)
def justified (ms : List Nat) (ops : Array Oper) : Bool := ops.toList.zipIdx.all fun (o, i) => (List.range i).all fun j =>
  !(ms.getD i 0).testBit j || o.after.toList.any fun e => Region.binds .any e && (e.on == j || (decide (j < e.on) && (ms.getD e.on 0).testBit j))
def unordered (H : List Nat) (ms : List Nat) (ops : Array Oper) : Bool := ops.toList.zipIdx.all fun (o, i) => ops.toList.zipIdx.all fun (o', j) =>
  decide (i ≤ j) || (ms.getD i 0).testBit j || compat H ops o' o
def needs (o : Oper) : Bool := match o.op with
  | .nilCheck _ | .binOp .. | .unOp .. | .convert .. | .call _ => pureKind o
  | _ => false
def wants2 (H : List Nat) (o : Oper) : Bool := needs o || heldB H o
def static (P : Program) (ops : Array Oper) : Bool := ops.toList.all fun o => plain o && (needs o || !pureKind o || calmB P (fun _ => undef) o)
def steady (H : List Nat) (ops : Array Oper) : Bool := ops.toList.zipIdx.all fun (o, i) => !wants2 H o || ops.toList.zipIdx.all fun (o', k) =>
  decide (k < i) || (match o'.dst with | some d => !(o.looksAt ops).contains d | none => true)
/-- May the region be walked in the order of the text? -/
def check (P : Program) (H : List Nat) (ops : Array Oper) : Bool :=
  let ms := masksFrom [] ops.toList
  low ops && justified ms ops && unordered H ms ops && static P ops && steady H ops
/-- Of the frame behind the region: do the operations that need it have numbers and bools? -/
def shapes (P : Program) (ops : Array Oper) (a : Act) : Bool := ops.toList.all fun o => !needs o || !Region.wanted o (yielded ops a.tmps) || calmB P a.eval o

theorem all_zip {p : Oper × Nat → Bool} (h : ops.toList.zipIdx.all p = true) {i : Nat} {o : Oper} (ho : ops[i]? = some o) : p (o, i) = true := by
  refine List.all_eq_true.1 h (o, i) ?_
  rw [List.mem_zipIdx_iff_getElem?]
  simpa using ho

theorem low_spec (h : low ops = true) {i : Nat} {o : Oper} (ho : ops[i]? = some o) {e : Edge} (he : e ∈ o.after) (hb : Region.binds .any e = true) : e.on < i := by
  have := List.all_eq_true.1 (all_zip h ho) e (by simpa using he)
  simpa [hb] using this

/-- All that a listed place waits for is listed. -/
def Closed (ops : Array Oper) (listed : Array Bool) : Prop := ∀ i o, ops[i]? = some o → listed.getD i false = true → ∀ e ∈ o.after, Region.binds .any e = true → listed.getD e.on false = true

theorem bit_listed {ms : List Nat} (hl : low ops = true) (hj : justified ms ops = true) {listed : Array Bool} (hc : Closed ops listed) :
    ∀ (i : Nat) (o : Oper), ops[i]? = some o → (∀ e ∈ o.after, Region.binds .any e = true → listed.getD e.on false = true) →
      ∀ j, j < i → (ms.getD i 0).testBit j = true → listed.getD j false = true := by
  intro i
  induction i using Nat.strongRecOn with
  | ind i ih =>
    intro o ho hall j hji hb
    have := List.all_eq_true.1 (all_zip hj ho) j (by simpa using hji)
    simp only [hb, Bool.not_true, Bool.false_or, List.any_eq_true, Bool.and_eq_true, Bool.or_eq_true, beq_iff_eq, decide_eq_true_eq] at this
    obtain ⟨e, he, hbe, h⟩ := this
    have he' : e ∈ o.after := by simpa using he
    have hel := hall e he' hbe
    have hlt := low_spec hl ho he' hbe
    rcases h with rfl | ⟨hjo, h⟩
    · exact hel
    · cases hoe : ops[e.on]? with
      | none =>
        have h1 : ops.size ≤ e.on := Array.getElem?_eq_none_iff.1 hoe
        have h2 : i < ops.size := (Array.getElem?_eq_some_iff.1 ho).1
        omega
      | some o' => exact ih e.on hlt o' hoe (hc e.on o' hoe hel) j hjo h

theorem pairs {ms : List Nat} (hu : unordered H ms ops = true) {i j : Nat} {o o' : Oper} (ho : ops[i]? = some o) (ho' : ops[j]? = some o') (hji : j < i) (hb : (ms.getD i 0).testBit j = false) : compat H ops o' o = true := by
  have := all_zip (all_zip hu ho) ho'
  simp only [hb, Bool.or_false, Bool.or_eq_true, decide_eq_true_eq] at this
  rcases this with h | h
  · omega
  · exact h

theorem main_order {ms : List Nat} {Q : Exit → Act → World → Prop} (hl : low ops = true) (hj : justified ms ops = true) (hu : unordered H ms ops = true) (hp : ∀ (i : Nat) (o : Oper), ops[i]? = some o → plain o = true) :
    ∀ (fuel : Nat) (listed : Array Bool) (c : List Nat) (a : Act) (w : World), fuel = c.length → listed.size = ops.size →
      (∀ i, i ∈ c ↔ i < ops.size ∧ listed.getD i false = false) → c.Pairwise (· < ·) → Closed ops listed →
      Run P ops H F c (fun a w => Q .normal a w) a w → wpAny P .any ops Q fuel listed a w := by
  intro fuel
  induction fuel with
  | zero =>
    intro listed c a w hlen hsz hmem _ _ h
    obtain rfl : c = [] := List.eq_nil_of_length_eq_zero hlen.symm
    refine ⟨?_, h⟩
    refine List.eq_nil_iff_forall_not_mem.2 fun i hi => ?_
    obtain ⟨h0, o, ho, _⟩ := mem_ready.1 hi
    have h2 : i < ops.size := (Array.getElem?_eq_some_iff.1 ho).1
    have : i ∈ ([] : List Nat) := (hmem i).2 ⟨h2, by
      rw [Array.getD_eq_getD_getElem?, Array.getElem?_eq_getElem (by omega)] at h0 ⊢; exact h0⟩
    cases this
  | succ fuel ih =>
    intro listed c a w hlen hsz hmem hsort hcl h
    have hlst : ∀ i, i < ops.size → listed.getD i true = listed.getD i false := fun i hi => by
      rw [Array.getD_eq_getD_getElem?, Array.getD_eq_getD_getElem?, Array.getElem?_eq_getElem (by omega)]; rfl
    have hlt : ∀ i, i ∈ c → i < ops.size := fun i hi => ((hmem i).1 hi).1
    refine ⟨fun hr => ?_, fun i hi => ?_⟩
    · exfalso
      cases c with
      | nil => simp at hlen
      | cons i c =>
        have hi := (hmem i).1 List.mem_cons_self
        have ho : ops[i]? = some ops[i] := Array.getElem?_eq_getElem hi.1
        have : i ∈ Region.ready .any ops listed := mem_ready.2 ⟨by rw [hlst i hi.1]; exact hi.2, ops[i], ho, fun e he hb => by
          have hlo := low_spec hl ho he hb
          cases hb2 : listed.getD e.on false with
          | true => rfl
          | false =>
            have hm := (hmem e.on).2 ⟨by omega, hb2⟩
            rcases List.mem_cons.1 hm with h1 | h1
            · omega
            · have := List.rel_of_pairwise_cons hsort h1; omega⟩
        rw [hr] at this
        cases this
    · obtain ⟨h0, o, ho, hall⟩ := mem_ready.1 hi
      have hin : i < ops.size := (Array.getElem?_eq_some_iff.1 ho).1
      have hic : i ∈ c := (hmem i).2 ⟨hin, by rw [← hlst i hin]; exact h0⟩
      obtain ⟨c1, c2, rfl⟩ := List.append_of_mem hic
      have hs := List.pairwise_append.1 hsort
      have hfront := run_front ho (hp i o ho) c2 c1 (fun j hj1 => by
        have hjn := hlt j (by simp [hj1])
        have hoj : ops[j]? = some ops[j] := Array.getElem?_eq_getElem hjn
        have hji : j < i := hs.2.2 j hj1 i List.mem_cons_self
        refine ⟨ops[j], hoj, hp j _ hoj, pairs hu ho hoj hji ?_⟩
        cases hb : (ms.getD i 0).testBit j with
        | false => rfl
        | true =>
          have := bit_listed hl hj hcl i o ho hall j hji hb
          rw [((hmem j).1 (by simp [hj1])).2] at this
          cases this) a w h
      simp only [Run, ho] at hfront
      refine hfront.2.2.wpOp ho |> wpOp_mono fun a1 w1 h1 => ?_
      have hset : ∀ k, (listed.setIfInBounds i true).getD k false = if k = i then true else listed.getD k false := fun k => by
        by_cases hk : k = i
        · subst hk; rw [if_pos rfl]; simp [show k < listed.size by omega]
        · rw [if_neg hk, getD_set_ne false (Ne.symm hk)]
      have hnotin : i ∉ c1 ++ c2 := by
        intro hm
        rcases List.mem_append.1 hm with h2 | h2
        · have := hs.2.2 i h2 i List.mem_cons_self; omega
        · have := List.rel_of_pairwise_cons hs.2.1 h2; omega
      refine ih (listed.setIfInBounds i true) (c1 ++ c2) a1 w1 (by simp at hlen ⊢; omega) (by simpa using hsz) (fun k => ?_) ?_ ?_ h1.2
      · rw [hset k]
        by_cases hk : k = i
        · subst hk; simp only [if_true]
          exact ⟨fun hm => absurd hm hnotin, fun hm => by simp at hm⟩
        · rw [if_neg hk, ← hmem k]
          simp [hk]
      · refine List.pairwise_append.2 ⟨hs.1, (List.pairwise_cons.1 hs.2.1).2, fun x hx y hy => hs.2.2 x hx y (List.mem_cons_of_mem _ hy)⟩
      · intro k ok hok hlk e he hb
        rw [hset] at hlk ⊢
        by_cases hei : e.on = i
        · rw [if_pos hei]
        · rw [if_neg hei]
          by_cases hk : k = i
          · subst hk
            have : ok = o := Option.some.inj (hok.symm.trans ho)
            subst this
            exact hall e he hb
          · rw [if_neg hk] at hlk
            exact hcl k ok hok hlk e he hb

/-- The addresses of the named loads. -/
def heldAddrs (ops : Array Oper) (H : List Nat) (a : Act) : List (Option Addr) := ops.toList.filterMap fun o =>
  if heldB H o && Region.wanted o (yielded ops a.tmps) then some (addrOf a.eval o) else none
/-- Do the cells' values fit the named loads' types? -/
def heldFits (P : Program) (ops : Array Oper) (H : List Nat) (F : List (Addr × Value)) (a : Act) : Bool :=
  ((ops.toList.filter fun o => heldB H o && Region.wanted o (yielded ops a.tmps)).zip F).all fun (o, q) => fitB P o q.2
def effB (o : Oper) : Bool := !(pureKind o || loadKind o)
/-- The walk in the order of the text; behind each operation with an effect the cells are asked for. -/
def segs (P : Program) (ops : Array Oper) (F : List (Addr × Value)) (K : Act → World → Prop) : List Oper → Act → World → Prop
  | [], a, w => K a w
  | o :: l, a, w => wpList P ops (Only (if effB o = true then (fun a w => SF F w ∧ segs P ops F K l a w) else segs P ops F K l)) [o] a w

theorem step_of_list {K : Act → World → Prop} {o : Oper} {rest : List Oper} {a : Act} {w : World} (h : wpList P ops (Only K) (o :: rest) a w) : Step P ops o (wpList P ops (Only K) rest) a w := by
  unfold wpList at h
  unfold Step
  split at h
  · rename_i hw
    rw [if_pos hw]
    rcases h with h | h
    · exact upon_mono (fun _ _ h => h.elim) (fun h => absurd h lets_Only) (fun _ _ _ h => h) rfl h
    · exact absurd h.2 lets_Only
  · rename_i hw
    rw [if_neg hw]; exact h
theorem step_of_one {K : Act → World → Prop} {o : Oper} {a : Act} {w : World} (h : wpList P ops (Only K) [o] a w) : Step P ops o K a w :=
  (step_of_list h).mono fun _ _ _ _ h => h
theorem one_of_step {K : Act → World → Prop} {o : Oper} {a : Act} {w : World} (h : Step P ops o K a w) : wpList P ops (Only K) [o] a w := by
  unfold wpList
  unfold Step at h
  split at h
  · rename_i hw
    rw [if_pos hw]
    exact .inl (upon_mono (fun _ _ h => h.elim) (fun h => absurd h lets_QF) (fun _ _ _ h => h) rfl h)
  · rename_i hw
    rw [if_neg hw]; exact h
theorem segs_of_list {K : Act → World → Prop} : ∀ (l : List Oper) (a : Act) (w : World), wpList P ops (Only K) l a w → segs P ops [] K l a w := by
  intro l
  induction l with
  | nil => intro a w h; exact h
  | cons o l ih =>
    intro a w h
    refine one_of_step ((step_of_list h).mono fun a1 v w1 _ h1 => ?_)
    split
    · exact ⟨(fun q hq => (by cases hq)), ih _ _ h1⟩
    · exact ih _ _ h1
/-- A step of the walk keeps the cells. -/
theorem segs_step {K : Act → World → Prop} {o : Oper} {l : List Oper} {a : Act} {w : World} (hs : SF F w) (hc : Cal P ops o a) (h : segs P ops F K (o :: l) a w) :
    Step P ops o (fun a w => SF F w ∧ segs P ops F K l a w) a w := by
  have h1 := step_of_one h
  cases he : effB o with
  | true => rw [he, if_pos rfl] at h1; exact h1
  | false =>
    rw [he, if_neg (by decide)] at h1
    unfold effB at he
    simp only [Bool.not_eq_false', Bool.or_eq_true] at he
    rcases he with hp | hl
    · obtain ⟨v, hy, hK⟩ := h1.yields hp hc
      rcases hy with ⟨hw, hr⟩ | ⟨hw, rfl⟩
      · unfold Step; rw [if_pos hw, hr w]; exact ⟨hs, hK⟩
      · unfold Step; rw [if_neg (by rw [hw]; decide)]; exact ⟨hs, hK⟩
    · rcases h1.loads hl with ⟨hw, v, hr, hK⟩ | ⟨hw, hK⟩
      · exact Step.of_loads hw hr ⟨hs, hK⟩
      · unfold Wants at hw; unfold Step; rw [if_neg hw]; exact ⟨hs, hK⟩

/-- There is an end, and its frame differs in the slots of the operations alone. -/
theorem segs_out {K : Act → World → Prop} : ∀ (l : List Oper) (a : Act) (w : World), segs P ops F K l a w →
    ∃ (a' : Act) (w' : World), K a' w' ∧ ∀ t, (∀ o ∈ l, o.dst ≠ some t) → a'.tmps[t]? = a.tmps[t]? := by
  intro l
  induction l with
  | nil => intro a w h; exact ⟨a, w, h, fun _ _ => rfl⟩
  | cons o l ih =>
    intro a w h
    obtain ⟨a1, v, w1, e1, h1⟩ := (step_of_one h).out
    have h1' : segs P ops F K l (a1.put o.dst v) w1 := by
      split at h1
      · exact h1.2
      · exact h1
    obtain ⟨a', w', hK, hag⟩ := ih _ _ h1'
    refine ⟨a', w', hK, fun t ht => (hag t fun o' ho' => ht o' (List.mem_cons_of_mem _ ho')).trans ?_⟩
    have hne := ht o List.mem_cons_self
    cases hd : o.dst with
    | none => simp [Act.put, e1]
    | some d =>
      have hdt : d ≠ t := fun e => hne (by rw [hd, e])
      simp [Act.put, e1, Array.getElem?_setIfInBounds_ne hdt]

theorem cal_static (hst : static P ops = true) {o : Oper} (ho : o ∈ ops.toList) (hn : needs o = false) (a : Act) : Cal P ops o a := by
  intro hk _
  have := List.all_eq_true.1 hst o ho
  simp only [hn, hk, Bool.not_true, Bool.false_or, Bool.and_eq_true] at this
  obtain ⟨_, this⟩ := this
  obtain ⟨dst, op, type, pos, after, guard⟩ := o
  cases op <;> simp only [needs, pureKind, Bool.false_eq_true] at hn hk <;> first | rfl | exact this | (simp_all; done)

theorem to_run {K : Act → World → Prop} (hst : static P ops = true) (hsd : steady H ops = true) :
    ∀ (l : List Oper) (i : Nat) (a : Act) (w : World), l = ops.toList.drop i → SF F w → segs P ops F (fun a w => shapes P ops a = true ∧ heldAddrs ops H a = F.map (fun q => some q.1) ∧ heldFits P ops H F a = true ∧ K a w) l a w →
      Run P ops H F (List.range' i l.length) K a w := by
  intro l
  induction l with
  | nil => intro i a w _ _ h; exact h.2.2.2
  | cons o l ih =>
    intro i a w hl hsf h
    have ho : ops[i]? = some o := by
      have := congrArg (·[0]?) hl
      simpa using this.symm
    have hl' : l = ops.toList.drop (i + 1) := by
      have := congrArg List.tail hl
      simpa [List.tail_drop] using this
    have hmem : o ∈ ops.toList := List.mem_of_getElem? (by simpa using ho : ops.toList[i]? = some o)
    have hcal : Cal2 P ops H F o a := by
      cases hn : wants2 H o with
      | false =>
        unfold wants2 at hn
        rw [Bool.or_eq_false_iff] at hn
        exact ⟨cal_static hst hmem hn.1 a, fun hh => by rw [hn.2] at hh; cases hh⟩
      | true =>
        obtain ⟨a', w', ⟨hsh, hha, hft, _⟩, hag⟩ := segs_out _ _ _ h
        have hlook : ∀ t ∈ o.looksAt ops, a'.tmps[t]? = a.tmps[t]? := fun t ht => hag t fun o' ho' hd => by
          have h1 := all_zip hsd ho
          simp only [hn, Bool.not_true, Bool.false_or] at h1
          have ho'' : o' ∈ ops.toList.drop i := by rw [← hl]; exact ho'
          obtain ⟨k, hk⟩ := List.mem_iff_getElem?.1 ho''
          rw [List.getElem?_drop] at hk
          have h2 := all_zip (p := fun (o', k) => decide (k < i) || (match o'.dst with | some d => !(o.looksAt ops).contains d | none => true)) h1 (i := i + k) (o := o') (by simpa using hk)
          simp [hd] at h2
          rcases h2 with h2 | h2
          · omega
          · exact h2 ht
        have hw : Region.wanted o (yielded ops a'.tmps) = Region.wanted o (yielded ops a.tmps) := by
          unfold Region.wanted
          cases hg : o.guard with
          | none => rfl
          | some gw =>
            obtain ⟨g, want⟩ := gw
            have : yielded ops a'.tmps g = yielded ops a.tmps g := by
              unfold yielded
              cases ht : (ops[g]?).bind (·.dst) with
              | none => rfl
              | some t =>
                have := hlook t (List.mem_append_right _ (by simp [hg, ht]))
                simp [this]
            simp only [this]
        have hag2 : Agree (ops := ops) o a' a := Agree.symm ⟨fun x hx => by
          cases x with
          | tmp t =>
            have := hlook t (List.mem_append_left _ (List.mem_filterMap.2 ⟨.tmp t, by simpa using hx, rfl⟩))
            simp [Act.eval, this]
          | _ => rfl, hw⟩
        refine hag2.cal2 ⟨?_, fun hh hwa => ?_⟩
        · cases hne : needs o with
          | false => exact cal_static hst hmem hne a'
          | true =>
            intro hk hwa
            have := List.all_eq_true.1 hsh o hmem
            unfold Wants at hwa
            simpa [hne, hwa] using this
        · have hin : o ∈ ops.toList.filter (fun o => heldB H o && Region.wanted o (yielded ops a'.tmps)) := List.mem_filter.2 ⟨hmem, by unfold Wants at hwa; simp [hh, hwa]⟩
          have hha2 : (ops.toList.filter (fun o => heldB H o && Region.wanted o (yielded ops a'.tmps))).map (fun o => addrOf a'.eval o) = F.map (fun q => some q.1) := by
            rw [← hha]
            unfold heldAddrs
            induction ops.toList with
            | nil => rfl
            | cons x l ih =>
              rw [List.filterMap_cons, List.filter_cons]
              by_cases hx : (heldB H x && Region.wanted x (yielded ops a'.tmps)) = true
              · rw [if_pos hx, if_pos hx, List.map_cons, ih]
              · rw [if_neg hx, if_neg hx, ih]
          obtain ⟨k, hk⟩ := List.mem_iff_getElem?.1 hin
          have hk2 := congrArg (·[k]?) hha2
          simp only [List.getElem?_map, hk, Option.map_some] at hk2
          cases hq : F[k]? with
          | none => rw [hq] at hk2; cases hk2
          | some q =>
            rw [hq] at hk2
            have he : addrOf a'.eval o = some q.1 := by simpa using hk2
            refine ⟨q, List.mem_of_getElem? hq, he, ?_⟩
            have hz : (o, q) ∈ (ops.toList.filter (fun o => heldB H o && Region.wanted o (yielded ops a'.tmps))).zip F := List.mem_of_getElem? (i := k) (by rw [List.getElem?_zip_eq_some]; exact ⟨hk, hq⟩)
            exact List.all_eq_true.1 hft (o, q) hz
    simp only [List.length_cons, List.range'_succ, Run, ho]
    exact ⟨hsf, hcal, (segs_step hsf hcal.1 h).mono fun a1 v w1 _ h1 => ⟨h1.1, ih (i + 1) _ _ hl' h1.1 h1.2⟩⟩

theorem region_of {id : Nat} {Q : Exit → Act → World → Prop} {a : Act} {w : World} (hm : P.follows .mixedOrders = true) (hc : check P H ops = true) (hs : SF F w.drew)
    (h : segs P ops F (fun a w => shapes P ops a = true ∧ heldAddrs ops H a = F.map (fun q => some q.1) ∧ heldFits P ops H F a = true ∧ Q .normal a w) ops.toList a w.drew) : (Code.region id ops true).wp P Q a w := by
  unfold check at hc
  simp only [Bool.and_eq_true] at hc
  obtain ⟨⟨⟨⟨hl, hj⟩, hu⟩, hst⟩, hsd⟩ := hc
  refine wp_region_any hm ?_
  have hr := to_run (P := P) (K := fun a w => Q .normal a w) hst hsd ops.toList 0 a w.drew (by simp) hs h
  refine main_order hl hj hu (fun i o ho => ?_) ops.size _ (List.range' 0 ops.toList.length) a w.drew (by simp) (by simp) (fun i => ?_) ?_ ?_ hr
  · have hmem : o ∈ ops.toList := List.mem_of_getElem? (by simpa using ho : ops.toList[i]? = some o)
    have := List.all_eq_true.1 hst o hmem
    simp only [Bool.and_eq_true] at this
    exact this.1
  · have : (Array.replicate ops.size false).getD i false = false := by
      rw [Array.getD_eq_getD_getElem?, Array.getElem?_replicate]; split <;> rfl
    rw [this]
    simp [List.mem_range']
  · exact List.pairwise_lt_range'
  · intro i o ho hl
    have : (Array.replicate ops.size false).getD i false = false := by
      rw [Array.getD_eq_getD_getElem?, Array.getElem?_replicate]; split <;> rfl
    rw [this] at hl
    exact absurd hl (by decide)
theorem heldB_nil (o : Oper) : heldB [] o = false := by
  unfold heldB
  split
  · cases o.dst <;> rfl
  · rfl
/-- ████ THE LAW ████ -/
theorem region_canon {id : Nat} {Q : Exit → Act → World → Prop} {a : Act} {w : World} (hm : P.follows .mixedOrders = true) (hc : check P [] ops = true)
    (h : wpList P ops (Only fun a w => shapes P ops a = true ∧ Q .normal a w) ops.toList a w.drew) : (Code.region id ops true).wp P Q a w := by
  refine region_of (H := []) (F := []) hm hc (fun q hq => (by cases hq)) ?_
  have hz : ∀ a : Act, heldAddrs ops [] a = [] := fun a => by
    unfold heldAddrs
    refine List.filterMap_eq_nil_iff.2 fun o _ => ?_
    rw [heldB_nil]; rfl
  have h2 := segs_of_list _ _ _ h
  have hf : ∀ a : Act, heldFits P ops [] [] a = true := fun a => by
    unfold heldFits
    rw [List.zip_nil_right]; rfl
  have e : (fun (a : Act) (w : World) => shapes P ops a = true ∧ heldAddrs ops [] a = List.map (fun q : Addr × Value => some q.1) [] ∧ heldFits P ops [] [] a = true ∧ Q .normal a w) = fun (a : Act) (w : World) => shapes P ops a = true ∧ Q .normal a w := by
    funext a w
    rw [hz a, hf a]; simp
  rw [e]
  exact h2
/-- Up to the n-th operation (from 0 on), the first one with an effect. -/
def cutOk : Nat → List Oper → Bool
  | 0, o :: _ => effB o
  | n + 1, o :: l => !effB o && cutOk n l
  | _, [] => false
theorem segs_at {K : Act → World → Prop} : ∀ (n : Nat) (l : List Oper) (a : Act) (w : World), cutOk n l = true →
    wpList P ops (Only fun a w => SF F w ∧ segs P ops F K (l.drop (n + 1)) a w) (l.take (n + 1)) a w → segs P ops F K l a w := by
  intro n
  induction n with
  | zero =>
    intro l a w hc h
    cases l with
    | nil => cases hc
    | cons o l =>
      unfold segs
      rw [if_pos (show effB o = true from hc)]
      exact h
  | succ n ih =>
    intro l a w hc h
    cases l with
    | nil => cases hc
    | cons o l =>
      simp only [cutOk, Bool.and_eq_true, Bool.not_eq_true'] at hc
      unfold segs
      rw [if_neg (by rw [hc.1]; decide)]
      exact one_of_step ((step_of_list h).mono fun a1 v w1 _ h1 => ih l _ _ hc.2 h1)
/-- No operation with an effect is left. -/
theorem segs_end {K : Act → World → Prop} : ∀ (l : List Oper) (a : Act) (w : World), (l.all fun o => !effB o) = true → wpList P ops (Only K) l a w → segs P ops F K l a w := by
  intro l
  induction l with
  | nil => intro a w _ h; exact h
  | cons o l ih =>
    intro a w hc h
    simp only [List.all_cons, Bool.and_eq_true, Bool.not_eq_true'] at hc
    unfold segs
    rw [if_neg (by rw [hc.1]; decide)]
    exact one_of_step ((step_of_list h).mono fun a1 v w1 _ h1 => ih _ _ (by simpa using hc.2) h1)
/-- The law with cells that are held: H names the loads by their slots, F their cells in the text's order. -/
theorem region_held (H : List Nat) (F : List (Addr × Value)) {id : Nat} {Q : Exit → Act → World → Prop} {a : Act} {w : World} (hm : P.follows .mixedOrders = true) (hc : check P H ops = true) (hs : SF F w)
    (h : segs P ops F (fun a w => shapes P ops a = true ∧ heldAddrs ops H a = F.map (fun q => some q.1) ∧ heldFits P ops H F a = true ∧ Q .normal a w) ops.toList a w.drew) : (Code.region id ops true).wp P Q a w :=
  region_of hm hc hs h
theorem SF.drew {w : World} (h : SF F w) : SF F w.drew := h
theorem sf_nil (w : World) : SF [] w := fun q hq => (by cases hq)
theorem sf_cons {w : World} {p : Addr} {v : Value} (h : w.cell? p = some v) (k : SF F w) (hv : (!isAggB v) = true := by rfl) : SF ((p, v) :: F) w := fun q hq => by
  rcases List.mem_cons.1 hq with rfl | hq
  · exact holds_one h hv
  · exact k q hq
/-- The cells of an array, of a struct. -/
theorem sf_agg {w : World} {p : Addr} {xs : Array Value} (h : ∀ j u, xs.toList[j]? = some u → w.cell? (p.add j) = some u) (k : SF F w) : SF ((p, .agg xs) :: F) w := fun q hq => by
  rcases List.mem_cons.1 hq with rfl | hq
  · exact h
  · exact k q hq
theorem Holds.to {w w' : World} {p : Addr} {v : Value} (h : Holds w p v) (hk : ∀ p' u, p'.block = p.block → w.cell? p' = some u → w'.cell? p' = some u) : Holds w' p v := by
  cases v with
  | agg xs => exact fun j u hu => hk _ u (by unfold Addr.add; split <;> rfl) (h j u hu)
  | _ => exact hk p _ rfl h
theorem sf_grown {w w' : World} {row : Option Nat} (h : SF F w) (hg : w.grownBy w' row) (hr : ∀ q ∈ F, some q.1.block ≠ row) : SF F w' := fun q hq =>
  (h q hq).to fun p' u hb hc => by
    rw [← hc]
    exact World.cell?_of_block (hg.block p'.block (World.block_lt_of_cell? w _ hc) (by rw [hb]; exact hr q hq))
theorem sf_grown0 {w w' : World} (h : SF F w) (hg : w.grownBy w' none) : SF F w' := sf_grown h hg (fun _ _ => by simp)
end
end Go.Proofs.YtoiclkaecgpbbaaDoor.Canon
