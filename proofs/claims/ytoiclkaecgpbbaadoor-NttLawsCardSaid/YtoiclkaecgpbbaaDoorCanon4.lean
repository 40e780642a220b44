/- The law with held cells, of which the last operation may write into one. -/
import Derived.Test.YtoiclkaecgpbbaaDoorCanon3
namespace Go.Proofs.YtoiclkaecgpbbaaDoor.Canon
open Go

section
variable {P : Program} {ops : Array Oper} {H : List Nat} {F : List (Addr × Value)}

/-- Behind each operation with an effect, but the last one, the cells are asked for. -/
def segl (P : Program) (ops : Array Oper) (F : List (Addr × Value)) (K : Act → World → Prop) : List Oper → Act → World → Prop
  | [], a, w => K a w
  | o :: l, a, w => wpList P ops (Only (if (effB o && !l.isEmpty) = true then (fun a w => SF F w ∧ segl P ops F K l a w) else segl P ops F K l)) [o] a w
theorem segl_step {K : Act → World → Prop} {o : Oper} {l : List Oper} {a : Act} {w : World} (hs : SF F w) (hc : Cal P ops o a) (h : segl P ops F K (o :: l) a w) :
    Step P ops o (fun a w => (l ≠ [] → SF F w) ∧ segl P ops F K l a w) a w := by
  have h1 := step_of_one h
  cases he : effB o with
  | true =>
    cases l with
    | nil =>
      rw [he, if_neg (by decide)] at h1
      exact h1.mono fun a1 v w1 _ h2 => ⟨fun k => absurd rfl k, h2⟩
    | cons o' l' =>
      rw [he, if_pos (show (true && !(o' :: l').isEmpty) = true from rfl)] at h1
      exact h1.mono fun a1 v w1 _ h2 => ⟨fun _ => h2.1, h2.2⟩
  | false =>
    rw [he, if_neg (by simp)] at h1
    unfold effB at he
    simp only [Bool.not_eq_false', Bool.or_eq_true] at he
    rcases he with hp | hl
    · obtain ⟨v, hy, hK⟩ := h1.yields hp hc
      rcases hy with ⟨hw, hr⟩ | ⟨hw, rfl⟩
      · unfold Step; rw [if_pos hw, hr w]; exact ⟨fun _ => hs, hK⟩
      · unfold Step; rw [if_neg (by rw [hw]; decide)]; exact ⟨fun _ => hs, hK⟩
    · rcases h1.loads hl with ⟨hw, v, hr, hK⟩ | ⟨hw, hK⟩
      · exact Step.of_loads hw hr ⟨fun _ => hs, hK⟩
      · unfold Wants at hw; unfold Step; rw [if_neg hw]; exact ⟨fun _ => hs, hK⟩

/-- There is an end, and its frame differs in the slots of the operations alone. -/
theorem segl_out {K : Act → World → Prop} : ∀ (l : List Oper) (a : Act) (w : World), segl P ops F K l a w →
    ∃ (a' : Act) (w' : World), K a' w' ∧ ∀ t, (∀ o ∈ l, o.dst ≠ some t) → a'.tmps[t]? = a.tmps[t]? := by
  intro l
  induction l with
  | nil => intro a w h; exact ⟨a, w, h, fun _ _ => rfl⟩
  | cons o l ih =>
    intro a w h
    obtain ⟨a1, v, w1, e1, h1⟩ := (step_of_one h).out
    have h1' : segl P ops F K l (a1.put o.dst v) w1 := by
      split at h1
      · exact h1.2
      · exact h1
    obtain ⟨a', w', hK, hag⟩ := ih _ _ h1'
    refine ⟨a', w', hK, fun t ht => (hag t fun o' ho' => ht o' (List.mem_cons_of_mem _ ho')).trans ?_⟩
    have hne := ht o List.mem_cons_self
    cases hd : o.dst with
    | none => simp [Act.put, e1]
    | some d =>
      have hdt : d ≠ t := fun e => hne (by rw [hd, e])
      simp [Act.put, e1, Array.getElem?_setIfInBounds_ne hdt]

/-- The last one waits for all others. -/
def lastB (ops : Array Oper) : Bool := decide (0 < ops.size) && (List.range (ops.size - 1)).all fun j => ((masksFrom [] ops.toList).getD (ops.size - 1) 0).testBit j
theorem main_order_l {z : Nat} {oz : Oper} (hzo : ops[z]? = some oz) (hz : z + 1 = ops.size) {ms : List Nat} (hlast : ∀ j, j < z → (ms.getD z 0).testBit j = true) {Q : Exit → Act → World → Prop} (hl : low ops = true) (hj : justified ms ops = true) (hu : unordered H ms ops = true) (hp : ∀ (i : Nat) (o : Oper), ops[i]? = some o → plain o = true) :
    ∀ (fuel : Nat) (listed : Array Bool) (c : List Nat) (a : Act) (w : World), fuel = c.length → listed.size = ops.size →
      (∀ i, i ∈ c ++ [z] ↔ i < ops.size ∧ listed.getD i false = false) → (c ++ [z]).Pairwise (· < ·) → Closed ops listed →
      Run P ops H F c (fun a w => Step P ops oz (fun a w => Q .normal a w) a w) a w → wpAny P .any ops Q (fuel + 1) listed a w := by
  intro fuel
  induction fuel with
  | zero =>
    intro listed c a w hlen hsz hmem _ _ h
    obtain rfl : c = [] := List.eq_nil_of_length_eq_zero hlen.symm
    have hzn : z < ops.size := by omega
    have hlst : ∀ i, i < ops.size → listed.getD i true = listed.getD i false := fun i hi => by
      rw [Array.getD_eq_getD_getElem?, Array.getD_eq_getD_getElem?, Array.getElem?_eq_getElem (by omega)]; rfl
    have hzl := ((hmem z).1 (by simp)).2
    have hoth : ∀ k, k < ops.size → k ≠ z → listed.getD k false = true := fun k hk hne => by
      cases hb : listed.getD k false with
      | true => rfl
      | false =>
        have := (hmem k).2 ⟨hk, hb⟩
        simp at this
        exact absurd this hne
    refine ⟨fun hr => ?_, fun i hi => ?_⟩
    · exfalso
      have : z ∈ Region.ready .any ops listed := mem_ready.2 ⟨by rw [hlst z hzn]; exact hzl, oz, hzo, fun e he hb => by
        have hlo := low_spec hl hzo he hb
        exact hoth e.on (by omega) (by omega)⟩
      rw [hr] at this
      cases this
    · obtain ⟨h0, o, ho, hall⟩ := mem_ready.1 hi
      have hin : i < ops.size := (Array.getElem?_eq_some_iff.1 ho).1
      have hiz : i = z := by
        by_cases e : i = z
        · exact e
        · rw [hlst i hin, hoth i hin e] at h0; cases h0
      subst hiz
      obtain rfl : o = oz := Option.some.inj (ho.symm.trans hzo)
      refine Step.wpOp ho h |> wpOp_mono fun a1 w1 h1 => ?_
      refine main_order (F := F) (H := H) hl hj hu hp 0 _ [] a1 w1 rfl (by simpa using hsz) (fun k => ?_) List.Pairwise.nil ?_ h1
      · constructor
        · intro hk; cases hk
        · rintro ⟨hk, hb⟩
          by_cases hki : k = i
          · subst hki; simp [show k < listed.size by omega] at hb
          · rw [getD_set_ne false (Ne.symm hki), hoth k hk hki] at hb; cases hb
      · intro k ok hok hlk e he hb
        have hlo := low_spec hl hok he hb
        have hkn : k < ops.size := (Array.getElem?_eq_some_iff.1 hok).1
        rw [getD_set_ne false (by omega)]
        exact hoth e.on (by omega) (by omega)
  | succ fuel ih =>
    intro listed c a w hlen hsz hmem hsort hcl h
    have hlst : ∀ i, i < ops.size → listed.getD i true = listed.getD i false := fun i hi => by
      rw [Array.getD_eq_getD_getElem?, Array.getD_eq_getD_getElem?, Array.getElem?_eq_getElem (by omega)]; rfl
    have hlt : ∀ i, i ∈ c → i < ops.size := fun i hi => ((hmem i).1 (List.mem_append_left _ hi)).1
    have hltz : ∀ i, i ∈ c → i < z := fun i hi => (List.pairwise_append.1 hsort).2.2 i hi z (by simp)
    have hsortc := (List.pairwise_append.1 hsort).1
    refine ⟨fun hr => ?_, fun i hi => ?_⟩
    · exfalso
      cases c with
      | nil => simp at hlen
      | cons i c =>
        have hi := (hmem i).1 (by simp)
        have ho : ops[i]? = some ops[i] := Array.getElem?_eq_getElem hi.1
        have : i ∈ Region.ready .any ops listed := mem_ready.2 ⟨by rw [hlst i hi.1]; exact hi.2, ops[i], ho, fun e he hb => by
          have hlo := low_spec hl ho he hb
          cases hb2 : listed.getD e.on false with
          | true => rfl
          | false =>
            have hm := (hmem e.on).2 ⟨by omega, hb2⟩
            rcases List.mem_cons.1 hm with h1 | h1
            · omega
            · have := List.rel_of_pairwise_cons hsort h1; omega⟩
        rw [hr] at this
        cases this
    · obtain ⟨h0, o, ho, hall⟩ := mem_ready.1 hi
      have hin : i < ops.size := (Array.getElem?_eq_some_iff.1 ho).1
      have hicz : i ∈ c ++ [z] := (hmem i).2 ⟨hin, by rw [← hlst i hin]; exact h0⟩
      have hiz : i ≠ z := by
        intro e
        subst e
        cases c with
        | nil => simp at hlen
        | cons j c =>
          have hji := hltz j (by simp)
          have := bit_listed hl hj hcl i o ho hall j hji (hlast j hji)
          rw [((hmem j).1 (by simp)).2] at this
          cases this
      have hic : i ∈ c := by
        rcases List.mem_append.1 hicz with h1 | h1
        · exact h1
        · exact absurd (by simpa using h1) hiz
      obtain ⟨c1, c2, rfl⟩ := List.append_of_mem hic
      have hs := List.pairwise_append.1 hsortc
      have hfront := run_front ho (hp i o ho) c2 c1 (fun j hj1 => by
        have hjn := hlt j (by simp [hj1])
        have hoj : ops[j]? = some ops[j] := Array.getElem?_eq_getElem hjn
        have hji : j < i := hs.2.2 j hj1 i List.mem_cons_self
        refine ⟨ops[j], hoj, hp j _ hoj, pairs hu ho hoj hji ?_⟩
        cases hb : (ms.getD i 0).testBit j with
        | false => rfl
        | true =>
          have := bit_listed hl hj hcl i o ho hall j hji hb
          rw [((hmem j).1 (by simp [hj1])).2] at this
          cases this) a w h
      simp only [Run, ho] at hfront
      refine hfront.2.2.wpOp ho |> wpOp_mono fun a1 w1 h1 => ?_
      have hset : ∀ k, (listed.setIfInBounds i true).getD k false = if k = i then true else listed.getD k false := fun k => by
        by_cases hk : k = i
        · subst hk; rw [if_pos rfl]; simp [show k < listed.size by omega]
        · rw [if_neg hk, getD_set_ne false (Ne.symm hk)]
      have hnotin : i ∉ c1 ++ c2 := by
        intro hm
        rcases List.mem_append.1 hm with h2 | h2
        · have := hs.2.2 i h2 i List.mem_cons_self; omega
        · have := List.rel_of_pairwise_cons hs.2.1 h2; omega
      refine ih (listed.setIfInBounds i true) (c1 ++ c2) a1 w1 (by simp at hlen ⊢; omega) (by simpa using hsz) (fun k => ?_) ?_ ?_ h1.2
      · rw [hset k]
        by_cases hk : k = i
        · subst hk; simp only [if_true]
          exact ⟨fun hm => by
            rcases List.mem_append.1 hm with h2 | h2
            · exact absurd h2 hnotin
            · exact absurd (by simpa using h2) hiz, fun hm => by simp at hm⟩
        · rw [if_neg hk, ← hmem k]
          simp [hk]
      · refine List.pairwise_append.2 ⟨List.pairwise_append.2 ⟨hs.1, (List.pairwise_cons.1 hs.2.1).2, fun x hx y hy => hs.2.2 x hx y (List.mem_cons_of_mem _ hy)⟩, List.pairwise_singleton _ _, fun x hx y hy => ?_⟩
        obtain rfl : y = z := by simpa using hy
        refine hltz x ?_
        rcases List.mem_append.1 hx with h2 | h2
        · simp [h2]
        · simp [h2]
      · intro k ok hok hlk e he hb
        rw [hset] at hlk ⊢
        by_cases hei : e.on = i
        · rw [if_pos hei]
        · rw [if_neg hei]
          by_cases hk : k = i
          · subst hk
            have : ok = o := Option.some.inj (hok.symm.trans ho)
            subst this
            exact hall e he hb
          · rw [if_neg hk] at hlk
            exact hcl k ok hok hlk e he hb
theorem to_run_l {oz : Oper} {K : Act → World → Prop} (hst : static P ops = true) (hsd : steady H ops = true) :
    ∀ (l : List Oper) (i : Nat) (a : Act) (w : World), l ++ [oz] = ops.toList.drop i → SF F w → segl P ops F (fun a w => shapes P ops a = true ∧ heldAddrs ops H a = F.map (fun q => some q.1) ∧ heldFits P ops H F a = true ∧ K a w) (l ++ [oz]) a w →
      Run P ops H F (List.range' i l.length) (fun a w => Step P ops oz K a w) a w := by
  intro l
  induction l with
  | nil =>
    intro i a w _ _ h
    have h1 := step_of_one h
    rw [if_neg (by simp)] at h1
    exact h1.mono fun a1 v w1 _ h2 => h2.2.2.2
  | cons o l ih =>
    intro i a w hl hsf h
    have ho : ops[i]? = some o := by
      have := congrArg (·[0]?) hl
      simpa using this.symm
    have hl' : l ++ [oz] = ops.toList.drop (i + 1) := by
      have := congrArg List.tail hl
      simpa [List.tail_drop] using this
    have hmem : o ∈ ops.toList := List.mem_of_getElem? (by simpa using ho : ops.toList[i]? = some o)
    have hcal : Cal2 P ops H F o a := by
      cases hn : wants2 H o with
      | false =>
        unfold wants2 at hn
        rw [Bool.or_eq_false_iff] at hn
        exact ⟨cal_static hst hmem hn.1 a, fun hh => by rw [hn.2] at hh; cases hh⟩
      | true =>
        obtain ⟨a', w', ⟨hsh, hha, hft, _⟩, hag⟩ := segl_out _ _ _ h
        have hlook : ∀ t ∈ o.looksAt ops, a'.tmps[t]? = a.tmps[t]? := fun t ht => hag t fun o' ho' hd => by
          have h1 := all_zip hsd ho
          simp only [hn, Bool.not_true, Bool.false_or] at h1
          have ho'' : o' ∈ ops.toList.drop i := by rw [← hl]; exact ho'
          obtain ⟨k, hk⟩ := List.mem_iff_getElem?.1 ho''
          rw [List.getElem?_drop] at hk
          have h2 := all_zip (p := fun (o', k) => decide (k < i) || (match o'.dst with | some d => !(o.looksAt ops).contains d | none => true)) h1 (i := i + k) (o := o') (by simpa using hk)
          simp [hd] at h2
          rcases h2 with h2 | h2
          · omega
          · exact h2 ht
        have hw : Region.wanted o (yielded ops a'.tmps) = Region.wanted o (yielded ops a.tmps) := by
          unfold Region.wanted
          cases hg : o.guard with
          | none => rfl
          | some gw =>
            obtain ⟨g, want⟩ := gw
            have : yielded ops a'.tmps g = yielded ops a.tmps g := by
              unfold yielded
              cases ht : (ops[g]?).bind (·.dst) with
              | none => rfl
              | some t =>
                have := hlook t (List.mem_append_right _ (by simp [hg, ht]))
                simp [this]
            simp only [this]
        have hag2 : Agree (ops := ops) o a' a := Agree.symm ⟨fun x hx => by
          cases x with
          | tmp t =>
            have := hlook t (List.mem_append_left _ (List.mem_filterMap.2 ⟨.tmp t, by simpa using hx, rfl⟩))
            simp [Act.eval, this]
          | _ => rfl, hw⟩
        refine hag2.cal2 ⟨?_, fun hh hwa => ?_⟩
        · cases hne : needs o with
          | false => exact cal_static hst hmem hne a'
          | true =>
            intro hk hwa
            have := List.all_eq_true.1 hsh o hmem
            unfold Wants at hwa
            simpa [hne, hwa] using this
        · have hin : o ∈ ops.toList.filter (fun o => heldB H o && Region.wanted o (yielded ops a'.tmps)) := List.mem_filter.2 ⟨hmem, by unfold Wants at hwa; simp [hh, hwa]⟩
          have hha2 : (ops.toList.filter (fun o => heldB H o && Region.wanted o (yielded ops a'.tmps))).map (fun o => addrOf a'.eval o) = F.map (fun q => some q.1) := by
            rw [← hha]
            unfold heldAddrs
            induction ops.toList with
            | nil => rfl
            | cons x l ih =>
              rw [List.filterMap_cons, List.filter_cons]
              by_cases hx : (heldB H x && Region.wanted x (yielded ops a'.tmps)) = true
              · rw [if_pos hx, if_pos hx, List.map_cons, ih]
              · rw [if_neg hx, if_neg hx, ih]
          obtain ⟨k, hk⟩ := List.mem_iff_getElem?.1 hin
          have hk2 := congrArg (·[k]?) hha2
          simp only [List.getElem?_map, hk, Option.map_some] at hk2
          cases hq : F[k]? with
          | none => rw [hq] at hk2; cases hk2
          | some q =>
            rw [hq] at hk2
            have he : addrOf a'.eval o = some q.1 := by simpa using hk2
            refine ⟨q, List.mem_of_getElem? hq, he, ?_⟩
            have hz : (o, q) ∈ (ops.toList.filter (fun o => heldB H o && Region.wanted o (yielded ops a'.tmps))).zip F := List.mem_of_getElem? (i := k) (by rw [List.getElem?_zip_eq_some]; exact ⟨hk, hq⟩)
            exact List.all_eq_true.1 hft (o, q) hz
    simp only [List.length_cons, List.range'_succ, Run, ho]
    exact ⟨hsf, hcal, (segl_step hsf hcal.1 h).mono fun a1 v w1 _ h1 => ⟨h1.1 (by simp), ih (i + 1) _ _ hl' (h1.1 (by simp)) h1.2⟩⟩

theorem region_of_l {id : Nat} {Q : Exit → Act → World → Prop} {a : Act} {w : World} (hm : P.follows .mixedOrders = true) (hc : check P H ops = true) (hla : lastB ops = true) (hs : SF F w.drew)
    (h : segl P ops F (fun a w => shapes P ops a = true ∧ heldAddrs ops H a = F.map (fun q => some q.1) ∧ heldFits P ops H F a = true ∧ Q .normal a w) ops.toList a w.drew) : (Code.region id ops true).wp P Q a w := by
  unfold check at hc
  simp only [Bool.and_eq_true] at hc
  obtain ⟨⟨⟨⟨hl, hj⟩, hu⟩, hst⟩, hsd⟩ := hc
  unfold lastB at hla
  simp only [Bool.and_eq_true, decide_eq_true_eq, List.all_eq_true, List.mem_range] at hla
  obtain ⟨h0, hlast⟩ := hla
  refine wp_region_any hm ?_
  have hzo : ops[ops.size - 1]? = some ops[ops.size - 1] := Array.getElem?_eq_getElem (by omega)
  have hsplit : ops.toList.dropLast ++ [ops[ops.size - 1]] = ops.toList := by
    have hne : ops.toList ≠ [] := by intro e; have := congrArg List.length e; rw [Array.length_toList, List.length_nil] at this; omega
    have := List.dropLast_concat_getLast hne
    rw [List.getLast_eq_getElem] at this
    simpa using this
  have hlen : ops.toList.dropLast.length = ops.size - 1 := by simp
  have hr := to_run_l (P := P) (oz := ops[ops.size - 1]) (K := fun a w => Q .normal a w) hst hsd ops.toList.dropLast 0 a w.drew (by rw [hsplit]; simp) hs (by rw [hsplit]; exact h)
  rw [hlen] at hr
  have hg : ∀ i, (Array.replicate ops.size false).getD i false = false := fun i => by
    rw [Array.getD_eq_getD_getElem?, Array.getElem?_replicate]; split <;> rfl
  have hmo := main_order_l (F := F) hzo (by omega) hlast hl hj hu (fun i o ho => by
    have hmem : o ∈ ops.toList := List.mem_of_getElem? (by simpa using ho : ops.toList[i]? = some o)
    have := List.all_eq_true.1 hst o hmem
    simp only [Bool.and_eq_true] at this
    exact this.1) (ops.size - 1) (Array.replicate ops.size false) (List.range' 0 (ops.size - 1)) a w.drew (by simp) (by simp) (fun i => by
      rw [hg]
      have e : i ∈ List.range' 0 (ops.size - 1) ↔ i < ops.size - 1 := by simp [List.mem_range']
      rw [List.mem_append, e, List.mem_singleton]
      constructor
      · intro h; exact ⟨by omega, rfl⟩
      · rintro ⟨h, _⟩; omega) (by
      refine List.pairwise_append.2 ⟨List.pairwise_lt_range', List.pairwise_singleton _ _, fun x hx y hy => ?_⟩
      obtain rfl : y = ops.size - 1 := by simpa using hy
      simp [List.mem_range'] at hx
      omega) (fun i o ho hl => by rw [hg] at hl; exact absurd hl (by decide)) hr
  rw [show ops.size - 1 + 1 = ops.size by omega] at hmo
  exact hmo
theorem segl_at {K : Act → World → Prop} : ∀ (n : Nat) (l : List Oper) (a : Act) (w : World), cutOk n l = true → decide (n + 1 < l.length) = true →
    wpList P ops (Only fun a w => SF F w ∧ segl P ops F K (l.drop (n + 1)) a w) (l.take (n + 1)) a w → segl P ops F K l a w := by
  intro n
  induction n with
  | zero =>
    intro l a w hc hn h
    cases l with
    | nil => cases hc
    | cons o l =>
      unfold segl
      have hl : l.isEmpty = false := by cases l <;> simp_all
      rw [hl, if_pos (show (effB o && !false) = true by simp; exact hc)]
      exact h
  | succ n ih =>
    intro l a w hc hn h
    cases l with
    | nil => cases hc
    | cons o l =>
      simp only [cutOk, Bool.and_eq_true, Bool.not_eq_true'] at hc
      unfold segl
      rw [if_neg (by rw [hc.1]; simp)]
      exact one_of_step ((step_of_list h).mono fun a1 v w1 _ h1 => ih l _ _ hc.2 (by simpa using hn) h1)
theorem segl_last {K : Act → World → Prop} : ∀ (n : Nat) (l : List Oper) (a : Act) (w : World), cutOk n l = true → n + 1 = l.length →
    wpList P ops (Only K) l a w → segl P ops F K l a w := by
  intro n
  induction n with
  | zero =>
    intro l a w hc hn h
    cases l with
    | nil => cases hc
    | cons o l =>
      obtain rfl : l = [] := by simpa using hn
      unfold segl
      rw [if_neg (by simp)]
      exact h
  | succ n ih =>
    intro l a w hc hn h
    cases l with
    | nil => cases hc
    | cons o l =>
      simp only [cutOk, Bool.and_eq_true, Bool.not_eq_true'] at hc
      unfold segl
      rw [if_neg (by rw [hc.1]; simp)]
      exact one_of_step ((step_of_list h).mono fun a1 v w1 _ h1 => ih l _ _ hc.2 (by simpa using hn) h1)
/-- The law with cells that are held; the last operation may write into them. -/
theorem region_held_l (H : List Nat) (F : List (Addr × Value)) {id : Nat} {Q : Exit → Act → World → Prop} {a : Act} {w : World} (hm : P.follows .mixedOrders = true) (hc : check P H ops = true) (hla : lastB ops = true) (hs : SF F w)
    (h : segl P ops F (fun a w => shapes P ops a = true ∧ heldAddrs ops H a = F.map (fun q => some q.1) ∧ heldFits P ops H F a = true ∧ Q .normal a w) ops.toList a w.drew) : (Code.region id ops true).wp P Q a w :=
  region_of_l hm hc hla hs h
end
end Go.Proofs.YtoiclkaecgpbbaaDoor.Canon
