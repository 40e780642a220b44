/- A region that draws its order, walked in the order of the text: the law. -/
import Derived.Test.YtoiclkaecgpbbaaDoorCanon
import Derived.Laws.Cells
namespace Go.Proofs.YtoiclkaecgpbbaaDoor.Canon
open Go

def pureKind (o : Oper) : Bool := match o.op with
  | .move _ | .assign _ | .pick .. | .nilCheck _ | .binOp .. | .unOp .. | .convert .. | .fieldAddr .. | .field .. | .indexAddr .. | .index .. | .slice .. | .extract .. => true
  | .call c => match c.callee with
    | .builtin .len | .builtin .max | .builtin .min => true
    | _ => false
  | _ => false
def loadKind (o : Oper) : Bool := match o.op with | .load .. => true | _ => false
def isInt : Value → Bool | .int .. => true | _ => false
def isBool : Value → Bool | .bool _ => true | _ => false
def calmB (P : Program) (ρ : Operand → Value) (o : Oper) : Bool := match o.op with
  | .nilCheck x => match ρ x with | .pointer _ => true | _ => false
  | .binOp op _ x y _ => (isInt (ρ x) && isInt (ρ y)) || ((match op with | .eql | .neq => true | _ => false) && isBool (ρ x) && isBool (ρ y))
  | .unOp _ _ x => isInt (ρ x) || isBool (ρ x)
  | .convert _ dst x => isInt (ρ x) && (match P.underlying dst with | some (.int _) => true | _ => false)
  | .fieldAddr t _ f => match P.underlying t with
    | some (.struct fs) => match fs[f]? with
      | some g => match P.info? g.type with
        | some i => i.size != 0
        | none => false
      | none => false
    | _ => false
  | .call c => match c.callee, c.args.toList.map ρ with
    | .builtin .len, [.slice ..] | .builtin .len, [.string _] => true
    | .builtin .max, l | .builtin .min, l => l.all isInt
    | _, _ => false
  | _ => true

theorem calm_max (P : Program) : ∀ (l : List Value) (x : Value), isInt x = true → l.all isInt = true → Calm P (l.foldlM Builtin.max2 x) := by
  intro l
  induction l with
  | nil => intro x _ _; trivial
  | cons y l ih =>
    intro x hx hl
    simp only [List.all_cons, Bool.and_eq_true] at hl
    cases x <;> simp [isInt] at hx
    obtain ⟨h1, h2⟩ := hl
    cases y <;> simp [isInt] at h1
    exact ih (.int _ _) rfl h2
theorem calm_min (P : Program) : ∀ (l : List Value) (x : Value), isInt x = true → l.all isInt = true → Calm P (l.foldlM Builtin.min2 x) := by
  intro l
  induction l with
  | nil => intro x _ _; trivial
  | cons y l ih =>
    intro x hx hl
    simp only [List.all_cons, Bool.and_eq_true] at hl
    cases x <;> simp [isInt] at hx
    obtain ⟨h1, h2⟩ := hl
    cases y <;> simp [isInt] at h1
    exact ih (.int _ _) rfl h2
theorem calm_binInt (P : Program) (op : BinOp) (t : TypeId) (k k' : IntKind) (x y : Int) : Calm P (binOp op t (.int k x) (.int k' y)) := by
  have hs : ∀ op : BinOp, Calm P (Op.shift op k x k' y) := fun op => by
    unfold Op.shift
    split
    · exact calm_error _
    · cases op <;> trivial
  have hd : ∀ op : BinOp, Calm P (Op.intDiv op k x y) := fun op => by
    unfold Op.intDiv
    split
    · exact calm_error _
    · cases op <;> trivial
  cases op <;> first
    | exact hs _
    | (unfold binOp
       dsimp only
       first
         | exact hs _
         | (split
            · trivial
            · first | exact hd _ | trivial))
theorem calm_binBool (P : Program) (op : BinOp) (h : (match op with | .eql | .neq => true | _ => false) = true) (t : TypeId) (x y : Bool) : Calm P (binOp op t (.bool x) (.bool y)) := by
  have he : Calm P (Op.equal t (.bool x) (.bool y)) := by
    refine (calm_underlying t).bind fun d => ?_
    cases d <;> trivial
  cases op <;> first | exact absurd h (by decide) | exact he.bind fun _ => trivial
theorem calm_und {α : Type} {P : Program} {t : TypeId} {d : TypeDesc} (h : P.underlying t = some d) {f : TypeDesc → Sem α} (hf : Calm P (f d)) : Calm P (underlying t >>= f) := by
  show Calm P ((match P.underlying t with | some d => pure d | none => stuck "no such type" : Sem TypeDesc).bind f)
  rw [h]; exact hf
theorem calm_size {α : Type} {P : Program} {t : TypeId} {d : TypeInfo} (h : P.info? t = some d) {f : Nat → Sem α} (hf : Calm P (f d.size)) : Calm P (sizeOf t >>= f) := by
  show Calm P (((match P.info? t with | some d => pure d | none => stuck "no such type" : Sem TypeInfo).bind fun i => pure i.size).bind f)
  rw [h]; exact hf
/-- What a pure operation means, is calm. -/
theorem calm_of (P : Program) (ρ : Operand → Value) (o : Oper) (hk : pureKind o = true) (hc : calmB P ρ o = true) :
    ∃ s : Sem Value, execOp ρ o = (s >>= fun v => pure (Next.value v)) ∧ Calm P s := by
  obtain ⟨dst, op, type, pos, after, guard⟩ := o
  cases op <;> simp only [pureKind, Bool.false_eq_true] at hk
  case move x => exact ⟨pure (ρ x), rfl, trivial⟩
  case assign x => exact ⟨pure (ρ x), rfl, trivial⟩
  case pick c x y => exact ⟨asBool (ρ c) >>= fun b => pure (if b then ρ x else ρ y), by
    simp only [execOp]
    cases ρ c <;> rfl, (calm_asBool _).bind fun _ => trivial⟩
  case nilCheck x =>
    simp only [calmB] at hc
    split at hc
    · rename_i q hx
      cases q with
      | none => exact ⟨runtimePanic .nilDeref, by simp only [execOp, hx]; rfl, calm_nil⟩
      | some q => exact ⟨pure (ρ x), by simp only [execOp, hx]; rfl, trivial⟩
    · exact absurd hc (by decide)
  case binOp op t x y yt =>
    simp only [calmB, Bool.or_eq_true, Bool.and_eq_true] at hc
    rcases hc with ⟨h1, h2⟩ | ⟨⟨h0, h1⟩, h2⟩
    · cases hx : ρ x <;> simp [isInt, hx] at h1
      cases hy : ρ y <;> simp [isInt, hy] at h2
      refine ⟨_, rfl, ?_⟩
      rw [hx, hy]
      refine Calm.bind ?_ fun _ => calm_binInt ..
      unfold eqGuard
      split <;> trivial
    · cases hx : ρ x <;> simp [isBool, hx] at h1
      cases hy : ρ y <;> simp [isBool, hy] at h2
      refine ⟨_, rfl, ?_⟩
      rw [hx, hy]
      refine Calm.bind ?_ fun _ => calm_binBool P op h0 ..
      unfold eqGuard
      split <;> trivial
  case unOp op t x =>
    simp only [calmB, Bool.or_eq_true] at hc
    refine ⟨_, rfl, ?_⟩
    cases hx : ρ x <;> simp [isInt, isBool, hx] at hc <;> cases op <;> trivial
  case convert src dst' x =>
    simp only [calmB, Bool.and_eq_true] at hc
    obtain ⟨h1, h2⟩ := hc
    cases hx : ρ x <;> simp [isInt, hx] at h1
    split at h2
    · rename_i k hk'
      refine ⟨_, rfl, ?_⟩
      rw [hx]
      refine (calm_underlying src).bind fun d => ?_
      show Calm P (underlying dst' >>= _)
      have e : (underlying dst' : Sem TypeDesc) = .program fun p => match p.underlying dst' with | some d => pure d | none => stuck "no such type" := rfl
      rw [e]
      show Calm P ((match P.underlying dst' with | some d => pure d | none => stuck "no such type" : Sem TypeDesc) >>= _)
      rw [hk']
      cases d <;> trivial
    · exact absurd h2 (by decide)
  case fieldAddr t x f =>
    simp only [calmB] at hc
    refine ⟨_, rfl, ?_⟩
    split at hc
    · rename_i fs hfs
      split at hc
      · rename_i g hg
        split at hc
        · rename_i i hi
          have hne : i.size ≠ 0 := by simpa using hc
          refine calm_und hfs ?_
          show Calm P (match fs[f]? with
            | some f => (do
              let a ← Instr.sureAddr (ρ x)
              pure (.pointer (some (← fieldPlace a f))) : Sem Value)
            | _ => stuck "fieldAddr: no such field")
          rw [hg]
          refine (calm_sureAddr _).bind fun a => ?_
          refine Calm.bind ?_ fun _ => trivial
          refine calm_size hi ?_
          rw [if_neg hne]
          trivial
        · exact absurd hc (by decide)
      · exact absurd hc (by decide)
    · exact absurd hc (by decide)
  case field t x f => exact ⟨_, rfl, calm_field ..⟩
  case indexAddr t x i => exact ⟨_, rfl, calm_indexAt ..⟩
  case index t x i => exact ⟨_, rfl, calm_index ..⟩
  case slice t x lo hi mx => exact ⟨_, rfl, calm_sliceAt ..⟩
  case extract x i => exact ⟨_, rfl, calm_extract ..⟩
  case call c =>
    obtain ⟨callee, args, ats⟩ := c
    cases callee with
    | value f => simp at hk
    | invoke r m => simp at hk
    | builtin b =>
      cases b <;> simp only [Bool.false_eq_true] at hk
      case len =>
        simp only [calmB] at hc
        refine ⟨Builtin.len_ ats type (args.map ρ), rfl, ?_⟩
        unfold Builtin.len_
        split at hc
        all_goals try (exact absurd hc (by decide))
        all_goals first
          | (rename_i h0; cases h0; done)
          | (rename_i h0 h1; cases h0; done)
          | skip
        all_goals
          rename_i h1
          have e : args.map ρ = _ := Array.toList_inj.1 ((Array.toList_map ..).trans h1)
          rw [e]
          cases ats[0]? with
          | none => trivial
          | some t =>
            refine (calm_underlying t).bind fun d => ?_
            cases d <;> first | trivial | skip
            refine (calm_underlying _).bind fun d => ?_
            cases d <;> trivial
      case max =>
        simp only [calmB] at hc
        refine ⟨Builtin.max_ ats type (args.map ρ), rfl, ?_⟩
        have hc' : (args.map ρ).toList.all isInt = true := by rw [Array.toList_map]; exact hc
        unfold Builtin.max_
        cases hl : (args.map ρ).toList with
        | nil => trivial
        | cons x l =>
          rw [hl] at hc'
          simp only [List.all_cons, Bool.and_eq_true] at hc'
          exact calm_max P l x hc'.1 hc'.2
      case min =>
        simp only [calmB] at hc
        refine ⟨Builtin.min_ ats type (args.map ρ), rfl, ?_⟩
        have hc' : (args.map ρ).toList.all isInt = true := by rw [Array.toList_map]; exact hc
        unfold Builtin.min_
        cases hl : (args.map ρ).toList with
        | nil => trivial
        | cons x l =>
          rw [hl] at hc'
          simp only [List.all_cons, Bool.and_eq_true] at hc'
          exact calm_min P l x hc'.1 hc'.2

/-! ### The walk of one operation, without panics -/
section
variable (P : Program) (ops : Array Oper)
def QF : Exit → Act → World → Prop := fun _ _ _ => False
def Wants (o : Oper) (a : Act) : Prop := Region.wanted o (yielded ops a.tmps) = true
def Cal (o : Oper) (a : Act) : Prop := pureKind o = true → Wants ops o a → calmB P a.eval o = true
def Step (o : Oper) (K : Act → World → Prop) (a : Act) (w : World) : Prop :=
  if Region.wanted o (yielded ops a.tmps) = true then o.upon P a K QF ((execOp a.eval o).run P w) else K (a.put o.dst undef) w
/-- Only the plain way out. -/
def Only (K : Act → World → Prop) : Exit → Act → World → Prop := fun e a w => match e with | .normal => K a w | _ => False
end
section
variable {P : Program} {ops : Array Oper}
theorem upon_mono {o : Oper} {a a1 : Act} {Q Q' : Exit → Act → World → Prop} {K K' : Act → World → Prop} {r : Result Next}
    (hQ : ∀ c w, Q (.panic c) a w → Q' (.panic c) a1 w) (hL : LetsOut Q → LetsOut Q')
    (hK : ∀ ds v w, K ({ a with defers := ds }.put o.dst v) w → K' ({ a1 with defers := ds }.put o.dst v) w) (hd : a1.defers = a.defers)
    (h : o.upon P a K Q r) : o.upon P a1 K' Q' r := by
  cases r with
  | ok n w =>
    cases n <;> simp only [Oper.upon] at h ⊢
    case value v => have := hK a.defers v w h; rw [← hd] at this; exact this
    case skip => have := hK a.defers undef w h; rw [← hd] at this; exact this
    case defer d => have := hK (d :: a.defers) undef w h; rw [← hd] at this; exact this
    case enter f args =>
      refine Calls.mono h fun e w'' he => ?_
      cases e with
      | returned v => have := hK a.defers v w'' he; rw [← hd] at this; exact this
      | panicked c => exact hQ _ _ he
      | outgrown => exact hL he
    case row row args => exact Rows.mono h fun v w'' he => by have := hK a.defers v w'' he; rw [← hd] at this; exact this
  | halt x w => cases x <;> simp only [Oper.upon] at h ⊢; exact hQ _ _ h
theorem lets_QF : ¬ LetsOut QF := fun ⟨_, _, h⟩ => h
theorem lets_Only {K : Act → World → Prop} : ¬ LetsOut (Only K) := fun ⟨_, _, h⟩ => h
theorem step_of_wpOp {K0 K : Act → World → Prop} {i : Nat} {o : Oper} (ho : ops[i]? = some o) {a : Act} {w : World} (h : wpOp P ops (Only K0) i K a w) : Step P ops o K a w := by
  unfold wpOp at h
  simp only [ho] at h
  unfold Step
  split at h
  · rename_i hw
    rw [if_pos hw]
    rcases h with h | h
    · exact upon_mono (fun _ _ h => h.elim) (fun h => absurd h lets_Only) (fun _ _ _ h => h) rfl h
    · exact absurd h.2 lets_Only
  · rename_i hw
    rw [if_neg hw]; exact h
theorem Step.wpOp {Q : Exit → Act → World → Prop} {K : Act → World → Prop} {i : Nat} {o : Oper} (ho : ops[i]? = some o) {a : Act} {w : World} (h : Step P ops o K a w) : wpOp P ops Q i K a w := by
  unfold Go.wpOp
  simp only [ho]
  unfold Step at h
  split at h
  · rename_i hw
    rw [if_pos hw]
    exact .inl (upon_mono (fun _ _ h => h.elim) (fun h => absurd h lets_QF) (fun _ _ _ h => h) rfl h)
  · rename_i hw
    rw [if_neg hw]; exact h
theorem Step.mono {o : Oper} {K K' : Act → World → Prop} {a : Act} {w : World} (h : Step P ops o K a w)
    (hK : ∀ (a1 : Act) (v : Value) (w' : World), a1.tmps = a.tmps → K (a1.put o.dst v) w' → K' (a1.put o.dst v) w') : Step P ops o K' a w := by
  unfold Step at *
  split at h
  · rename_i hw
    rw [if_pos hw]
    exact upon_mono (fun _ _ h => h) (fun h => h) (fun ds v w h => hK { a with defers := ds } v w rfl h) rfl h
  · rename_i hw
    rw [if_neg hw]; exact hK a undef w rfl h
/-- There is a way out. -/
theorem Step.out {o : Oper} {K : Act → World → Prop} {a : Act} {w : World} (h : Step P ops o K a w) : ∃ (a1 : Act) (v : Value) (w' : World), a1.tmps = a.tmps ∧ K (a1.put o.dst v) w' := by
  unfold Step at h
  split at h
  · generalize (execOp a.eval o).run P w = r at h
    cases r with
    | ok n w1 =>
      cases n <;> simp only [Oper.upon] at h
      case value v => exact ⟨a, v, w1, rfl, h⟩
      case skip => exact ⟨a, undef, w1, rfl, h⟩
      case defer d => exact ⟨{ a with defers := d :: a.defers }, undef, w1, rfl, h⟩
      case enter f args =>
        obtain ⟨e, w2, fr, he, _⟩ := h []
        cases e with
        | returned v => exact ⟨a, v, w2, rfl, he⟩
        | panicked c => exact he.elim
        | outgrown => exact absurd he lets_QF
      case row row args =>
        obtain ⟨v, w2, hv, _⟩ := h default []
        exact ⟨a, v, w2, rfl, hv⟩
    | halt x w1 => cases x <;> simp only [Oper.upon] at h; exact h.elim
  · exact ⟨a, undef, w, rfl, h⟩
theorem eval_tmps {a a1 : Act} (h : a1.tmps = a.tmps) : a1.eval = a.eval := by funext x; cases x <;> simp [Act.eval, h]
theorem Cal.tmps {o : Oper} {a a1 : Act} (h : a1.tmps = a.tmps) (hc : Cal P ops o a) : Cal P ops o a1 := by
  unfold Cal Wants at *; rw [eval_tmps h, h]; exact hc
/-- The slots that an operation looks at are alike. -/
def Agree (o : Oper) (a a1 : Act) : Prop := (∀ x ∈ o.op.operands, a1.eval x = a.eval x) ∧ Region.wanted o (yielded ops a1.tmps) = Region.wanted o (yielded ops a.tmps)
theorem agree_put {o oj : Oper} {a a1 : Act} {v : Value} (h1 : a1.tmps = a.tmps) (h : ∀ d, oj.dst = some d → d ∉ o.looksAt ops) : Agree (ops := ops) o a (a1.put oj.dst v) := by
  refine ⟨fun x hx => ?_, ?_⟩
  · rw [Act.eval_put (a := a1)]
    · rw [eval_tmps h1]
    · intro d hd hxd
      refine h d hd ?_
      subst hxd
      exact List.mem_append_left _ (List.mem_filterMap.2 ⟨.tmp d, by simpa using hx, rfl⟩)
  · rw [wanted_put (ops := ops) o a1 oj.dst v h, h1]
theorem Agree.symm {o : Oper} {a a1 : Act} (h : Agree (ops := ops) o a a1) : Agree (ops := ops) o a1 a := ⟨fun x hx => (h.1 x hx).symm, h.2.symm⟩
theorem Agree.trans {o : Oper} {a a1 a2 : Act} (h : Agree (ops := ops) o a a1) (k : Agree (ops := ops) o a1 a2) : Agree (ops := ops) o a a2 := ⟨fun x hx => (k.1 x hx).trans (h.1 x hx), k.2.trans h.2⟩
theorem calmB_congr {ρ ρ' : Operand → Value} {o : Oper} (h : ∀ x ∈ o.op.operands, ρ x = ρ' x) : calmB P ρ o = calmB P ρ' o := by
  obtain ⟨dst, op, type, pos, after, guard⟩ := o
  cases op <;> simp only [Op.operands] at h <;> simp only [calmB]
  case nilCheck x => rw [h x (by simp)]
  case binOp op t x y yt => rw [h x (by simp), h y (by simp)]
  case unOp op t x => rw [h x (by simp)]
  case convert s d x => rw [h x (by simp)]
  case call c =>
    have e : c.args.toList.map ρ = c.args.toList.map ρ' := List.map_congr_left fun x hx => h x (by simp only [Call.operands, Array.mem_append]; exact .inr (by simpa using hx))
    rw [e]
theorem Agree.cal {o : Oper} {a a1 : Act} (h : Agree (ops := ops) o a a1) (hc : Cal P ops o a) : Cal P ops o a1 := by
  intro hk hw
  rw [calmB_congr h.1]
  exact hc hk (by unfold Wants at *; rw [← h.2]; exact hw)
theorem Agree.exec {o : Oper} {a a1 : Act} (h : Agree (ops := ops) o a a1) (hs : ∀ cs b, o.op ≠ .select cs b) : execOp a1.eval o = execOp a.eval o := execOp_congr o hs h.1
/-- What a pure operation yields, it yields in each world. -/
theorem Step.yields {o : Oper} {K : Act → World → Prop} {a : Act} {w : World} (hk : pureKind o = true) (hc : Cal P ops o a) (h : Step P ops o K a w) : ∃ v, Yields P ops o v a ∧ K (a.put o.dst v) w := by
  unfold Step at h
  split at h
  · rename_i hw
    obtain ⟨s, hs, hcs⟩ := calm_of P a.eval o hk (hc hk hw)
    have hcn : Calm P (execOp a.eval o) := by rw [hs]; exact hcs.bind fun _ => trivial
    cases hr : (execOp a.eval o).run P w with
    | ok n w1 =>
      have hall := hcn.run hr
      have hw1 : w1 = w := by
        have := hall w
        rw [hr] at this
        injection this
      subst hw1
      obtain ⟨v, rfl⟩ : ∃ v, n = .value v := by
        have : ∀ {s : Sem Value} {w w' n}, Sem.run P (s >>= fun v => (pure (Next.value v) : Sem Next)) w = .ok n w' → ∃ v, n = .value v := by
          intro s w w' n h
          rw [Sem.run_bind] at h
          cases hq : s.run P w with
          | ok v w2 => rw [hq] at h; exact ⟨v, by have : Result.ok (Next.value v) w2 = Result.ok n w' := h; injection this with h1; exact h1.symm⟩
          | halt x w2 => rw [hq] at h; exact absurd h (by simp)
        rw [hs] at hr
        exact this hr
      rw [hr] at h
      exact ⟨v, .inl ⟨hw, hall⟩, h⟩
    | halt x w1 =>
      rw [hr] at h
      cases x <;> simp only [Oper.upon] at h
      exact h.elim
  · rename_i hw
    exact ⟨undef, .inr ⟨by simpa using hw, rfl⟩, h⟩
/-- What a load gives leaves the world. -/
theorem Step.loads {o : Oper} {K : Act → World → Prop} {a : Act} {w : World} (hk : loadKind o = true) (h : Step P ops o K a w) :
    (Wants ops o a ∧ ∃ v, (execOp a.eval o).run P w = .ok (.value v) w ∧ K (a.put o.dst v) w) ∨ (¬ Wants ops o a ∧ K (a.put o.dst undef) w) := by
  unfold Step at h
  split at h
  · rename_i hw
    refine .inl ⟨hw, ?_⟩
    obtain ⟨dst, op, type, pos, after, guard⟩ := o
    cases op <;> simp only [loadKind, Bool.false_eq_true] at hk
    rename_i t x
    have e : execOp a.eval ⟨dst, .load t x, type, pos, after, guard⟩ = (Instr.loadAt t (a.eval x) >>= fun v => pure (Next.value v)) := rfl
    rw [e] at h ⊢
    rw [Sem.run_bind] at h ⊢
    cases hq : (Instr.loadAt t (a.eval x)).run P w with
    | ok v w2 =>
      obtain rfl := (ronly_loadAt t (a.eval x)).run hq
      rw [hq] at h
      exact ⟨v, rfl, h⟩
    | halt y w2 =>
      rw [hq] at h
      cases y <;> exact h.elim
  · rename_i hw
    exact .inr ⟨hw, h⟩
theorem Step.of_loads {o : Oper} {K : Act → World → Prop} {a : Act} {w : World} {v : Value} (hw : Wants ops o a) (hr : (execOp a.eval o).run P w = .ok (.value v) w) (h : K (a.put o.dst v) w) : Step P ops o K a w := by
  unfold Wants at hw; unfold Step; rw [if_pos hw, hr]; exact h
theorem Step.of_yields0 {o : Oper} {K : Act → World → Prop} {a : Act} {w : World} {v : Value} (hy : Yields P ops o v a) (h : K (a.put o.dst v) w) : Step P ops o K a w := by
  unfold Step
  rcases hy with ⟨hw, hr⟩ | ⟨hw, rfl⟩
  · rw [if_pos hw, hr w]; exact h
  · rw [if_neg (by rw [hw]; decide)]; exact h

/-! ### Cells that the region leaves as they are -/
/-- These cells hold these values. -/
def Holds (w : World) (p : Addr) : Value → Prop
  | .agg xs => ∀ j u, xs.toList[j]? = some u → w.cell? (p.add j) = some u
  | v => w.cell? p = some v
def SF (F : List (Addr × Value)) (w : World) : Prop := ∀ q ∈ F, Holds w q.1 q.2
/-- A load, among the named ones, of what may be held. -/
def heldB (H : List Nat) (o : Oper) : Bool := match o.op with
  | .load .. => match o.dst with
    | some d => H.contains d
    | none => false
  | _ => false
def isAggB : Value → Bool
  | .agg _ => true
  | _ => false
def aggFit (P : Program) (t : TypeId) : Value → Bool
  | .agg xs => match P.info? t with | some i => i.size == xs.size | none => false
  | _ => false
/-- May the load's type have this value? -/
def fitB (P : Program) (o : Oper) (v : Value) : Bool := match o.op with
  | .load t _ => match P.underlying t with
    | some (.struct _) => aggFit P t v
    | some (.array ..) => aggFit P t v
    | some _ => !isAggB v
    | none => false
  | _ => true
theorem holds_cell {w : World} {p : Addr} {v : Value} (h : Holds w p v) (hv : (!isAggB v) = true) : w.cell? p = some v := by
  cases v <;> first | exact h | (simp [isAggB] at hv)
theorem holds_one {w : World} {p : Addr} {v : Value} (h : w.cell? p = some v) (hv : (!isAggB v) = true) : Holds w p v := by
  cases v <;> first | exact h | (simp [isAggB] at hv)
theorem aggFit_spec {P : Program} {t : TypeId} {v : Value} (h : aggFit P t v = true) : ∃ xs i, v = .agg xs ∧ P.info? t = some i ∧ i.size = xs.toList.length := by
  unfold aggFit at h
  split at h
  · split at h
    · rename_i xs _ i hi
      exact ⟨xs, i, rfl, hi, by simpa using h⟩
    · cases h
  · cases h
def softB (H : List Nat) (o : Oper) : Bool := pureKind o || heldB H o
def addrOf (ρ : Operand → Value) (o : Oper) : Option Addr := match o.op with
  | .load _ x => match ρ x with
    | .pointer p => p
    | _ => none
  | _ => none
/-- All that is asked of an operation at its frame. -/
def Cal2 (P : Program) (ops : Array Oper) (H : List Nat) (F : List (Addr × Value)) (o : Oper) (a : Act) : Prop :=
  Cal P ops o a ∧ (heldB H o = true → Wants ops o a → ∃ q ∈ F, addrOf a.eval o = some q.1 ∧ fitB P o q.2 = true)
def YS (P : Program) (ops : Array Oper) (F : List (Addr × Value)) (o : Oper) (v : Value) (a : Act) : Prop :=
  (Region.wanted o (yielded ops a.tmps) = true ∧ ∀ w, SF F w → (execOp a.eval o).run P w = .ok (.value v) w) ∨
  (Region.wanted o (yielded ops a.tmps) = false ∧ v = undef)
theorem addrOf_congr {ρ ρ' : Operand → Value} {o : Oper} (h : ∀ x ∈ o.op.operands, ρ x = ρ' x) : addrOf ρ o = addrOf ρ' o := by
  obtain ⟨dst, op, type, pos, after, guard⟩ := o
  cases op <;> simp only [Op.operands] at h <;> simp only [addrOf]
  case load t x => rw [h x (by simp)]
variable {H : List Nat} {F : List (Addr × Value)}
theorem Agree.cal2 {o : Oper} {a a1 : Act} (h : Agree (ops := ops) o a a1) (hc : Cal2 P ops H F o a) : Cal2 P ops H F o a1 := by
  refine ⟨h.cal hc.1, fun hh hw => ?_⟩
  rw [addrOf_congr h.1]
  exact hc.2 hh (by unfold Wants at *; rw [← h.2]; exact hw)
theorem load_run {o : Oper} {a : Act} {w : World} {p : Addr} {v : Value} (hone : fitB P o v = true) (hl : loadKind o = true) (ha : addrOf a.eval o = some p) (hc : Holds w p v) : (execOp a.eval o).run P w = .ok (.value v) w := by
  obtain ⟨dst, op, type, pos, after, guard⟩ := o
  cases op <;> simp only [loadKind, Bool.false_eq_true] at hl
  rename_i t x
  simp only [addrOf] at ha
  simp only [fitB] at hone
  have e : execOp a.eval ⟨dst, .load t x, type, pos, after, guard⟩ = (Instr.loadAt t (a.eval x) >>= fun v => pure (Next.value v)) := rfl
  rw [e]
  cases hx : a.eval x <;> rw [hx] at ha <;> simp only [reduceCtorEq] at ha
  subst ha
  have e2 : (Instr.loadAt t (.pointer (some p)) : Sem Value) = (underlying t >>= fun d => (match d with | .struct _ | .array _ _ => pure true | _ => pure false) >>= fun b => if b = true then (sizeOf t >>= fun n => loadCells p n >>= fun cs => pure (.agg cs)) else load p) := by
    show (pure p >>= fun a => loadVar t a) = _
    show loadVar t p = _
    unfold loadVar isAgg
    show (Sem.bind (Sem.bind (underlying t) _) _) = _
    rw [Sem.bind_assoc']
    rfl
  rw [e2]
  have hu : ∀ (f : TypeDesc → Sem Value) (d : TypeDesc), P.underlying t = some d → (underlying t >>= f).run P w = (f d).run P w := by
    intro f d hd
    show (Sem.bind (match P.underlying t with | some d => pure d | none => stuck "no such type" : Sem TypeDesc) f).run P w = _
    rw [hd]; rfl
  have hz : ∀ (f : Nat → Sem Value) (i : TypeInfo), P.info? t = some i → (sizeOf t >>= f).run P w = (f i.size).run P w := by
    intro f i hi
    show (((match P.info? t with | some d => pure d | none => stuck "no such type" : Sem TypeInfo).bind fun i => pure i.size).bind f).run P w = _
    rw [hi]; rfl
  have hagg : aggFit P t v = true → (sizeOf t >>= fun n => loadCells p n >>= fun cs => pure (.agg cs) : Sem Value).run P w = .ok v w := by
    intro hs
    obtain ⟨xs, i, rfl, hi, hs'⟩ := aggFit_spec hs
    rw [hz _ i hi, Sem.run_bind, hs', run_loadCells_list w p xs.toList hc]
    rfl
  rw [Sem.run_bind]
  cases hd : P.underlying t with
  | none => rw [hd] at hone; cases hone
  | some d =>
    rw [hu _ d hd]
    rw [hd] at hone
    have el : (!isAggB v) = true → (load p : Sem Value).run P w = .ok v w := by
      intro hv
      have hc2 := holds_cell hc hv
      unfold load
      simp only [Sem.run, hc2]
    cases d
    case struct fs =>
      show (Result.andThen ((sizeOf t >>= fun n => loadCells p n >>= fun cs => pure (.agg cs) : Sem Value).run P w) _) = _
      rw [hagg hone]; rfl
    case array n e =>
      show (Result.andThen ((sizeOf t >>= fun n => loadCells p n >>= fun cs => pure (.agg cs) : Sem Value).run P w) _) = _
      rw [hagg hone]; rfl
    all_goals
      (show ((load p : Sem Value).run P w).andThen _ = _
       rw [el hone]; rfl)
theorem heldB_load {o : Oper} (h : heldB H o = true) : loadKind o = true := by
  unfold heldB at h; unfold loadKind
  split at h <;> simp_all
/-- What a soft operation yields, it yields in each world that holds the cells. -/
theorem Step.yieldsS {o : Oper} {K : Act → World → Prop} {a : Act} {w : World} (hk : softB H o = true) (hc : Cal2 P ops H F o a) (hw : SF F w) (h : Step P ops o K a w) : ∃ v, YS P ops F o v a ∧ K (a.put o.dst v) w := by
  unfold softB at hk
  rw [Bool.or_eq_true] at hk
  rcases hk with hk | hk
  · obtain ⟨v, hy, hK⟩ := h.yields hk hc.1
    refine ⟨v, ?_, hK⟩
    rcases hy with ⟨h1, h2⟩ | h1
    · exact .inl ⟨h1, fun w _ => h2 w⟩
    · exact .inr h1
  · have hl := heldB_load hk
    rcases h.loads hl with ⟨hwt, v, hr, hK⟩ | ⟨hwt, hK⟩
    · obtain ⟨q, hq, hp, hf⟩ := hc.2 hk hwt
      refine ⟨v, .inl ⟨hwt, fun w2 hw2 => ?_⟩, hK⟩
      have e1 := load_run (P := P) (a := a) (w := w) hf hl hp (hw q hq)
      have e2 := load_run (P := P) (a := a) (w := w2) hf hl hp (hw2 q hq)
      have : v = q.2 := by rw [hr] at e1; injection e1 with e1; injection e1
      rw [this]; exact e2
    · exact ⟨undef, .inr ⟨by unfold Wants at hwt; simpa using hwt, rfl⟩, hK⟩
theorem Step.of_yields {o : Oper} {K : Act → World → Prop} {a : Act} {w : World} {v : Value} (hw : SF F w) (hy : YS P ops F o v a) (h : K (a.put o.dst v) w) : Step P ops o K a w := by
  unfold Step
  rcases hy with ⟨hw1, hr⟩ | ⟨hw1, rfl⟩
  · rw [if_pos hw1, hr w hw]; exact h
  · rw [if_neg (by rw [hw1]; decide)]; exact h

/-- Two operations that do not touch each other. -/
def compat (H : List Nat) (ops : Array Oper) (x y : Oper) : Bool := x.apart ops y && (softB H x || softB H y || (loadKind x && loadKind y))
def plain (o : Oper) : Bool := match o.op with | .select .. => false | _ => true
theorem plain_spec {o : Oper} (h : plain o = true) (cs : Array SelectCase) (b : Bool) : o.op ≠ .select cs b := by
  intro e; simp [plain, e] at h

theorem yields_agree {o : Oper} {v : Value} {a a1 : Act} (hp : plain o = true) (h : Agree (ops := ops) o a a1) (hy : YS P ops F o v a) : YS P ops F o v a1 := by
  unfold YS at *
  rw [h.exec (plain_spec hp), h.2]
  exact hy
/-- Behind a step of i and a constant put of j: the same with the put ahead. -/
theorem step_put {oi oj : Oper} {K : Act → World → Prop} {a : Act} {w : World} {v : Value} (hp : plain oi = true) (hap : oi.apart ops oj = true)
    (h : Step P ops oi (fun a1 w1 => K (a1.put oj.dst v) w1) a w) : Step P ops oi K (a.put oj.dst v) w := by
  obtain ⟨h1, h2, h3⟩ := Oper.apart_spec hap
  have hag : Agree (ops := ops) oi a (a.put oj.dst v) := agree_put rfl h3
  have hc : ∀ (u : Value) (ds : List Deferred), ({ a.put oj.dst v with defers := ds } : Act).put oi.dst u = (({ a with defers := ds } : Act).put oi.dst u).put oj.dst v := by
    intro u ds
    rw [Act.put_comm _ u v h2]
    cases oj.dst <;> rfl
  have hd : (a.put oj.dst v).defers = a.defers := by cases oj.dst <;> rfl
  unfold Step at *
  rw [hag.exec (plain_spec hp), hag.2]
  split at h
  · rename_i hw
    rw [if_pos hw]
    exact upon_mono (a := a) (a1 := a.put oj.dst v) (K := fun a1 w1 => K (a1.put oj.dst v) w1) (fun _ _ h => h) (fun h => h) (fun ds u w h => by rw [hc]; exact h) hd h
  · rename_i hw
    rw [if_neg hw]
    have := hc undef a.defers
    have e : ({ a.put oj.dst v with defers := a.defers } : Act) = a.put oj.dst v := by cases oj.dst <;> rfl
    rw [e] at this
    rw [this]
    exact h

/-- What a step, and what is asked of its operation, say. -/
def S (P : Program) (ops : Array Oper) (H : List Nat) (F : List (Addr × Value)) (o : Oper) (K : Act → World → Prop) (a : Act) (w : World) : Prop :=
  SF F w ∧ Cal2 P ops H F o a ∧ Step P ops o (fun a w => SF F w ∧ K a w) a w
theorem S.mono {o : Oper} {K K' : Act → World → Prop} {a : Act} {w : World} (h : S P ops H F o K a w)
    (hK : ∀ (a1 : Act) (v : Value) (w' : World), a1.tmps = a.tmps → K (a1.put o.dst v) w' → K' (a1.put o.dst v) w') : S P ops H F o K' a w :=
  ⟨h.1, h.2.1, h.2.2.mono fun a1 v w1 e hh => ⟨hh.1, hK a1 v w1 e hh.2⟩⟩

theorem swap {oi oj : Oper} {K : Act → World → Prop} {a : Act} {w : World} (hpi : plain oi = true) (hpj : plain oj = true) (hc : compat H ops oi oj = true)
    (h : S P ops H F oi (S P ops H F oj K) a w) : S P ops H F oj (S P ops H F oi K) a w := by
  unfold compat at hc
  simp only [Bool.and_eq_true, Bool.or_eq_true] at hc
  obtain ⟨hap, hk⟩ := hc
  obtain ⟨h1, h2, h3⟩ := Oper.apart_spec hap
  obtain ⟨hsw, hci, hi⟩ := h
  have agj : ∀ {a1 : Act} {v : Value}, a1.tmps = a.tmps → Agree (ops := ops) oj a (a1.put oi.dst v) := fun e => agree_put e h1
  have agi : ∀ {a1 : Act} {v : Value}, a1.tmps = a.tmps → Agree (ops := ops) oi a (a1.put oj.dst v) := fun e => agree_put e h3
  have hcj : Cal2 P ops H F oj a := by
    obtain ⟨a1, v, w1, e1, _, _, hc1, _⟩ := hi.out
    exact (agj e1).symm.cal2 hc1
  refine ⟨hsw, hcj, ?_⟩
  rcases hk with (hk | hk) | ⟨hk1, hk2⟩
  · -- i is soft
    obtain ⟨v, hy, _, _, hcj', hj⟩ := hi.yieldsS hk hci hsw
    have hj2 : Step P ops oj (fun a1 w1 => YS P ops F oi v a1 ∧ SF F w1 ∧ K (a1.put oi.dst v) w1) a w := by
      have hag := agj (v := v) (rfl : a.tmps = a.tmps)
      have hcm : ∀ (u : Value) (ds : List Deferred), ({ a.put oi.dst v with defers := ds } : Act).put oj.dst u = (({ a with defers := ds } : Act).put oj.dst u).put oi.dst v := by
        intro u ds
        have e : ({ a.put oi.dst v with defers := ds } : Act) = ({ a with defers := ds } : Act).put oi.dst v := by cases oi.dst <;> rfl
        rw [e, Act.put_comm _ v u h2]
      have hd : a.defers = (a.put oi.dst v).defers := by cases oi.dst <;> rfl
      unfold Step at hj ⊢
      rw [hag.exec (plain_spec hpj), hag.2] at hj
      split at hj
      · rename_i hw
        rw [if_pos hw]
        refine upon_mono (a := a.put oi.dst v) (a1 := a) (fun _ _ h => h) (fun h => h) (fun ds u w h => ?_) hd hj
        rw [hcm] at h
        exact ⟨yields_agree hpi (agi rfl) hy, h⟩
      · rename_i hw
        rw [if_neg hw]
        have := hcm undef a.defers
        have e : ({ a.put oi.dst v with defers := a.defers } : Act) = a.put oi.dst v := by cases oi.dst <;> rfl
        rw [e] at this
        rw [this] at hj
        exact ⟨yields_agree hpi (agi rfl) hy, hj⟩
    exact hj2.mono fun a1 u w1 e1 hh => ⟨hh.2.1, hh.2.1, (agi e1).cal2 hci, Step.of_yields hh.2.1 hh.1 ⟨hh.2.1, hh.2.2⟩⟩
  · -- j is soft
    obtain ⟨a1, u, w1, e1, hs1w, _, hc1, hs1⟩ := hi.out
    obtain ⟨v, hy1, _⟩ := hs1.yieldsS hk hc1 hs1w
    have hy : YS P ops F oj v a := yields_agree hpj (agj e1).symm hy1
    refine Step.of_yields hsw hy ⟨hsw, hsw, (agi rfl).cal2 hci, step_put hpi hap ?_⟩
    refine hi.mono fun a2 u2 w2 e2 ⟨hw2s, _, hc2, hs2⟩ => ?_
    obtain ⟨v2, hy2, hK⟩ := hs2.yieldsS hk hc2 hw2s
    have hyy : YS P ops F oj v (a2.put oi.dst u2) := yields_agree hpj (agj e2) hy
    have : v2 = v := by
      rcases hy2 with ⟨hw, hr⟩ | ⟨hw, rfl⟩ <;> rcases hyy with ⟨hw', hr'⟩ | ⟨hw', rfl⟩
      · have := (hr w2 hw2s).symm.trans (hr' w2 hw2s); injection this with h; injection h
      · rw [hw] at hw'; exact absurd hw' (by decide)
      · rw [hw] at hw'; exact absurd hw' (by decide)
      · rfl
    rw [this] at hK
    exact hK
  · -- both are loads
    rcases hi.loads hk1 with ⟨hwi, vi, hri, _, _, hcj', hj⟩ | ⟨hwi, _, _, hcj', hj⟩
    · have hag := agj (v := vi) (rfl : a.tmps = a.tmps)
      rcases hj.loads hk2 with ⟨hwj, vj, hrj, hK⟩ | ⟨hwj, hK⟩
      · have hwj' : Wants ops oj a := by unfold Wants at *; rw [← hag.2]; exact hwj
        rw [hag.exec (plain_spec hpj)] at hrj
        have hagi := agi (v := vj) (rfl : a.tmps = a.tmps)
        refine Step.of_loads hwj' hrj ⟨hsw, hsw, hagi.cal2 hci, Step.of_loads (by unfold Wants at *; rw [hagi.2]; exact hwi) (by rw [hagi.exec (plain_spec hpi)]; exact hri) ?_⟩
        rw [← Act.put_comm _ vi vj h2]; exact hK
      · have hwj' : ¬ Wants ops oj a := by unfold Wants at *; rw [← hag.2]; exact hwj
        have hagi := agi (v := undef) (rfl : a.tmps = a.tmps)
        unfold Wants at hwj'; unfold Step
        rw [if_neg hwj']
        refine ⟨hsw, hsw, hagi.cal2 hci, Step.of_loads (by unfold Wants at *; rw [hagi.2]; exact hwi) (by rw [hagi.exec (plain_spec hpi)]; exact hri) ?_⟩
        rw [← Act.put_comm _ vi undef h2]; exact hK
    · have hag := agj (v := undef) (rfl : a.tmps = a.tmps)
      rcases hj.loads hk2 with ⟨hwj, vj, hrj, hK⟩ | ⟨hwj, hK⟩
      · have hwj' : Wants ops oj a := by unfold Wants at *; rw [← hag.2]; exact hwj
        rw [hag.exec (plain_spec hpj)] at hrj
        have hagi := agi (v := vj) (rfl : a.tmps = a.tmps)
        refine Step.of_loads hwj' hrj ⟨hsw, hsw, hagi.cal2 hci, ?_⟩
        unfold Step
        rw [if_neg (by unfold Wants at hwi; rw [hagi.2]; exact hwi)]
        rw [← Act.put_comm _ undef vj h2]; exact hK
      · have hwj' : ¬ Wants ops oj a := by unfold Wants at *; rw [← hag.2]; exact hwj
        have hagi := agi (v := undef) (rfl : a.tmps = a.tmps)
        unfold Wants at hwj'; unfold Step
        rw [if_neg hwj']
        refine ⟨hsw, hsw, hagi.cal2 hci, ?_⟩
        unfold Step
        rw [if_neg (by unfold Wants at hwi; rw [hagi.2]; exact hwi)]
        rw [← Act.put_comm _ undef undef h2]; exact hK
end
end Go.Proofs.YtoiclkaecgpbbaaDoor.Canon
