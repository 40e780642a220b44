/- A region that draws its order is walked in the order of the text, if operations that no edge orders do not touch each other. -/
import Derived.Test.YtoiclkaecgpbbaaDoorProg
import Derived.Orders
import Derived.Tactics
import Derived.Laws.World
import Derived.KernelRfl
namespace Go.Proofs.YtoiclkaecgpbbaaDoor.Canon
open Go

/-! ### What a meaning may do -/
def Dead {α : Type} : Sem α → Prop
  | .pure _ => False
  | .load _ _ k => ∀ v, Dead (k v)
  | .store _ _ _ k => Dead k
  | .new _ k => ∀ v, Dead (k v)
  | .shape _ k => ∀ v, Dead (k v)
  | .freeze _ _ k => Dead k
  | .frozen _ k => ∀ v, Dead (k v)
  | .getObj _ k => ∀ v, Dead (k v)
  | .setObj _ _ k => Dead k
  | .choose _ k => ∀ v, Dead (k v)
  | .sys _ k => ∀ v, Dead (k v)
  | .program k => ∀ v, Dead (k v)
  | .mark _ k => Dead k
  | .halt _ => True

def Calm {α : Type} (P : Program) : Sem α → Prop
  | .pure _ => True
  | .program k => Calm P (k P)
  | .mark _ k => Calm P k
  | .halt _ => True
  | s => Dead s

def ROnly {α : Type} : Sem α → Prop
  | .pure _ => True
  | .load _ _ k => ∀ v, ROnly (k v)
  | .program k => ∀ v, ROnly (k v)
  | .mark _ k => ROnly k
  | .halt _ => True
  | _ => False

theorem Dead.run {α : Type} {P : Program} : ∀ {s : Sem α}, Dead s → ∀ {w v w'}, s.run P w ≠ .ok v w' := by
  intro s
  induction s with
  | pure a => intro h; exact h.elim
  | load m a k ih =>
    intro h w v w'
    simp only [Sem.run]
    split
    · exact ih _ (h _)
    · split
      · exact ih _ (h _)
      · simp
  | store m a v k ih =>
    intro h w v' w' hr
    cases v <;> simp only [Sem.run] at hr
    all_goals first
      | exact absurd hr (by simp)
      | (split at hr
         · split at hr
           · exact absurd hr (by simp)
           · exact ih h hr
         · split at hr
           · exact ih h hr
           · exact absurd hr (by simp))
  | new o k ih => intro h w v w'; simp only [Sem.run]; exact ih _ (h _)
  | shape r k ih => intro h w v w'; simp only [Sem.run]; exact ih _ (h _)
  | freeze a n k ih => intro h w v w'; simp only [Sem.run]; exact ih h
  | frozen a k ih => intro h w v w'; simp only [Sem.run]; exact ih _ (h _)
  | getObj r k ih =>
    intro h w v w'
    simp only [Sem.run]
    split
    · simp
    · exact ih _ (h _)
    · simp
  | setObj r o k ih =>
    intro h w v w'
    simp only [Sem.run]
    split
    · simp
    · exact ih h
    · simp
  | choose q k ih =>
    intro h w v w'
    simp only [Sem.run]
    split
    · exact ih _ (h _)
    · exact ih _ (h _)
  | sys c k ih => intro h w v w'; simp only [Sem.run]; exact ih _ (h _)
  | program k ih => intro h w v w'; simp only [Sem.run]; exact ih _ (h _)
  | mark m k ih => intro h w v w'; simp only [Sem.run]; exact ih h
  | halt x => intro _ w v w'; simp [Sem.run]

theorem Calm.run {α : Type} {P : Program} : ∀ {s : Sem α}, Calm P s → ∀ {w v w'}, s.run P w = .ok v w' → ∀ w2, s.run P w2 = .ok v w2 := by
  intro s
  induction s with
  | pure a => intro _ w v w' h w2; simp only [Sem.run, Result.ok.injEq] at h ⊢; exact ⟨h.1, trivial⟩
  | program k ih => intro hc w v w' h w2; simp only [Sem.run] at h ⊢; exact ih _ hc h w2
  | mark m k ih => intro hc w v w' h w2; simp only [Sem.run] at h ⊢; exact ih hc h w2
  | halt x => intro _ w v w' h; simp [Sem.run] at h
  | _ => intro hc w v w' h; exact absurd h (Dead.run hc)

theorem ROnly.run {α : Type} {P : Program} : ∀ {s : Sem α}, ROnly s → ∀ {w v w'}, s.run P w = .ok v w' → w' = w := by
  intro s
  induction s with
  | pure a => intro _ w v w' h; simp only [Sem.run, Result.ok.injEq] at h; exact h.2.symm
  | load m a k ih =>
    intro hc w v w' h
    simp only [Sem.run] at h
    split at h
    · exact ih _ (hc _) h
    · split at h
      · exact ih _ (hc _) h
      · simp at h
  | program k ih => intro hc w v w' h; simp only [Sem.run] at h; exact ih _ (hc _) h
  | mark m k ih => intro hc w v w' h; simp only [Sem.run] at h; exact ih hc h
  | halt x => intro _ w v w' h; simp [Sem.run] at h
  | _ => intro hc; exact hc.elim

theorem Dead.bind {α β : Type} {f : α → Sem β} : ∀ {s : Sem α}, Dead s → Dead (s.bind f) := by
  intro s
  induction s with
  | pure a => intro h; exact h.elim
  | halt x => intro _; trivial
  | load m a k ih => intro h; exact fun v => ih _ (h v)
  | store m a v k ih => intro h; exact ih h
  | new o k ih => intro h; exact fun v => ih _ (h v)
  | shape r k ih => intro h; exact fun v => ih _ (h v)
  | freeze a n k ih => intro h; exact ih h
  | frozen a k ih => intro h; exact fun v => ih _ (h v)
  | getObj r k ih => intro h; exact fun v => ih _ (h v)
  | setObj r o k ih => intro h; exact ih h
  | choose q k ih => intro h; exact fun v => ih _ (h v)
  | sys c k ih => intro h; exact fun v => ih _ (h v)
  | program k ih => intro h; exact fun v => ih _ (h v)
  | mark m k ih => intro h; exact ih h

theorem Calm.bind {α β : Type} {P : Program} {f : α → Sem β} : ∀ {s : Sem α}, Calm P s → (∀ a, Calm P (f a)) → Calm P (s >>= f) := by
  intro s
  show Calm P s → _ → Calm P (s.bind f)
  induction s with
  | pure a => intro _ hf; exact hf a
  | halt x => intro _ _; trivial
  | program k ih => intro h hf; exact ih _ h hf
  | mark m k ih => intro h hf; exact ih h hf
  | _ => intro h hf; exact Dead.bind (f := f) h

theorem ROnly.bind {α β : Type} {f : α → Sem β} : ∀ {s : Sem α}, ROnly s → (∀ a, ROnly (f a)) → ROnly (s >>= f) := by
  intro s
  show ROnly s → _ → ROnly (s.bind f)
  induction s with
  | pure a => intro _ hf; exact hf a
  | halt x => intro _ _; trivial
  | load m a k ih => intro h hf; exact fun v => ih _ (h v) hf
  | program k ih => intro h hf; exact fun v => ih _ (h v) hf
  | mark m k ih => intro h hf; exact ih h hf
  | _ => intro h _; exact h.elim

theorem calm_pure {α : Type} {P : Program} (a : α) : Calm P (pure a : Sem α) := trivial
theorem calm_stuck {α : Type} {P : Program} (s : String) : Calm P (stuck s : Sem α) := trivial
theorem calm_unsupported {α : Type} {P : Program} (u : Unsupported) : Calm P (unsupported u : Sem α) := trivial
theorem dead_runtimePanic {α : Type} (x y : Int) (b : Bool) (c : BoundsCode) : Dead (runtimePanic (.bounds x y b c) : Sem α) := fun _ => trivial
theorem calm_bounds {α : Type} {P : Program} (x y : Int) (b : Bool) (c : BoundsCode) : Calm P (runtimePanic (.bounds x y b c) : Sem α) := trivial
theorem calm_error {α : Type} {P : Program} (s : String) : Calm P (runtimePanic (.error s) : Sem α) := trivial
theorem calm_nil {α : Type} {P : Program} : Calm P (runtimePanic .nilDeref : Sem α) := trivial
theorem calm_boundsPanic {α : Type} {P : Program} (k : IntKind) (x y : Int) (c : BoundsCode) : Calm P (boundsPanic k x y c : Sem α) := by
  unfold boundsPanic
  split
  · exact fun _ _ => trivial
  · exact calm_bounds ..
theorem calm_underlying {P : Program} (t : TypeId) : Calm P (underlying t) := by
  show Calm P (match P.underlying t with | some d => pure d | none => stuck "no such type")
  split <;> trivial
theorem calm_typeInfo {P : Program} (t : TypeId) : Calm P (typeInfo t) := by
  show Calm P (match P.info? t with | some d => pure d | none => stuck "no such type")
  split <;> trivial
theorem calm_sizeOf {P : Program} (t : TypeId) : Calm P (sizeOf t) := (calm_typeInfo t).bind fun _ => trivial
theorem calm_isAgg {P : Program} (t : TypeId) : Calm P (isAgg t) := (calm_underlying t).bind fun d => by split <;> trivial
theorem calm_part {P : Program} (t : TypeId) (cs : Array Value) (o : Nat) : Calm P (part t cs o) := by
  refine (calm_isAgg t).bind fun b => ?_
  cases b
  · show Calm P (match cs[o]? with | some v => pure v | none => stuck "part: no such cell")
    split <;> trivial
  · exact (calm_sizeOf t).bind fun _ => trivial
theorem calm_sureAddr {P : Program} (v : Value) : Calm P (Instr.sureAddr v) := by unfold Instr.sureAddr; split <;> trivial
theorem calm_asAddr {P : Program} (v : Value) : Calm P (asAddr v) := by unfold asAddr; split <;> trivial
theorem calm_asAgg {P : Program} (v : Value) : Calm P (asAgg v) := by unfold asAgg; split <;> trivial
theorem calm_asIntOf {P : Program} (v : Value) : Calm P (asIntOf v) := by unfold asIntOf; split <;> trivial
theorem calm_asBool {P : Program} (v : Value) : Calm P (asBool v) := by unfold asBool; split <;> trivial
theorem calm_extract {P : Program} (v : Value) (i : Nat) : Calm P (Instr.extract v i) := by
  unfold Instr.extract
  split
  · split <;> trivial
  · trivial
theorem calm_field {P : Program} (t : TypeId) (v : Value) (i : Nat) : Calm P (Instr.field t v i) := by
  refine (calm_underlying t).bind fun d => ?_
  split
  · split
    · exact (calm_asAgg v).bind fun _ => calm_part ..
    · trivial
  · trivial
theorem calm_index {P : Program} (t : TypeId) (v i : Value) : Calm P (Instr.index t v i) := by
  refine (calm_asIntOf i).bind fun q => ?_
  refine (calm_underlying t).bind fun d => ?_
  split
  · split
    · exact (calm_sizeOf _).bind fun _ => calm_part ..
    · exact calm_boundsPanic ..
  · split
    · trivial
    · exact calm_boundsPanic ..
  · trivial
theorem calm_indexAt {P : Program} (t : TypeId) (v i : Value) : Calm P (Instr.indexAt t v i) := by
  refine (calm_asIntOf i).bind fun q => ?_
  refine (calm_underlying t).bind fun d => ?_
  have rest : ∀ (b : Option Addr) (l : Nat) (e : TypeId), Calm P (do
      let tiny := l ≤ 1 && (match ← underlying t with | .array .. => true | _ => false)
      match b with
      | some a =>
        if 0 ≤ q.2 ∧ q.2 < l then pure (.pointer (some (a.add (q.2.toNat * (← sizeOf e)))))
        else if tiny then unsupported (.noEntry "op/indexAddr.an index out of range at an array of length 0 or 1 (ledger 616)")
        else boundsPanic q.1 q.2 l .index
      | none => boundsPanic q.1 q.2 0 .index : Sem Value) := by
    intro b l e
    refine (calm_underlying t).bind fun d => ?_
    extract_lets tiny
    cases b with
    | some a =>
      dsimp only
      split
      · exact (calm_sizeOf _).bind fun _ => trivial
      · split
        · trivial
        · exact calm_boundsPanic ..
    | none => exact calm_boundsPanic ..
  split
  · exact (calm_sureAddr v).bind fun a => rest (some a) _ _
  · exact rest _ _ _
  · trivial
theorem calm_sliceBound {P : Program} (x : Value) (y : Nat) (c : BoundsCode) : Calm P (Instr.sliceBound x y c) := by
  refine (calm_asIntOf x).bind fun q => ?_
  obtain ⟨k, i⟩ := q
  dsimp only
  split
  · trivial
  · exact calm_boundsPanic ..
theorem calm_sliceBounds {P : Program} (b : Bool) (l c : Nat) (lo hi mx : Option Value) : Calm P (Instr.sliceBounds b l c lo hi mx) := by
  unfold Instr.sliceBounds
  cases mx <;> cases hi <;> cases lo <;> dsimp only <;>
    repeat (first | exact calm_sliceBound .. | exact trivial | refine Calm.bind (calm_sliceBound ..) fun _ => ?_ | refine Calm.bind (s := pure _) trivial fun _ => ?_ | refine Calm.bind (s := stuck _) trivial fun _ => ?_)
theorem calm_slice {P : Program} (t : TypeId) (x : Value) (lo hi mx : Option Value) : Calm P (Instr.slice t x lo hi mx) := by
  refine (calm_underlying t).bind fun d => ?_
  split
  · split
    · exact Calm.bind (s := stuck _) trivial fun _ => (calm_sliceBounds ..).bind fun _ => trivial
    · exact (calm_sliceBounds ..).bind fun _ => trivial
  · exact (calm_sliceBounds ..).bind fun _ => (calm_sizeOf _).bind fun _ => trivial
  · refine (calm_asAddr _).bind fun _ => (calm_underlying _).bind fun d => ?_
    split
    · exact (calm_sliceBounds ..).bind fun _ => (calm_sizeOf _).bind fun _ => trivial
    · trivial
  · trivial
theorem calm_sliceAt {P : Program} (t : TypeId) (x : Value) (lo hi mx : Option Value) : Calm P (Instr.sliceAt t x lo hi mx) := by
  refine (calm_underlying t).bind fun d => ?_
  split
  · exact (calm_sureAddr _).bind fun _ => (calm_sliceBounds ..).bind fun _ => (calm_sizeOf _).bind fun _ => trivial
  · exact calm_slice ..
theorem ronly_underlying (t : TypeId) : ROnly (underlying t) := fun P => by
  show ROnly (match P.underlying t with | some d => pure d | none => stuck "no such type")
  split <;> trivial
theorem ronly_typeInfo (t : TypeId) : ROnly (typeInfo t) := fun P => by
  show ROnly (match P.info? t with | some d => pure d | none => stuck "no such type")
  split <;> trivial
theorem ronly_sizeOf (t : TypeId) : ROnly (sizeOf t) := (ronly_typeInfo t).bind fun _ => trivial
theorem ronly_isAgg (t : TypeId) : ROnly (isAgg t) := (ronly_underlying t).bind fun d => by split <;> trivial
theorem ronly_loadCellsFrom (a : Addr) : ∀ (n i : Nat) (acc : Array Value), ROnly (loadCellsFrom a i n acc) := by
  intro n
  induction n with
  | zero => intro i acc; trivial
  | succ n ih => intro i acc; exact fun v => ih _ _
theorem ronly_loadAt (t : TypeId) (v : Value) : ROnly (Instr.loadAt t v) := by
  refine ROnly.bind (s := Instr.sureAddr v) (by unfold Instr.sureAddr; split <;> trivial) fun a => ?_
  refine (ronly_isAgg t).bind fun b => ?_
  cases b
  · exact fun _ => trivial
  · exact (ronly_sizeOf t).bind fun n => ROnly.bind (ronly_loadCellsFrom ..) fun _ => trivial
end Go.Proofs.YtoiclkaecgpbbaaDoor.Canon
