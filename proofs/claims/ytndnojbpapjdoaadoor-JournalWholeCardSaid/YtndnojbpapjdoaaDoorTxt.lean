/- A region that draws its order, walked once in the order of the text: where every two of its operations are ordered by the edges, or commute. No program is named here. -/
import Derived.WalkKit
import Derived.Orders
set_option linter.unusedSimpArgs false
set_option linter.unusedVariables false
set_option linter.unusedSectionVars false
namespace Go.Txt

/-- A computation that does not look at the world: one value in every world, or a halt in every world. -/
def PureS {α : Type} (P : Program) (s : Sem α) : Prop := (∃ v, ∀ w, s.run P w = .ok v w) ∨ (∀ w, ∃ h w', s.run P w = .halt h w')
/-- A computation that leaves the world as it is, or halts. -/
def ReadS {α : Type} (P : Program) (s : Sem α) : Prop := ∀ w, (∃ v, s.run P w = .ok v w) ∨ (∃ h w', s.run P w = .halt h w')

section
variable {P : Program} {α β : Type}
theorem PureS.read {s : Sem α} (h : PureS P s) : ReadS P s := fun w => h.elim (fun ⟨v, hv⟩ => .inl ⟨v, hv w⟩) (fun hh => .inr (hh w))
theorem PureS.pure (v : α) : PureS P (Pure.pure v : Sem α) := .inl ⟨v, fun _ => rfl⟩
theorem PureS.halts (h : Halt) : PureS P (Sem.halt h : Sem α) := .inr fun w => ⟨h, w, rfl⟩
theorem PureS.bind {s : Sem α} {f : α → Sem β} (hs : PureS P s) (hf : ∀ v, PureS P (f v)) : PureS P (s >>= f) := by
  rcases hs with ⟨v, hv⟩ | hh
  · rcases hf v with ⟨u, hu⟩ | hh
    · exact .inl ⟨u, fun w => by rw [Sem.run_bind, hv w]; exact hu w⟩
    · exact .inr fun w => by rw [Sem.run_bind, hv w]; exact hh w
  · exact .inr fun w => by
      obtain ⟨h, w', e⟩ := hh w
      exact ⟨h, w', by rw [Sem.run_bind, e]; rfl⟩
theorem ReadS.bind {s : Sem α} {f : α → Sem β} (hs : ReadS P s) (hf : ∀ v, ReadS P (f v)) : ReadS P (s >>= f) := by
  intro w
  rcases hs w with ⟨v, hv⟩ | ⟨h, w', e⟩
  · rcases hf v w with ⟨u, hu⟩ | ⟨h, w', e⟩
    · exact .inl ⟨u, by rw [Sem.run_bind, hv]; exact hu⟩
    · exact .inr ⟨h, w', by rw [Sem.run_bind, hv]; exact e⟩
  · exact .inr ⟨h, w', by rw [Sem.run_bind, e]; rfl⟩
theorem ReadS.pure (v : α) : ReadS P (Pure.pure v : Sem α) := (PureS.pure v).read
theorem PureS.program : PureS P program := .inl ⟨P, fun _ => rfl⟩
theorem PureS.ite {c : Prop} [Decidable c] {s t : Sem α} (hs : PureS P s) (ht : PureS P t) : PureS P (if c then s else t) := by split <;> assumption
theorem PureS.stuck (m : String) : PureS P (stuck m : Sem α) := .halts _
theorem PureS.unsupported (m : Unsupported) : PureS P (unsupported m : Sem α) := .halts _
theorem PureS.goPanic (v : Value) : PureS P (goPanic v : Sem α) := .halts _
theorem PureS.typeInfo (t : TypeId) : PureS P (typeInfo t) := by
  unfold Go.typeInfo
  refine .bind .program fun p => ?_
  split
  · exact .pure _
  · exact .stuck _
theorem PureS.underlying (t : TypeId) : PureS P (underlying t) := by
  unfold Go.underlying
  refine .bind .program fun p => ?_
  split
  · exact .pure _
  · exact .stuck _
theorem PureS.sizeOf (t : TypeId) : PureS P (sizeOf t) := .bind (.typeInfo t) fun _ => .pure _
theorem PureS.isAgg (t : TypeId) : PureS P (isAgg t) := by
  unfold Go.isAgg
  refine .bind (.underlying t) fun d => ?_
  split <;> exact .pure _
theorem PureS.zeroValue (t : TypeId) : PureS P (zeroValue t) := by
  unfold Go.zeroValue
  refine .bind (.typeInfo t) fun i => ?_
  split
  · exact .pure _
  · exact .unsupported _
theorem PureS.listMapM {β : Type} (f : α → Sem β) (hf : ∀ x, PureS P (f x)) (l : List α) : PureS P (l.mapM f) := by
  induction l with
  | nil => rw [List.mapM_nil]; exact .pure _
  | cons x l ih => rw [List.mapM_cons]; exact .bind (hf x) fun y => .bind ih fun r => .pure _
theorem PureS.arrayMapM {β : Type} (f : α → Sem β) (hf : ∀ x, PureS P (f x)) (l : Array α) : PureS P (l.mapM f) := by
  rw [Array.mapM_eq_mapM_toList]
  exact .bind (.listMapM f hf _) fun y => .pure _
theorem PureS.build (t : TypeId) (parts : Array (Nat × Value)) : PureS P (Instr.build t parts) := by
  unfold Instr.build
  refine .bind (.zeroValue t) fun z => .bind (.underlying t) fun d => ?_
  split
  · refine .bind (.arrayMapM _ (fun f => .bind (.sizeOf _) fun _ => .pure _) _) fun places => ?_
    split
    · exact .pure _
    · exact .stuck _
  · refine .bind (.sizeOf _) fun n => ?_
    split
    · exact .pure _
    · exact .stuck _
  · exact .stuck _
theorem PureS.part (t : TypeId) (cs : Array Value) (off : Nat) : PureS P (part t cs off) := by
  unfold Go.part
  refine .bind (.isAgg t) fun b => ?_
  split
  · exact .bind (.sizeOf t) fun _ => .pure _
  · split
    · exact .pure _
    · exact .stuck _
theorem PureS.runtimePanic_plain (m : String) : PureS P (runtimePanic (.error m) : Sem α) := .bind .program fun _ => .goPanic _
theorem PureS.nilDeref : PureS P (runtimePanic .nilDeref : Sem α) := .bind .program fun _ => .goPanic _
theorem PureS.boundsPanic (k : IntKind) (x y : Int) (c : BoundsCode) : PureS P (boundsPanic k x y c : Sem α) := by
  refine .inr fun w => ?_
  unfold Go.boundsPanic
  split
  · simp only [Sem.run_bind]
    cases h : ((fun n => n == 1) <$> choose (.extern "runtime.boundsError.signed" 2) : Sem Bool).run P w with
    | ok b w' => exact ⟨_, _, rfl⟩
    | halt hh w' => exact ⟨_, _, rfl⟩
  · exact ⟨_, _, rfl⟩
theorem PureS.asIntOf (v : Value) : PureS P (asIntOf v) := by unfold Go.asIntOf; split <;> first | exact .pure _ | exact .unsupported _ | exact .stuck _
theorem PureS.asBool (v : Value) : PureS P (asBool v) := by unfold Go.asBool; split <;> first | exact .pure _ | exact .stuck _
theorem PureS.asAgg (v : Value) : PureS P (asAgg v) := by unfold Go.asAgg; split <;> first | exact .pure _ | exact .stuck _
theorem PureS.asAddr (v : Value) : PureS P (asAddr v) := by unfold Go.asAddr; split <;> first | exact .pure _ | exact .nilDeref | exact .stuck _
theorem PureS.sureAddr (v : Value) : PureS P (Instr.sureAddr v) := by unfold Instr.sureAddr; split <;> first | exact .pure _ | exact .stuck _

theorem PureS.indexAt (t : TypeId) (x i : Value) : PureS P (Instr.indexAt t x i) := by
  unfold Instr.indexAt
  refine .bind (.asIntOf i) fun ki => ?_
  obtain ⟨k, i⟩ := ki
  refine .bind (.underlying t) fun d => ?_
  have key : ∀ (base : Option Addr) (len : Nat) (elem : TypeId), PureS P (do
        let __do_lift ← Go.underlying t
        have tiny : Bool := decide (len ≤ 1) && match __do_lift with
            | TypeDesc.array len elem => true
            | x => false
        match base with
          | some a =>
            if 0 ≤ i ∧ i < ↑len then do
              let __do_lift ← Go.sizeOf elem
              Pure.pure (Value.pointer (some (a.add (i.toNat * __do_lift))))
            else
              if tiny = true then
                Go.unsupported (Unsupported.noEntry "op/indexAddr.an index out of range at an array of length 0 or 1 (ledger 616)")
              else Go.boundsPanic k i (↑len) BoundsCode.index
          | none => Go.boundsPanic k i 0 BoundsCode.index) := by
    intro base len elem
    refine .bind (.underlying t) fun d => ?_
    dsimp only
    split
    · refine .ite (.bind (.sizeOf _) fun _ => .pure _) (.ite (.unsupported _) (.boundsPanic _ _ _ _))
    · exact .boundsPanic _ _ _ _
  dsimp only
  split
  · exact .bind (.sureAddr x) fun _ => .bind (.pure _) fun _ => key _ _ _
  · exact .bind (.pure _) fun _ => key _ _ _
  · exact .bind (.stuck _) fun _ => key _ _ _
theorem PureS.sliceBound (x : Value) (y : Nat) (c : BoundsCode) : PureS P (Instr.sliceBound x y c) := by
  unfold Instr.sliceBound
  refine .bind (.asIntOf x) fun ki => ?_
  obtain ⟨k, i⟩ := ki
  dsimp only
  split
  · exact .pure _
  · exact .boundsPanic _ _ _ _
theorem PureS.sliceBounds (b : Bool) (len cap : Nat) (lo hi mx : Option Value) : PureS P (Instr.sliceBounds b len cap lo hi mx) := by
  unfold Instr.sliceBounds
  cases mx <;> cases hi <;> cases lo <;> dsimp only <;> repeat' (first | exact .pure _ | exact .sliceBound _ _ _ | exact .stuck _ | refine .bind ?_ fun _ => ?_)
theorem PureS.sliceAt (t : TypeId) (x : Value) (lo hi mx : Option Value) : PureS P (Instr.sliceAt t x lo hi mx) := by
  unfold Instr.sliceAt
  refine .bind (.underlying t) fun d => ?_
  split
  · refine .bind (.sureAddr x) fun a => .bind (.sliceBounds _ _ _ _ _ _) fun lhm => ?_
    obtain ⟨l, h, m⟩ := lhm
    exact .bind (.sizeOf _) fun _ => .pure _
  · unfold Instr.slice
    refine .bind (.underlying t) fun d => ?_
    split
    · dsimp only
      repeat' (first | exact .pure _ | exact .stuck _ | exact .sliceBounds _ _ _ _ _ _ | refine .ite ?_ ?_ | refine .bind ?_ fun _ => ?_)
    · repeat' (first | exact .pure _ | exact .sizeOf _ | exact .sliceBounds _ _ _ _ _ _ | refine .bind ?_ fun _ => ?_)
    · refine .bind (.asAddr _) fun a => .bind (.underlying _) fun d => ?_
      split
      · repeat' (first | exact .pure _ | exact .sizeOf _ | exact .sliceBounds _ _ _ _ _ _ | refine .bind ?_ fun _ => ?_)
      · exact .stuck _
    · exact .stuck _
theorem PureS.index (t : TypeId) (x i : Value) : PureS P (Instr.index t x i) := by
  unfold Instr.index
  refine .bind (.asIntOf i) fun ki => ?_
  obtain ⟨k, i⟩ := ki
  refine .bind (.underlying t) fun d => ?_
  split
  · split
    · exact .bind (.sizeOf _) fun _ => .part _ _ _
    · exact .boundsPanic _ _ _ _
  · split
    · exact .pure _
    · exact .boundsPanic _ _ _ _
  · exact .stuck _
theorem PureS.field (t : TypeId) (x : Value) (f : Nat) : PureS P (Instr.field t x f) := by
  unfold Instr.field
  refine .bind (.underlying t) fun d => ?_
  split
  · split
    · exact .bind (.asAgg _) fun _ => .part _ _ _
    · exact .stuck _
  · exact .stuck _
theorem PureS.extract (x : Value) (i : Nat) : PureS P (Instr.extract x i) := by
  unfold Instr.extract
  split
  · split
    · exact .pure _
    · exact .stuck _
  · exact .stuck _
theorem PureS.makeInterface (t : TypeId) (x : Value) : PureS P (Instr.makeInterface t x) := by
  unfold Instr.makeInterface
  refine .bind (.underlying t) fun d => ?_
  split
  · exact .stuck _
  · exact .pure _
theorem PureS.fieldAt (s : TypeId) (x : Value) (f : Nat) (fs : Array Field) (fd : Field) (i : TypeInfo) (hs : P.underlying s = some (.struct fs)) (hf : fs[f]? = some fd) (hi : P.info? fd.type = some i) (hz : i.size ≠ 0) :
    PureS P (Instr.fieldAt s x f) := by
  have e : ∀ w, (Instr.fieldAt s x f).run P w = (Instr.sureAddr x >>= fun a => (Pure.pure (.pointer (some (a.add fd.offset))) : Sem Value)).run P w := by
    intro w
    unfold Instr.fieldAt
    simp only [Sem.run_bind, run_underlying hs, Result.andThen_ok, hf]
    congr 1
    funext a w
    simp [fieldPlace, Go.sizeOf, Go.typeInfo, hi, hz]
  have h : PureS P (Instr.sureAddr x >>= fun a => (Pure.pure (.pointer (some (a.add fd.offset))) : Sem Value)) := .bind (.sureAddr x) fun _ => .pure _
  rcases h with ⟨v, hv⟩ | hh
  · exact .inl ⟨v, fun w => by rw [e]; exact hv w⟩
  · exact .inr fun w => by rw [e]; exact hh w
theorem PureS.congr {s t : Sem α} (h : ∀ w, s.run P w = t.run P w) (ht : PureS P t) : PureS P s := by
  rcases ht with ⟨v, hv⟩ | hh
  · exact .inl ⟨v, fun w => by rw [h]; exact hv w⟩
  · exact .inr fun w => by rw [h]; exact hh w

theorem ReadS.load (a : Addr) : ReadS P (load a) := by
  intro w
  simp only [Go.load, Sem.run]
  split
  · exact .inl ⟨_, rfl⟩
  · split
    · exact .inl ⟨_, rfl⟩
    · exact .inr ⟨_, _, rfl⟩
theorem ReadS.loadCellsFrom (a : Addr) : ∀ (n i : Nat) (acc : Array Value), ReadS P (loadCellsFrom a i n acc) := by
  intro n
  induction n with
  | zero => intro i acc; exact .pure _
  | succ n ih => intro i acc; exact .bind (.load _) fun v => ih _ _
theorem ReadS.loadAt (t : TypeId) (x : Value) : ReadS P (Instr.loadAt t x) := by
  unfold Instr.loadAt loadVar
  refine .bind (PureS.sureAddr x).read fun a => .bind (PureS.isAgg t).read fun b => ?_
  split
  · exact .bind (PureS.sizeOf t).read fun n => .bind (ReadS.loadCellsFrom _ _ _ _) fun _ => .pure _
  · exact .load a

theorem ReadS.forIn {γ σ : Type} (f : γ → σ → Sem (ForInStep σ)) (hf : ∀ c r, ReadS P (f c r)) : ∀ (l : List γ) (s : σ), ReadS P (forIn l s f) := by
  intro l
  induction l with
  | nil => intro s; exact .pure _
  | cons c l ih =>
    intro s
    rw [List.forIn_cons]
    refine ReadS.bind (hf c s) fun r => ?_
    cases r
    · exact .pure _
    · exact ih _
theorem ReadS.bytesToString (x : Value) : ReadS P (Conv.bytesToString x) := by
  unfold Conv.bytesToString
  split
  · exact .pure _
  · refine .bind (ReadS.loadCellsFrom _ _ _ _) fun cs => ?_
    refine .bind ?_ fun _ => .pure _
    rw [← Array.forIn_toList]
    refine ReadS.forIn _ (fun c r => ?_) _ _
    split
    · exact .pure _
    · exact (PureS.stuck _).read
  · exact (PureS.stuck _).read

/-- A number, a truth, a text. -/
def plain : Value → Bool
  | .int _ _ | .bool _ | .string _ => true
  | _ => false

theorem PureS.intCmp (op : BinOp) (a b : Int) : PureS P (Op.intCmp op a b) := by unfold Op.intCmp; split <;> first | exact .pure _ | exact .stuck _
theorem PureS.intArith (op : BinOp) (k : IntKind) (a b : Int) : PureS P (Op.intArith op k a b) := by unfold Op.intArith; split <;> first | exact .pure _ | exact .stuck _
theorem PureS.intDiv (op : BinOp) (k : IntKind) (a b : Int) : PureS P (Op.intDiv op k a b) := by
  unfold Op.intDiv
  split
  · exact .runtimePanic_plain _
  · split <;> first | exact .pure _ | exact .stuck _
theorem PureS.intBits (op : BinOp) (k : IntKind) (a b : Int) : PureS P (Op.intBits op k a b) := by unfold Op.intBits; split <;> first | exact .pure _ | exact .stuck _
theorem PureS.shift (op : BinOp) (k : IntKind) (a : Int) (j : IntKind) (b : Int) : PureS P (Op.shift op k a j b) := by
  unfold Op.shift
  split
  · exact .runtimePanic_plain _
  · split <;> first | exact .pure _ | exact .stuck _
theorem PureS.stringOp (op : BinOp) (a b : ByteArray) : PureS P (Op.stringOp op a b) := by
  unfold Op.stringOp
  split <;> first | exact .pure _ | exact .stuck _ | (split <;> first | exact .unsupported _ | exact .pure _)

theorem PureS.equalPlain (t : TypeId) (x y : Value) (hx : plain x = true) (hy : plain y = true) : PureS P (Op.equal t x y) := by
  unfold Op.equal Op.maxDepth Op.equalIn
  refine .bind (.underlying t) fun d => ?_
  cases x <;> simp [plain] at hx <;> cases y <;> simp [plain] at hy <;> cases d <;> first | exact .pure _ | exact .stuck _ | (dsimp only; split <;> first | exact .pure _ | exact .stuck _)

theorem PureS.binOpPlain (op : BinOp) (t : TypeId) (x y : Value) (hx : plain x = true) (hy : plain y = true) : PureS P (binOp op t x y) := by
  cases x <;> simp [plain] at hx <;> cases y <;> simp [plain] at hy <;> cases op <;> simp only [binOp] <;>
    first | exact .shift _ _ _ _ _ | exact .stuck _ | exact .stringOp _ _ _ | (split <;> first | exact .stuck _ | exact .intArith _ _ _ _ | exact .intDiv _ _ _ _ | exact .intBits _ _ _ _ | exact .intCmp _ _ _) | exact .bind (.equalPlain _ _ _ rfl rfl) fun _ => .pure _
theorem PureS.eqGuardPlain (op : BinOp) (t : TypeId) (x y : Operand) (a b : Value) (ha : plain a = true) : PureS P (eqGuard op t x y a b) := by
  unfold eqGuard
  refine .ite (.pure _) ?_
  cases a <;> simp [plain] at ha <;> exact .pure _

theorem PureS.min2 (x y : Value) (hx : plain x = true) (hy : plain y = true) : PureS P (Builtin.min2 x y) ∧ ∀ v w w', (Builtin.min2 x y).run P w = .ok v w' → plain v = true := by
  cases x <;> simp [plain] at hx <;> cases y <;> simp [plain] at hy <;> simp only [Builtin.min2]
  case int.int => exact ⟨.pure _, fun v w w' h => by cases h; rfl⟩
  case string.string => exact ⟨.bind (.stringOp _ _ _) fun _ => .bind (.asBool _) fun _ => .pure _, fun v w w' h => by simp [Op.stringOp, Go.asBool] at h; obtain ⟨rfl, _⟩ := h; rfl⟩
  all_goals exact ⟨.stuck _, fun v w w' h => by cases h⟩
theorem PureS.max2 (x y : Value) (hx : plain x = true) (hy : plain y = true) : PureS P (Builtin.max2 x y) ∧ ∀ v w w', (Builtin.max2 x y).run P w = .ok v w' → plain v = true := by
  cases x <;> simp [plain] at hx <;> cases y <;> simp [plain] at hy <;> simp only [Builtin.max2]
  case int.int => exact ⟨.pure _, fun v w w' h => by cases h; rfl⟩
  case string.string => exact ⟨.bind (.stringOp _ _ _) fun _ => .bind (.asBool _) fun _ => .pure _, fun v w w' h => by simp [Op.stringOp, Go.asBool] at h; obtain ⟨rfl, _⟩ := h; rfl⟩
  all_goals exact ⟨.stuck _, fun v w w' h => by cases h⟩

theorem PureS.foldPlain (g : Value → Value → Sem Value) (hg : ∀ x y, plain x = true → plain y = true → PureS P (g x y) ∧ ∀ v w w', (g x y).run P w = .ok v w' → plain v = true) :
    ∀ (l : List Value) (x : Value), plain x = true → l.all plain = true → PureS P (l.foldlM g x) := by
  intro l
  induction l with
  | nil => intro x _ _; exact .pure _
  | cons y l ih =>
    intro x hx hl
    simp only [List.all_cons, Bool.and_eq_true] at hl
    obtain ⟨h1, h2⟩ := hg x y hx hl.1
    rcases h1 with ⟨v, hv⟩ | hh
    · have := ih v (h2 v default default (hv _)) hl.2
      rcases this with ⟨u, hu⟩ | hh
      · exact .inl ⟨u, fun w => by simp only [List.foldlM_cons, Sem.run_bind, hv, Result.andThen_ok, hu]⟩
      · exact .inr fun w => by simp only [List.foldlM_cons, Sem.run_bind, hv, Result.andThen_ok]; exact hh w
    · exact .inr fun w => by
        obtain ⟨h, w', e⟩ := hh w
        exact ⟨h, w', by simp only [List.foldlM_cons, Sem.run_bind, e]; rfl⟩

/-- What must be known of an operation's operands, at the place where the walk meets it. -/
def dyn (o : Oper) (a : Act) : Bool :=
  match o.op with
  | .binOp _ _ x y _ => plain (a.eval x) && plain (a.eval y)
  | .call { callee := .builtin .min, args, .. } | .call { callee := .builtin .max, args, .. } => args.all fun x => plain (a.eval x)
  | .convert _ _ x => match a.eval x with | .int _ _ => true | .slice _ _ _ => true | .string _ => true | _ => false
  | .unOp _ _ x => plain (a.eval x)
  | .nilCheck x => match a.eval x with | .func .. => false | _ => true
  | _ => true

/-- 0: looks at no world; 1: leaves the world as it is; 2: anything. -/
def cls (P : Program) (o : Oper) : Nat :=
  match o.op with
  | .move _ | .assign _ | .pick .. | .nilCheck _ | .indexAddr .. | .slice .. | .index .. | .field .. | .extract .. | .makeInterface .. | .binOp .. | .unOp .. | .build .. => 0
  | .fieldAddr s _ f => match P.underlying s with
    | some (.struct fs) => match fs[f]? with
      | some fd => match P.info? fd.type with
        | some i => if i.size = 0 then 2 else 0
        | none => 2
      | none => 2
    | _ => 2
  | .convert src dst _ => match P.underlying src, P.underlying dst with
    | some (.int _), some (.int _) => 0
    | some (.slice e), some .string => match P.underlying e with
      | some (.int .u8) => 1
      | _ => 2
    | _, _ => 2
  | .call { callee := .builtin .min, .. } | .call { callee := .builtin .max, .. } => 0
  | .call { callee := .builtin .len, argTypes, .. } => match argTypes[0]? with
    | some t => match P.underlying t with
      | some (.slice _) | some .string | some (.array ..) => 0
      | _ => 2
    | none => 2
  | .load .. => 1
  | _ => 2

/-- dyn, where the operation's operator is one that a plain value does not settle: equality needs it; all else too. -/
theorem pure_of_cls {o : Oper} {a : Act} (hc : cls P o = 0) (hd : dyn o a = true) : PureS P (execOp a.eval o) := by
  obtain ⟨dst, op, type, pos, after, guard⟩ := o
  cases op <;> simp only [cls] at hc <;> (try (exfalso; omega)) <;> simp only [execOp]
  case move x => exact .pure _
  case assign x => exact .pure _
  case pick c x y => exact .bind (.asBool _) fun _ => .pure _
  case nilCheck x =>
    simp only [dyn] at hd
    split
    · exact .nilDeref
    · exact .nilDeref
    · exact .nilDeref
    · rename_i h; rw [h] at hd; cases hd
    · exact .pure _
  case binOp op t x y yt =>
    simp only [dyn, Bool.and_eq_true] at hd
    exact .bind (.bind (.eqGuardPlain _ _ _ _ _ _ hd.1) fun _ => .binOpPlain _ _ _ _ hd.1 hd.2) fun _ => .pure _
  case unOp op t x =>
    simp only [dyn] at hd
    refine .bind ?_ fun _ => .pure _
    generalize a.eval x = v at hd
    cases v <;> simp [plain] at hd <;> cases op <;> simp only [Op.unary] <;> first | exact .pure _ | exact .stuck _
  case convert src dst x =>
    simp only [dyn] at hd
    refine .bind ?_ fun _ => .pure _
    generalize a.eval x = v at hd
    split at hc
    · rename_i k0 k hs hk
      cases v <;> simp at hd
      · rename_i kk n
        unfold convert
        refine .bind (.underlying _) fun d1 => .congr (t := Conv.intToInt k n) (fun w => ?_) (by unfold Conv.intToInt; exact .pure _)
        simp only [Sem.run_bind, run_underlying hk, Result.andThen_ok]
      all_goals
        refine .inr fun w => ?_
        unfold convert
        simp only [Sem.run_bind, run_underlying hs, run_underlying hk, Result.andThen_ok]
        exact ⟨_, _, rfl⟩
    · split at hc <;> omega
    · omega
  case fieldAddr s x f =>
    refine .bind ?_ fun _ => .pure _
    split at hc
    · rename_i fs hs
      split at hc
      · rename_i fd hf
        split at hc
        · rename_i i hi
          split at hc
          · omega
          · rename_i hz; exact .fieldAt s _ f fs fd i hs hf hi hz
        · omega
      · omega
    · omega
  case indexAddr t x i => exact .bind (.indexAt _ _ _) fun _ => .pure _
  case build t parts => exact .bind (.build _ _) fun _ => .pure _
  case slice t x lo hi mx => exact .bind (.sliceAt _ _ _ _ _) fun _ => .pure _
  case index t x i => exact .bind (.index _ _ _) fun _ => .pure _
  case field t x f => exact .bind (.field _ _ _) fun _ => .pure _
  case extract x i => exact .bind (.extract _ _) fun _ => .pure _
  case makeInterface t x => exact .bind (.makeInterface _ _) fun _ => .pure _
  case call c =>
    obtain ⟨callee, args, argTypes⟩ := c
    cases callee with
    | value f => cases hc
    | invoke r m => cases hc
    | builtin b =>
    cases b <;> (try (cases hc; done))
    case min =>
      simp only [dyn] at hd
      refine .congr (t := (do pure (.value (← Builtin.min_ argTypes type (args.map a.eval))) : Sem Next)) (fun w => by simp [resolve, invoke, builtin]) (.bind ?_ fun _ => .pure _)
      unfold Builtin.min_
      split
      · exact .stuck _
      · rename_i x l hl
        have hall : ∀ y ∈ (args.map a.eval).toList, plain y = true := by
          intro y hy
          simp only [Array.toList_map, List.mem_map] at hy
          obtain ⟨z, hz, rfl⟩ := hy
          exact Array.all_eq_true_iff_forall_mem.1 hd z (by simpa using hz)
        rw [hl] at hall
        exact .foldPlain _ (fun x y hx hy => PureS.min2 x y hx hy) l x (hall x (by simp)) (List.all_eq_true.2 fun y hy => hall y (by simp [hy]))
    case max =>
      simp only [dyn] at hd
      refine .congr (t := (do pure (.value (← Builtin.max_ argTypes type (args.map a.eval))) : Sem Next)) (fun w => by simp [resolve, invoke, builtin]) (.bind ?_ fun _ => .pure _)
      unfold Builtin.max_
      split
      · exact .stuck _
      · rename_i x l hl
        have hall : ∀ y ∈ (args.map a.eval).toList, plain y = true := by
          intro y hy
          simp only [Array.toList_map, List.mem_map] at hy
          obtain ⟨z, hz, rfl⟩ := hy
          exact Array.all_eq_true_iff_forall_mem.1 hd z (by simpa using hz)
        rw [hl] at hall
        exact .foldPlain _ (fun x y hx hy => PureS.max2 x y hx hy) l x (hall x (by simp)) (List.all_eq_true.2 fun y hy => hall y (by simp [hy]))
    case len =>
      refine .congr (t := (do pure (.value (← Builtin.len_ argTypes type (args.map a.eval))) : Sem Next)) (fun w => by simp [resolve, invoke, builtin]) (.bind ?_ fun _ => .pure _)
      unfold Builtin.len_
      split
      · rename_i pr t x hx
        dsimp only at hc
        split at hc
        · rename_i t' ht'
          have : t = t' := by
            have h1 : argTypes[0]? = some t := (Prod.mk.inj hx).1
            rw [h1] at ht'; exact Option.some.inj ht'
          subst this
          split at hc
          · rename_i e he
            refine .congr (t := match x with | .slice _ n _ => (Pure.pure (goInt n) : Sem Value) | _ => Go.stuck "len: string, array, pointer to array, slice, map or channel expected") (fun w => ?_) (by split <;> first | exact .pure _ | exact .stuck _)
            simp only [Sem.run_bind, run_underlying he, Result.andThen_ok]
            cases x <;> rfl
          · rename_i he
            refine .congr (t := match x with | .string s => (Pure.pure (goInt s.size) : Sem Value) | _ => Go.stuck "len: string, array, pointer to array, slice, map or channel expected") (fun w => ?_) (by split <;> first | exact .pure _ | exact .stuck _)
            simp only [Sem.run_bind, run_underlying he, Result.andThen_ok]
            cases x <;> rfl
          · rename_i n e he
            refine .congr (t := (Pure.pure (goInt n) : Sem Value)) (fun w => ?_) (.pure _)
            simp only [Sem.run_bind, run_underlying he, Result.andThen_ok]
          · omega
        · omega
      · exact .stuck _

theorem read_of_cls {o : Oper} {a : Act} (hc : cls P o = 1) : ReadS P (execOp a.eval o) := by
  obtain ⟨dst, op, type, pos, after, guard⟩ := o
  cases op <;> simp only [cls] at hc <;> (try (exfalso; omega)) <;> simp only [execOp]
  case load t x => exact .bind (.loadAt _ _) fun _ => .pure _
  case convert src dst x =>
    refine .bind ?_ fun _ => .pure _
    generalize a.eval x = v
    split at hc
    · omega
    · rename_i e hs hd
      split at hc
      · rename_i he
        unfold convert
        intro w
        simp only [Sem.run_bind, run_underlying hs, run_underlying hd, Result.andThen_ok]
        cases v <;> first | exact ReadS.pure _ w | (simp only [run_underlying he, Sem.run_bind, Result.andThen_ok]; exact ReadS.bytesToString _ w)
      · omega
    · omega
  case call c =>
    obtain ⟨callee, args, argTypes⟩ := c
    cases callee with
    | value f => cases hc
    | invoke r m => cases hc
    | builtin b => exfalso; cases b <;> (try (cases hc; done)); dsimp only at hc; revert hc; (repeat' split) <;> simp
  all_goals (exfalso; revert hc; (repeat' split) <;> simp)

/-- The walk in the order of the text, with what must be known of the operands. -/
def wpTxt (P : Program) (ops : Array Oper) (Q : Exit → Act → World → Prop) : List Oper → Act → World → Prop
  | [], a, w => Q .normal a w
  | o :: rest, a, w =>
    if Region.wanted o (yielded ops a.tmps) then dyn o a = true ∧ o.wp P a w (wpTxt P ops Q rest) Q else wpTxt P ops Q rest (a.put o.dst undef) w

section
variable {ops : Array Oper} {Q : Exit → Act → World → Prop} {a : Act} {w : World} {rest : List Oper} {o : Oper}
theorem wpTxt_nil (h : Q .normal a w) : wpTxt P ops Q [] a w := h
theorem wpTxt_mono_K (hw : Region.wanted o (yielded ops a.tmps) = true) (hd : dyn o a = true)
    (h : ∀ K : Act → World → Prop, (∀ a w, wpTxt P ops Q rest a w → K a w) → o.wp P a w K Q) : wpTxt P ops Q (o :: rest) a w := by
  unfold wpTxt
  rw [if_pos hw]
  exact ⟨hd, h _ fun _ _ h => h⟩
theorem wpTxt_plain (hg : o.guard = none) (hd : dyn o a = true)
    (h : ∀ K : Act → World → Prop, (∀ a w, wpTxt P ops Q rest a w → K a w) → o.wp P a w K Q) : wpTxt P ops Q (o :: rest) a w :=
  wpTxt_mono_K (by simp [Region.wanted, hg]) hd h
theorem wpTxt_skip (hw : Region.wanted o (yielded ops a.tmps) = false) (h : wpTxt P ops Q rest (a.put o.dst undef) w) : wpTxt P ops Q (o :: rest) a w := by
  unfold wpTxt
  rw [if_neg (by simp [hw])]
  exact h
end

section
variable {ops : Array Oper} {Q : Exit → Act → World → Prop} {a : Act} {w : World} {rest : List Oper} {o : Oper}
theorem yielded_of {j d : Nat} (hd : (ops.getD j default).dst = some d) {b : Bool} (hv : a.tmps.getD d undef = .bool b) : yielded ops a.tmps j = some b := by
  have h1 : (ops[j]?).bind (·.dst) = some d := by
    rw [Array.getD_eq_getD_getElem?] at hd
    cases h : ops[j]? with
    | none => rw [h] at hd; cases hd
    | some o => rw [h] at hd; exact hd
  have h2 : a.tmps[d]? = some (.bool b) := by
    rw [Array.getD_eq_getD_getElem?] at hv
    cases h : a.tmps[d]? with
    | none => rw [h] at hv; cases hv
    | some o => rw [h] at hv; exact congrArg some hv
  simp [yielded, h1, h2]
/-- What an operation's guard says. -/
def guardSays (ops : Array Oper) (o : Oper) (a : Act) : Option Bool :=
  match o.guard with
  | none => none
  | some (j, want) => match (ops.getD j default).dst with
    | none => none
    | some d => match a.tmps.getD d undef with
      | .bool b => some (b == want)
      | _ => none
theorem wanted_of_says {r : Bool} (h : guardSays ops o a = some r) : Region.wanted o (yielded ops a.tmps) = r := by
  unfold guardSays at h
  split at h
  · cases h
  · rename_i j want hg
    split at h
    · cases h
    · rename_i d hd
      split at h
      · rename_i b hv
        cases h
        simp [Region.wanted, hg, yielded_of hd hv]
      · cases h
/-- An operation whose guard says no. -/
theorem wpTxt_skipG (hv : guardSays ops o a = some false) (h : wpTxt P ops Q rest (a.put o.dst undef) w) : wpTxt P ops Q (o :: rest) a w :=
  wpTxt_skip (wanted_of_says hv) h
/-- An operation whose guard says yes. -/
theorem wpTxt_runG (hv : guardSays ops o a = some true) (hdy : dyn o a = true)
    (h : ∀ K : Act → World → Prop, (∀ a w, wpTxt P ops Q rest a w → K a w) → o.wp P a w K Q) : wpTxt P ops Q (o :: rest) a w :=
  wpTxt_mono_K (wanted_of_says hv) hdy h
end

/-- One operation, by its number, with a strict exit. -/
def tOp (P : Program) (ops : Array Oper) (Q : Exit → Act → World → Prop) (i : Nat) (K : Act → World → Prop) (a : Act) (w : World) : Prop :=
  match ops[i]? with
  | none => K a w
  | some o => if Region.wanted o (yielded ops a.tmps) then dyn o a = true ∧ o.wp P a w K Q else K (a.put o.dst undef) w
def tOps (P : Program) (ops : Array Oper) (Q : Exit → Act → World → Prop) : List Nat → Act → World → Prop
  | [] => Q .normal
  | i :: l => tOp P ops Q i (tOps P ops Q l)

def Strict (Q : Exit → Act → World → Prop) : Prop := ∀ e a w, Q e a w → e = .normal

section
variable {ops : Array Oper} {Q : Exit → Act → World → Prop}

theorem tOp_mono {i : Nat} {a : Act} {w : World} {K K' : Act → World → Prop} (h : ∀ a w, K a w → K' a w) (hh : tOp P ops Q i K a w) : tOp P ops Q i K' a w := by
  unfold tOp at *
  split
  · exact h _ _ (by simpa [*] using hh)
  · rename_i o ho
    simp only [ho] at hh
    split
    · rename_i hw; simp only [hw, if_true] at hh; exact ⟨hh.1, Oper.wp_mono h hh.2⟩
    · rename_i hw; simp only [hw] at hh; exact h _ _ hh

theorem wpOp_of_tOp {i : Nat} {a : Act} {w : World} {K : Act → World → Prop} (hh : tOp P ops Q i K a w) : wpOp P ops Q i K a w := by
  unfold tOp at hh
  unfold wpOp
  split
  · simpa [*] using hh
  · rename_i o ho
    simp only [ho] at hh
    split
    · rename_i hw; simp only [hw, if_true] at hh; exact .inl hh.2
    · rename_i hw; simp only [hw] at hh; exact hh

/-- dyn hangs on the operands alone. -/
theorem dyn_congr (o : Oper) (a a' : Act) (h : ∀ x ∈ o.op.operands, a'.eval x = a.eval x) : dyn o a' = dyn o a := by
  obtain ⟨dst, op, type, pos, after, guard⟩ := o
  cases op <;> simp only [Op.operands] at h <;> simp only [dyn]
  case binOp op t x y yt => rw [h x (by simp), h y (by simp)]
  case convert s d x => rw [h x (by simp)]
  case unOp op t x => rw [h x (by simp)]
  case nilCheck x => rw [h x (by simp)]
  case call c =>
    obtain ⟨callee, args, argTypes⟩ := c
    have hargs : ∀ x ∈ args, a'.eval x = a.eval x := fun x hx => h x (by simp [Call.operands, hx])
    have key : (args.all fun x => plain (a'.eval x)) = (args.all fun x => plain (a.eval x)) := by
      rw [Bool.eq_iff_iff, Array.all_eq_true_iff_forall_mem, Array.all_eq_true_iff_forall_mem]
      exact ⟨fun hh x hx => by rw [← hargs x hx]; exact hh x hx, fun hh x hx => by rw [hargs x hx]; exact hh x hx⟩
    cases callee with
    | value f => rfl
    | invoke r m => rfl
    | builtin b => cases b <;> first | exact key | rfl

theorem eval_apart {o : Oper} {a : Act} {dst : Option Tmp} {u : Value} (h : ∀ d, dst = some d → d ∉ o.looksAt ops) : ∀ x ∈ o.op.operands, (a.put dst u).eval x = a.eval x :=
  fun x hx => Act.eval_put fun d hd hxd => h d hd (by
    subst hxd
    exact List.mem_append_left _ (List.mem_filterMap.2 ⟨.tmp d, by simpa using hx, rfl⟩))

/-- The act behind an operation: its slot written, perhaps a call deferred. -/
def After (o : Oper) (a a' : Act) : Prop := ∃ u ds, a' = ({ a with defers := ds } : Act).put o.dst u

theorem wp_after {o : Oper} {a : Act} {w : World} {K : Act → World → Prop} (h : o.wp P a w K Q) : o.wp P a w (fun a' w' => K a' w' ∧ After o a a') Q := by
  unfold Oper.wp at *
  generalize (execOp a.eval o).run P w = r at *
  cases r with
  | ok n w' =>
    cases n <;> simp only [Oper.upon] at h ⊢
    case value v => exact ⟨h, v, a.defers, rfl⟩
    case skip => exact ⟨h, undef, a.defers, rfl⟩
    case defer d => exact ⟨h, undef, _, rfl⟩
    case enter f args => exact Calls.mono h fun e w'' he => by cases e <;> first | exact ⟨he, _, a.defers, rfl⟩ | exact he
    case row row args => exact Rows.mono h fun v w'' he => ⟨he, v, a.defers, rfl⟩
  | halt x w' => cases x <;> simp only [Oper.upon] at h ⊢ <;> exact h

theorem tOp_after {i : Nat} {o : Oper} {a : Act} {w : World} {K : Act → World → Prop} (ho : ops[i]? = some o) (h : tOp P ops Q i K a w) : tOp P ops Q i (fun a' w' => K a' w' ∧ After o a a') a w := by
  unfold tOp at *
  simp only [ho] at *
  split
  · rename_i hw; simp only [hw, if_true] at h; exact ⟨h.1, wp_after h.2⟩
  · rename_i hw; simp only [hw] at h; exact ⟨h, undef, a.defers, rfl⟩

/-- What is met behind an operation is met somewhere. -/
theorem wp_reach {o : Oper} {a : Act} {w : World} {K : Act → World → Prop} (hs : Strict Q) (h : o.wp P a w K Q) : ∃ a' w', K a' w' := by
  unfold Oper.wp at *
  generalize (execOp a.eval o).run P w = r at *
  cases r with
  | ok n w' =>
    cases n <;> simp only [Oper.upon] at h
    case value v => exact ⟨_, _, h⟩
    case skip => exact ⟨_, _, h⟩
    case defer d => exact ⟨_, _, h⟩
    case enter f args =>
      obtain ⟨e, w'', fr, he, _⟩ := h []
      cases e with
      | returned v => exact ⟨_, _, he⟩
      | panicked c => exact absurd (hs _ _ _ he) (by simp)
      | outgrown => obtain ⟨a, w, hq⟩ := he; exact absurd (hs _ _ _ hq) (by simp)
    case row row args =>
      obtain ⟨v, w'', he, _⟩ := h default []
      exact ⟨_, _, he⟩
  | halt x w' => cases x <;> simp only [Oper.upon] at h; exact absurd (hs _ _ _ h) (by simp)
theorem tOp_reach {i : Nat} {a : Act} {w : World} {K : Act → World → Prop} (hs : Strict Q) (h : tOp P ops Q i K a w) : ∃ a' w', K a' w' := by
  unfold tOp at h
  split at h
  · exact ⟨_, _, h⟩
  · split at h
    · exact wp_reach hs h.2
    · exact ⟨_, _, h⟩

theorem value_fin {s : Sem Value} {n : Next} {w w' : World} (hh : (do pure (.value (← s)) : Sem Next).run P w = .ok n w') : ∃ v, n = .value v := by
  rw [Sem.run_bind] at hh
  cases hs : s.run P w with
  | ok v w1 => rw [hs] at hh; cases hh; exact ⟨v, rfl⟩
  | halt x w1 => rw [hs] at hh; cases hh

theorem value_of_pure {o : Oper} {a : Act} {n : Next} {w w' : World} (hc : cls P o = 0) (hd : dyn o a = true) (h : (execOp a.eval o).run P w = .ok n w') : ∃ v, n = .value v := by
  obtain ⟨dst, op, type, pos, after, guard⟩ := o
  cases op <;> simp only [cls] at hc <;> (try (exfalso; omega)) <;> simp only [execOp] at h
  case move x => cases h; exact ⟨_, rfl⟩
  case assign x => cases h; exact ⟨_, rfl⟩
  case pick c x y =>
    rw [Sem.run_bind] at h
    cases e : (asBool (a.eval c)).run P w with
    | ok v w1 => rw [e] at h; cases h; exact ⟨_, rfl⟩
    | halt x w1 => rw [e] at h; cases h
  case nilCheck x =>
    simp only [dyn] at hd
    split at h
    · simp [runtimePanic, goPanic, program, Sem.run] at h
    · simp [runtimePanic, goPanic, program, Sem.run] at h
    · simp [runtimePanic, goPanic, program, Sem.run] at h
    · rename_i e; rw [e] at hd; cases hd
    · cases h; exact ⟨_, rfl⟩
  case call c =>
    obtain ⟨callee, args, argTypes⟩ := c
    cases callee with
    | value f => cases hc
    | invoke r m => cases hc
    | builtin b =>
      cases b <;> (try (cases hc; done))
      all_goals
        simp only [resolve, invoke, builtin, Sem.run_bind, Sem.run_pure, Result.andThen_ok] at h
        exact value_fin (by rw [Sem.run_bind]; exact h)
  all_goals exact value_fin h

theorem value_of_read {o : Oper} {a : Act} {n : Next} {w w' : World} (hc : cls P o = 1) (h : (execOp a.eval o).run P w = .ok n w') : ∃ v, n = .value v := by
  obtain ⟨dst, op, type, pos, after, guard⟩ := o
  cases op <;> simp only [cls] at hc <;> (try (exfalso; omega)) <;> simp only [execOp] at h
  case load t x => exact value_fin h
  case convert src dst x => exact value_fin h
  case call c =>
    obtain ⟨callee, args, argTypes⟩ := c
    cases callee with
    | value f => cases hc
    | invoke r m => cases hc
    | builtin b => exfalso; cases b <;> (try (cases hc; done)); dsimp only at hc; revert hc; (repeat' split) <;> simp
  all_goals (exfalso; revert hc; (repeat' split) <;> simp)

theorem wp_pure {o : Oper} {a : Act} {w : World} {K : Act → World → Prop} (hs : Strict Q) (hc : cls P o = 0) (hd : dyn o a = true) (h : o.wp P a w K Q) :
    ∃ v, (∀ w, (execOp a.eval o).run P w = .ok (.value v) w) ∧ K (a.put o.dst v) w := by
  rcases pure_of_cls hc hd with ⟨n, hn⟩ | hh
  · obtain ⟨v, rfl⟩ := value_of_pure hc hd (hn w)
    unfold Oper.wp at h
    rw [hn w] at h
    exact ⟨v, hn, h⟩
  · obtain ⟨x, w', e⟩ := hh w
    unfold Oper.wp at h
    rw [e] at h
    cases x <;> simp only [Oper.upon] at h
    exact absurd (hs _ _ _ h) (by simp)

theorem wp_read {o : Oper} {a : Act} {w : World} {K : Act → World → Prop} (hs : Strict Q) (hc : cls P o = 1) (h : o.wp P a w K Q) :
    ∃ v, (execOp a.eval o).run P w = .ok (.value v) w ∧ K (a.put o.dst v) w := by
  rcases read_of_cls (a := a) hc w with ⟨n, hn⟩ | ⟨x, w', e⟩
  · obtain ⟨v, rfl⟩ := value_of_read hc hn
    unfold Oper.wp at h
    rw [hn] at h
    exact ⟨v, hn, h⟩
  · unfold Oper.wp at h
    rw [e] at h
    cases x <;> simp only [Oper.upon] at h
    exact absurd (hs _ _ _ h) (by simp)

/-- An operation moved ahead of one whose slot it does not look at. -/
theorem wp_unput {o : Oper} {dst : Option Tmp} {v : Value} (hsel : ∀ cs b, o.op ≠ .select cs b) (h1 : ∀ d, dst = some d → d ∉ o.looksAt ops) (h2 : ∀ d, dst = some d → o.dst ≠ some d)
    {K : Act → World → Prop} {a : Act} {w : World} (hs : Strict Q) (h : o.wp P a w (fun a' w' => K (a'.put dst v) w') Q) : o.wp P (a.put dst v) w K Q := by
  unfold Oper.wp at *
  rw [execOp_put o hsel a dst v h1]
  generalize (execOp a.eval o).run P w = r at *
  cases r with
  | ok n w' =>
    cases n <;> simp only [Oper.upon] at h ⊢
    case value u => rw [Act.put_comm a v u h2]; exact h
    case skip => rw [Act.put_comm a v undef h2]; exact h
    case defer d => rw [Act.put_defers, Act.put_comm _ v undef h2]; exact h
    case enter f args =>
      refine Calls.mono h fun e w'' he => ?_
      cases e with
      | returned u => show K ((a.put dst v).put o.dst u) w''; rw [Act.put_comm a v u h2]; exact he
      | panicked c => exact absurd (hs _ _ _ he) (by simp)
      | outgrown => exact he
    case row r args => exact Rows.mono h fun u w'' he => by rw [Act.put_comm a v u h2]; exact he
  | halt x w' =>
    cases x <;> simp only [Oper.upon] at h ⊢
    exact absurd (hs _ _ _ h) (by simp)
theorem wp_put {o : Oper} {dst : Option Tmp} {v : Value} (hsel : ∀ cs b, o.op ≠ .select cs b) (h1 : ∀ d, dst = some d → d ∉ o.looksAt ops) (h2 : ∀ d, dst = some d → o.dst ≠ some d)
    {K : Act → World → Prop} {a : Act} {w : World} (hs : Strict Q) (h : o.wp P (a.put dst v) w K Q) : o.wp P a w (fun a' w' => K (a'.put dst v) w') Q := by
  unfold Oper.wp at *
  rw [execOp_put o hsel a dst v h1] at h
  generalize (execOp a.eval o).run P w = r at *
  cases r with
  | ok n w' =>
    cases n <;> simp only [Oper.upon] at h ⊢
    case value u => rw [← Act.put_comm a v u h2]; exact h
    case skip => rw [← Act.put_comm a v undef h2]; exact h
    case defer d => rw [Act.put_defers] at h; rw [← Act.put_comm _ v undef h2]; exact h
    case enter f args =>
      refine Calls.mono h fun e w'' he => ?_
      cases e with
      | returned u => show K ((a.put o.dst u).put dst v) w''; rw [← Act.put_comm a v u h2]; exact he
      | panicked c => exact absurd (hs _ _ _ he) (by simp)
      | outgrown => exact he
    case row r args => exact Rows.mono h fun u w'' he => by rw [← Act.put_comm a v u h2]; exact he
  | halt x w' =>
    cases x <;> simp only [Oper.upon] at h ⊢
    exact absurd (hs _ _ _ h) (by simp)

theorem tOp_some {i : Nat} {o : Oper} (ho : ops[i]? = some o) (K : Act → World → Prop) (a : Act) (w : World) :
    tOp P ops Q i K a w = if Region.wanted o (yielded ops a.tmps) then dyn o a = true ∧ o.wp P a w K Q else K (a.put o.dst undef) w := by simp only [tOp, ho]

/-- May the two be walked in either order? -/
def commB (P : Program) (ops : Array Oper) (x y : Oper) : Bool := x.apart ops y && (cls P x == 0 || cls P y == 0 || (cls P x == 1 && cls P y == 1))

theorem comm {i j : Nat} {x y : Oper} (hs : Strict Q) (hi : ops[i]? = some x) (hj : ops[j]? = some y) (hx : ∀ cs b, x.op ≠ .select cs b) (hy : ∀ cs b, y.op ≠ .select cs b)
    (hc : commB P ops x y = true) {K : Act → World → Prop} {a : Act} {w : World} (h : tOp P ops Q i (tOp P ops Q j K) a w) : tOp P ops Q j (tOp P ops Q i K) a w := by
  simp only [commB, Bool.and_eq_true, Bool.or_eq_true, beq_iff_eq] at hc
  obtain ⟨hap, hc⟩ := hc
  obtain ⟨h1, h2, h3⟩ := Oper.apart_spec hap
  have h2' : ∀ d, y.dst = some d → x.dst ≠ some d := fun d hd he => h2 d he hd
  have wx : ∀ (a : Act) u, Region.wanted x (yielded ops (a.put y.dst u).tmps) = Region.wanted x (yielded ops a.tmps) := fun a u => wanted_put x a y.dst u h3
  have wy : ∀ (a : Act) u, Region.wanted y (yielded ops (a.put x.dst u).tmps) = Region.wanted y (yielded ops a.tmps) := fun a u => wanted_put y a x.dst u h1
  have dx : ∀ (a : Act) u, dyn x (a.put y.dst u) = dyn x a := fun a u => dyn_congr x _ _ (eval_apart h3)
  have dy : ∀ (a : Act) u, dyn y (a.put x.dst u) = dyn y a := fun a u => dyn_congr y _ _ (eval_apart h1)
  have ex : ∀ (a : Act) u, execOp (a.put y.dst u).eval x = execOp a.eval x := fun a u => execOp_put x hx a y.dst u h3
  have ey : ∀ (a : Act) u, execOp (a.put x.dst u).eval y = execOp a.eval y := fun a u => execOp_put y hy a x.dst u h1
  by_cases hwx : Region.wanted x (yielded ops a.tmps) = true
  case neg =>
    rw [tOp_some hi, if_neg hwx, tOp_some hj, wy, dy] at h
    rw [tOp_some hj]
    split
    · rename_i hwy
      rw [if_pos hwy] at h
      refine ⟨h.1, ?_⟩
      refine Oper.wp_mono ?_ (wp_after (wp_put hy h1 h2 hs h.2))
      rintro a' w' ⟨hk, u, ds, rfl⟩
      have hn : ¬ Region.wanted x (yielded ops (({ a with defers := ds } : Act).put y.dst u).tmps) = true := by rw [wx]; exact hwx
      rw [tOp_some hi, if_neg hn]; exact hk
    · rename_i hwy
      rw [if_neg hwy] at h
      have hn : ¬ Region.wanted x (yielded ops (a.put y.dst undef).tmps) = true := by rw [wx]; exact hwx
      rw [tOp_some hi, if_neg hn, ← Act.put_comm a undef undef h2]; exact h
  by_cases hwy : Region.wanted y (yielded ops a.tmps) = true
  case neg =>
    rw [tOp_some hi, if_pos hwx] at h
    rw [tOp_some hj, if_neg hwy, tOp_some hi, wx, dx, if_pos hwx]
    refine ⟨h.1, wp_unput hx h3 h2' hs (Oper.wp_mono ?_ (wp_after h.2))⟩
    rintro a' w' ⟨hk, u, ds, rfl⟩
    have hn : ¬ Region.wanted y (yielded ops (({ a with defers := ds } : Act).put x.dst u).tmps) = true := by rw [wy]; exact hwy
    rw [tOp_some hj, if_neg hn] at hk
    exact hk
  rw [tOp_some hi, if_pos hwx] at h
  obtain ⟨hdx, hX⟩ := h
  have hin : x.wp P a w (fun a' w' => (dyn y a' = true ∧ y.wp P a' w' K Q) ∧ After x a a') Q := by
    refine Oper.wp_mono ?_ (wp_after hX)
    rintro a' w' ⟨hk, u, ds, rfl⟩
    have hn : Region.wanted y (yielded ops (({ a with defers := ds } : Act).put x.dst u).tmps) = true := by rw [wy]; exact hwy
    rw [tOp_some hj, if_pos hn] at hk
    exact ⟨hk, u, ds, rfl⟩
  have hdy : dyn y a = true := by
    obtain ⟨a', w', ⟨hk, _⟩, u, ds, rfl⟩ := wp_reach hs hin
    rw [dy] at hk
    exact (dyn_congr y a _ (fun _ _ => rfl)).symm.trans hk |> fun e => by simpa using e
  rw [tOp_some hj, if_pos hwy]
  refine ⟨hdy, ?_⟩
  have goal : ∀ (a' : Act) (w' : World), After y a a' → x.wp P a' w' K Q → tOp P ops Q i K a' w' := by
    rintro a' w' ⟨u, ds, rfl⟩ hk
    have hn : Region.wanted x (yielded ops (({ a with defers := ds } : Act).put y.dst u).tmps) = true := by rw [wx]; exact hwx
    rw [tOp_some hi, if_pos hn, dx]
    exact ⟨(dyn_congr x a _ (fun _ _ => rfl)).trans hdx, hk⟩
  rcases hc with (hc | hc) | hc
  · -- x looks at no world
    obtain ⟨v, hv, hk⟩ := wp_pure hs hc hdx hin
    have := wp_put hy h1 h2 hs hk.1.2
    refine Oper.wp_mono ?_ (wp_after this)
    rintro a' w' ⟨hk', ha'⟩
    refine goal a' w' ha' ?_
    obtain ⟨u, ds, rfl⟩ := ha'
    unfold Oper.wp
    rw [ex]
    have e0 : (execOp ({ a with defers := ds } : Act).eval x).run P w' = .ok (.value v) w' := hv w'
    rw [e0]
    exact hk'
  · -- y looks at no world
    obtain ⟨a1, w1, ⟨hk1, u1, ds1, rfl⟩⟩ := wp_reach hs hin
    obtain ⟨v, hv, _⟩ := wp_pure hs hc hk1.1 hk1.2
    have hv' : ∀ w, (execOp a.eval y).run P w = .ok (.value v) w := by
      intro w
      have := hv w
      rw [ey] at this
      exact this
    unfold Oper.wp
    rw [hv' w]
    refine goal _ _ ⟨v, a.defers, rfl⟩ (wp_unput hx h3 h2' hs (Oper.wp_mono ?_ hin))
    rintro a' w' ⟨⟨hd', hk'⟩, u, ds, rfl⟩
    unfold Oper.wp at hk'
    rw [ey] at hk'
    have e0 : (execOp ({ a with defers := ds } : Act).eval y).run P w' = .ok (.value v) w' := hv' w'
    rw [e0] at hk'
    exact hk'
  · -- both read
    obtain ⟨v, hv, ⟨hd', hk⟩, _⟩ := wp_read hs hc.1 hin
    obtain ⟨u, hu, hk⟩ := wp_read hs hc.2 hk
    rw [ey] at hu
    unfold Oper.wp
    rw [hu]
    refine goal _ _ ⟨u, a.defers, rfl⟩ ?_
    unfold Oper.wp
    rw [ex, hv]
    show K ((a.put y.dst u).put x.dst v) w
    rw [← Act.put_comm a v u h2]
    exact hk

theorem tOps_move (hs : Strict Q) {j : Nat} {y : Oper} (hj : ops[j]? = some y) (hsel : ∀ (j : Nat) (o : Oper) cs b, ops[j]? = some o → o.op ≠ .select cs b) (l2 : List Nat) :
    ∀ (l1 : List Nat), (∀ i ∈ l1, ∀ x, ops[i]? = some x → commB P ops x y = true) → ∀ a w, tOps P ops Q (l1 ++ j :: l2) a w → tOps P ops Q (j :: (l1 ++ l2)) a w := by
  intro l1
  induction l1 with
  | nil => intro _ a w h; exact h
  | cons i l1 ih =>
    intro hc a w h
    have h1 : tOp P ops Q i (tOps P ops Q (j :: (l1 ++ l2))) a w := tOp_mono (fun a w hh => ih (fun k hk => hc k (by simp [hk])) a w hh) h
    cases hi : ops[i]? with
    | none =>
      have h2 : tOps P ops Q (j :: (l1 ++ l2)) a w := by unfold tOp at h1; simpa only [hi] using h1
      refine tOp_mono (fun a w hh => ?_) (show tOp P ops Q j (tOps P ops Q (l1 ++ l2)) a w from h2)
      show tOp P ops Q i (tOps P ops Q (l1 ++ l2)) a w
      unfold tOp; simpa only [hi] using hh
    | some x => exact comm hs hi hj (fun cs b => hsel i x cs b hi) (fun cs b => hsel j y cs b hj) (hc i (by simp) x hi) h1

def Closed (ops : Array Oper) (listed : Array Bool) : Prop := ∀ k o, ops[k]? = some o → listed.getD k false = true → ∀ e ∈ o.after, Region.binds .any e = true → listed.getD e.on false = true
def Needs (ops : Array Oper) (j i : Nat) : Prop := ∀ listed, Closed ops listed → (∀ o, ops[j]? = some o → ∀ e ∈ o.after, Region.binds .any e = true → listed.getD e.on false = true) → listed.getD i false = true

def mask (acc : List Nat) (s : Nat) : List Edge → Nat
  | [] => s
  | e :: es => mask acc (if Region.binds .any e then s ||| 2 ^ e.on ||| acc.getD e.on 0 else s) es
def anc : List Oper → List Nat → List Nat
  | [], acc => acc
  | o :: rest, acc => anc rest (acc ++ [mask acc 0 o.after.toList])

theorem mask_bit (acc : List Nat) : ∀ (es : List Edge) (s i : Nat), (mask acc s es).testBit i = true → s.testBit i = true ∨ ∃ e ∈ es, Region.binds .any e = true ∧ (i = e.on ∨ (acc.getD e.on 0).testBit i = true) := by
  intro es
  induction es with
  | nil => intro s i h; exact .inl h
  | cons e es ih =>
    intro s i h
    rcases ih _ i h with h | ⟨e', he, h⟩
    · by_cases hb : Region.binds .any e = true
      · rw [if_pos hb] at h
        simp only [Nat.testBit_or, Bool.or_eq_true, Nat.testBit_two_pow, decide_eq_true_eq] at h
        rcases h with (h | h) | h
        · exact .inl h
        · exact .inr ⟨e, by simp, hb, .inl h.symm⟩
        · exact .inr ⟨e, by simp, hb, .inr h⟩
      · rw [if_neg hb] at h; exact .inl h
    · exact .inr ⟨e', by simp [he], h⟩

theorem anc_ok : ∀ (l pre : List Oper) (acc : List Nat), ops.toList = pre ++ l → acc.length = pre.length → (∀ j i, (acc.getD j 0).testBit i = true → Needs ops j i) →
    ∀ j i, ((anc l acc).getD j 0).testBit i = true → Needs ops j i := by
  intro l
  induction l with
  | nil => intro pre acc _ _ h; exact h
  | cons o l ih =>
    intro pre acc ho hlen h
    refine ih (pre ++ [o]) _ (by simp [ho]) (by simp [hlen]) ?_
    intro j i hb
    by_cases hj : j < acc.length
    · rw [List.getD_eq_getElem?_getD, List.getElem?_append_left hj, ← List.getD_eq_getElem?_getD] at hb
      exact h j i hb
    · by_cases hj' : j = acc.length
      · subst hj'
        simp only [List.getD_eq_getElem?_getD, List.getElem?_concat_length, Option.getD_some] at hb
        rcases mask_bit acc _ _ _ hb with h0 | ⟨e, he, hbd, h1⟩
        · simp at h0
        · have hoj : ops[acc.length]? = some o := by
            rw [← Array.getElem?_toList, ho, hlen]; simp
          intro listed hcl hpre
          have hl := hpre o hoj e (by simpa using he) hbd
          rcases h1 with rfl | h1
          · exact hl
          · exact h e.on i h1 listed hcl fun o' ho' e' he' hb' => hcl e.on o' ho' hl e' he' hb'
      · rw [List.getD_eq_getElem?_getD, List.getElem?_eq_none (by simp; omega)] at hb
        simp at hb

/-- Every two operations are ordered by the edges, or may be walked in either order. -/
def okB (P : Program) (ops : Array Oper) : Bool :=
  Region.noSelect ops &&
  (ops.toList.zipIdx.all fun (o, i) => o.after.all fun e => !Region.binds .any e || decide (e.on < i)) &&
  (let m := anc ops.toList []
   ops.toList.zipIdx.all fun (y, j) => ops.toList.zipIdx.all fun (x, i) => decide (j ≤ i) || (m.getD j 0).testBit i || commB P ops x y)

theorem okB_pairs (h : okB P ops = true) {i j : Nat} {x y : Oper} (hi : ops[i]? = some x) (hj : ops[j]? = some y) (hij : i < j) : Needs ops j i ∨ commB P ops x y = true := by
  simp only [okB, Bool.and_eq_true, List.all_eq_true, Bool.or_eq_true, decide_eq_true_eq] at h
  have hx : (x, i) ∈ ops.toList.zipIdx := by rw [List.mem_zipIdx_iff_getElem?]; simpa using hi
  have hy : (y, j) ∈ ops.toList.zipIdx := by rw [List.mem_zipIdx_iff_getElem?]; simpa using hj
  rcases h.2 (y, j) hy (x, i) hx with (h | h) | h
  · exact absurd h (by show ¬ j ≤ i; omega)
  · exact .inl (anc_ok ops.toList [] [] (by simp) rfl (fun j i hb => by simp at hb) j i h)
  · exact .inr h
theorem okB_edges (h : okB P ops = true) {i : Nat} {x : Oper} (hi : ops[i]? = some x) {e : Edge} (he : e ∈ x.after) (hb : Region.binds .any e = true) : e.on < i := by
  simp only [okB, Bool.and_eq_true, List.all_eq_true] at h
  have hx : (x, i) ∈ ops.toList.zipIdx := by rw [List.mem_zipIdx_iff_getElem?]; simpa using hi
  have := h.1.2 (x, i) hx
  have := Array.all_eq_true_iff_forall_mem.1 this e he
  simpa [hb] using this
theorem okB_sel (h : okB P ops = true) (j : Nat) (o : Oper) (cs : Array SelectCase) (b : Bool) (ho : ops[j]? = some o) : o.op ≠ .select cs b := by
  simp only [okB, Bool.and_eq_true] at h
  exact Region.noSelect_spec h.1.1 j o cs b ho

def left (ops : Array Oper) (listed : Array Bool) : List Nat := (List.range ops.size).filter fun i => !listed.getD i true

theorem mem_left {listed : Array Bool} {i : Nat} : i ∈ left ops listed ↔ i < ops.size ∧ listed.getD i true = false := by simp [left]
theorem left_sorted (listed : Array Bool) : (left ops listed).Pairwise (· < ·) := List.pairwise_lt_range.filter _

theorem left_set {listed : Array Bool} {j : Nat} (hsz : listed.size = ops.size) {l1 l2 : List Nat} (h : left ops listed = l1 ++ j :: l2) : left ops (listed.setIfInBounds j true) = l1 ++ l2 := by
  have hj : j < listed.size := by
    have : j ∈ left ops listed := by rw [h]; simp
    rw [mem_left] at this; omega
  have e : left ops (listed.setIfInBounds j true) = (left ops listed).filter fun i => decide (i ≠ j) := by
    unfold left
    rw [List.filter_filter]
    refine List.filter_congr fun i _ => ?_
    by_cases hij : i = j
    · subst hij; simp [hj]
    · rw [getD_set_ne true (Ne.symm hij)]; simp [hij]
  have hs := left_sorted (ops := ops) listed
  rw [h] at hs
  rw [e, h, List.filter_append, List.filter_cons]
  have n1 : ∀ i ∈ l1, i ≠ j := fun i hi => by
    have := (List.pairwise_append.1 hs).2.2 i hi j (by simp)
    omega
  have n2 : ∀ i ∈ l2, i ≠ j := fun i hi => by
    have := (List.pairwise_cons.1 (List.pairwise_append.1 hs).2.1).1 i hi
    omega
  rw [List.filter_eq_self.2 (fun i hi => by simpa using n1 i hi), List.filter_eq_self.2 (fun i hi => by simpa using n2 i hi)]
  simp

theorem any_of_text (hs : Strict Q) (hB : okB P ops = true) : ∀ (fuel : Nat) (listed : Array Bool) (a : Act) (w : World), listed.size = ops.size → Closed ops listed → (left ops listed).length = fuel →
    tOps P ops Q (left ops listed) a w → wpAny P .any ops Q fuel listed a w := by
  intro fuel
  induction fuel with
  | zero =>
    intro listed a w hsz hcl hlen h
    have hl : left ops listed = [] := List.eq_nil_of_length_eq_zero hlen
    rw [hl] at h
    refine ⟨?_, h⟩
    cases hr : Region.ready .any ops listed with
    | nil => rfl
    | cons j rs =>
      have hj : j ∈ Region.ready .any ops listed := by rw [hr]; simp
      rw [mem_ready] at hj
      obtain ⟨h0, o, ho, _⟩ := hj
      have : j ∈ left ops listed := mem_left.2 ⟨(Array.getElem?_eq_some_iff.1 ho).1, h0⟩
      rw [hl] at this; cases this
  | succ fuel ih =>
    intro listed a w hsz hcl hlen h
    have fin : ∀ i, i < ops.size → listed.getD i true = listed.getD i false := fun i hi => by simp [hsz, hi]
    refine ⟨fun hr => ?_, fun j hj => ?_⟩
    · exfalso
      cases hl : left ops listed with
      | nil => rw [hl] at hlen; cases hlen
      | cons i0 l =>
        have hi0 : i0 ∈ left ops listed := by rw [hl]; simp
        obtain ⟨hlt, hun⟩ := mem_left.1 hi0
        have : i0 ∈ Region.ready .any ops listed := by
          rw [mem_ready]
          refine ⟨hun, ops[i0], by simp [hlt], fun e he hb => ?_⟩
          have hon := okB_edges hB (i := i0) (x := ops[i0]) (by simp [hlt]) he hb
          rw [← fin _ (by omega)]
          cases hc : listed.getD e.on true with
          | true => rfl
          | false =>
            have hm : e.on ∈ left ops listed := mem_left.2 ⟨by omega, hc⟩
            have hs := left_sorted (ops := ops) listed
            rw [hl] at hm hs
            rcases List.mem_cons.1 hm with hm | hm
            · omega
            · have := (List.pairwise_cons.1 hs).1 _ hm; omega
        rw [hr] at this; cases this
    · obtain ⟨h0, y, hy, hpre⟩ := mem_ready.1 hj
      have hjl : j ∈ left ops listed := mem_left.2 ⟨(Array.getElem?_eq_some_iff.1 hy).1, h0⟩
      obtain ⟨l1, l2, hl⟩ := List.append_of_mem hjl
      have hsort := left_sorted (ops := ops) listed
      have hm1 : ∀ i ∈ l1, i ∈ left ops listed := fun i hi => by rw [hl]; simp [hi]
      rw [hl] at h hsort
      have hcomm : ∀ i ∈ l1, ∀ x, ops[i]? = some x → commB P ops x y = true := fun i hi x hx => by
        have hij : i < j := (List.pairwise_append.1 hsort).2.2 i hi j (by simp)
        rcases okB_pairs hB hx hy hij with hn | hc
        · have hli := hn listed hcl (fun o ho e he hb => by rw [hy] at ho; cases ho; exact hpre e he hb)
          obtain ⟨hlt, hun⟩ := mem_left.1 (hm1 i hi)
          rw [fin i hlt, hli] at hun; cases hun
        · exact hc
      have h1 := tOps_move hs hy (fun j o cs b ho => okB_sel hB j o cs b ho) l2 l1 hcomm a w h
      refine wpOp_mono (fun a' w' h2 => ?_) (wpOp_of_tOp (show tOp P ops Q j (tOps P ops Q (l1 ++ l2)) a w from h1))
      have hset := left_set hsz hl
      refine ih _ a' w' (by simp [hsz]) ?_ (by rw [hset]; rw [hl] at hlen; simp at hlen ⊢; omega) (by rw [hset]; exact h2)
      intro k o ho hk e he hb
      by_cases hkj : j = k
      · subst hkj
        rw [hy] at ho; cases ho
        exact getD_set_true (hpre e he hb)
      · rw [getD_set_ne false hkj] at hk
        exact getD_set_true (hcl k o ho hk e he hb)

theorem tOps_eq_wpTxt (l : List Oper) : ∀ k, (∀ j, l[j]? = ops[k + j]?) → tOps P ops Q (List.range' k l.length) = wpTxt P ops Q l := by
  induction l with
  | nil => intro k _; funext a w; simp [tOps, wpTxt]
  | cons o l ih =>
    intro k h
    have h0 : ops[k]? = some o := by simpa using (h 0).symm
    have ih' := ih (k + 1) (fun j => by have := h (j + 1); simpa [Nat.add_assoc, Nat.add_comm 1 j] using this)
    funext a w
    simp only [List.length_cons, List.range'_succ, tOps, wpTxt, ih']
    exact tOp_some h0 _ a w

/-- THE REGION, IN THE ORDER OF ITS TEXT. -/
theorem wp_region_text {id : Nat} {a : Act} {w : World} {l : List Oper} (hm : P.follows .mixedOrders = true) (hB : okB P l.toArray = true)
    (h : ∀ Q' : Exit → Act → World → Prop, (∀ a w, Q .normal a w → Q' .normal a w) → wpTxt P l.toArray Q' l a w.drew) : (Code.region id l.toArray true).wp P Q a w := by
  have h1 := h (fun e a w => e = .normal ∧ Q .normal a w) (fun a w hq => ⟨rfl, hq⟩)
  have hs : Strict (fun e a w => e = Exit.normal ∧ Q .normal a w) := fun e a w hq => hq.1
  have h2 := tOps_eq_wpTxt (P := P) (ops := l.toArray) (Q := fun e a w => e = Exit.normal ∧ Q .normal a w) l 0 (by simp)
  have hleft : left l.toArray (Array.replicate l.toArray.size false) = List.range' 0 l.length := by
    unfold left
    rw [List.filter_eq_self.2, List.range_eq_range']
    · simp
    · intro i hi
      have : i < l.length := by simpa using hi
      simp [this]
  refine Code.wp_mono ?_ (wp_region_any hm (any_of_text hs hB l.toArray.size (Array.replicate l.toArray.size false) a w.drew (by simp) ?_ ?_ ?_))
  · rintro e a w ⟨rfl, hq⟩; exact hq
  · intro k o ho hk
    exfalso
    rw [Array.getD_eq_getD_getElem?, Array.getElem?_replicate] at hk
    split at hk <;> simp at hk
  · rw [hleft]; simp
  · rw [hleft, h2]; exact h1
end
end
end Go.Txt
