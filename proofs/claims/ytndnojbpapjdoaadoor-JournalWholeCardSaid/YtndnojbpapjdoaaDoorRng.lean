/- Regions within the rounds of a range over a function; the range itself over owned memory. No program is named here. -/
import Derived.Test.YtndnojbpapjdoaaDoorArr
import Derived.RangeFuncFrom
import Derived.RangeFuncCalls
import Derived.RangeFuncLeaves
import Derived.OrdersIn
set_option linter.unusedSimpArgs false
set_option linter.unusedVariables false
set_option linter.unusedSectionVars false
namespace Go.Sp
open Go.RowKit Go.Txt

/-- No fence but the round. -/
abbrev RO (ro : Option Nat) : Fence := { Fence.wide with round := ro }
abbrev RF (r : Nat) : Fence := Fence.wide.inRound r
section
variable {P : Program} {ro : Option Nat} {r n : Nat} {o : Oper} {a : Act} {w : World} {K : Act → World → Prop} {Q : Exit → Act → World → Prop}
def noDefer (o : Oper) : Bool := match o.op with | .defer _ => false | _ => true
theorem noDefer_ne (h : noDefer o = true) (c : Call) : o.op ≠ .defer c := fun e => by unfold noDefer at h; rw [e] at h; cases h
theorem rows_in {row : String} {args : Array Value} {R : Value → World → Prop} (h : Rows P row args w R) : RowsIn (RO ro) n P row args w R :=
  fun c cs _ => let ⟨v, w', q, s⟩ := h c cs; ⟨v, w', q, stepsIn_wide.2 s⟩
theorem calls_in {f : FuncId} {args : Array Value} {R : Ending → World → Prop} (h : Calls P f args w R) : CallsIn (RO ro) n P f args w R := (callsIn_wide (n := n)).2 h
/-- An operation within a round. -/
theorem op_in (hd : noDefer o = true) (h : o.wp P a w K Q) : o.wpIn (RO ro) n P a w K Q := by
  refine ⟨fun _ _ => trivial, ?_⟩
  rw [Oper.semAt_eq _ _ _ (noDefer_ne hd)]
  unfold Oper.wp at h
  generalize (execOp a.eval o).run P w = R at h ⊢
  cases R with
  | ok v w' =>
    cases v <;> first
      | exact h
      | exact h.elim
      | exact ⟨fun h => (by cases h), calls_in h⟩
      | exact ⟨fun h => (by cases h), rows_in h⟩
  | halt e w' => cases e <;> first | exact h | exact h.elim
theorem anyIn {ops : Array Oper} (hd : ∀ (i : Nat) (o : Oper), ops[i]? = some o → noDefer o = true) (hq : ¬ LetsOut Q) : ∀ (fuel : Nat) (listed : Array Bool) (a : Act) (w : World), wpAny P .any ops Q fuel listed a w → wpAnyIn (RO ro) n P .any ops Q fuel listed a w
  | 0, _, _, _, h => h
  | fuel + 1, listed, a, w, h => by
    refine ⟨h.1, fun i hi => ?_⟩
    have h1 := h.2 i hi
    unfold wpOp at h1
    unfold wpOpIn
    cases ho : ops[i]? with
    | none => rw [ho] at h1; exact anyIn hd hq fuel _ _ _ h1
    | some o =>
      rw [ho] at h1
      simp only at h1 ⊢
      split at h1
      · rename_i hw
        rw [if_pos hw]
        rcases h1 with h1 | h1
        · exact op_in (hd i o ho) (Oper.wp_mono (fun a w h => anyIn hd hq fuel _ _ _ h) h1)
        · exact (hq h1.2).elim
      · rename_i hw
        rw [if_neg hw]
        exact ⟨fun _ _ => trivial, anyIn hd hq fuel _ _ _ h1⟩
def noDefers (l : List Oper) : Bool := l.all noDefer
theorem noDefers_at {l : List Oper} (h : noDefers l = true) (i : Nat) (o : Oper) (ho : l.toArray[i]? = some o) : noDefer o = true :=
  List.all_eq_true.1 h o (List.mem_of_getElem? (by simpa using ho))
theorem strict_lets : ¬ LetsOut (fun e a w => e = Exit.normal ∧ Q .normal a w) := by
  rintro ⟨a, w, h, _⟩
  cases h
theorem region_text_ro {id : Nat} {l : List Oper} (hn : noDefers l = true) (hm : P.follows .mixedOrders = true) (hB : okB P l.toArray = true)
    (h : ∀ Q' : Exit → Act → World → Prop, (∀ a w, Q .normal a w → Q' .normal a w) → wpTxt P l.toArray Q' l a w.drew) : (Code.region id l.toArray true).wpIn (RO ro) n P Q a w := by
  have h1 := h (fun e a w => e = .normal ∧ Q .normal a w) (fun a w hq => ⟨rfl, hq⟩)
  have hs : Strict (fun e a w => e = Exit.normal ∧ Q .normal a w) := fun e a w hq => hq.1
  have h2 := tOps_eq_wpTxt (P := P) (ops := l.toArray) (Q := fun e a w => e = Exit.normal ∧ Q .normal a w) l 0 (by simp)
  have hleft : left l.toArray (Array.replicate l.toArray.size false) = List.range' 0 l.length := by
    unfold left
    rw [List.filter_eq_self.2, List.range_eq_range']
    · simp
    · intro i hi
      have : i < l.length := by simpa using hi
      simp [this]
  refine Code.wpIn_mono ?_ (wpIn_region_any hm (anyIn (noDefers_at hn) strict_lets _ _ _ _ (any_of_text hs hB l.toArray.size (Array.replicate l.toArray.size false) a w.drew (by simp) ?_ ?_ ?_)))
  · rintro e a w ⟨rfl, hq⟩; exact hq
  · intro k o ho hk
    exfalso
    rw [Array.getD_eq_getD_getElem?, Array.getElem?_replicate] at hk
    split at hk <;> simp at hk
  · rw [hleft]; simp
  · rw [hleft, h2]; exact h1
open Txh in
theorem region_held_ro {id : Nat} {l : List Oper} (hn : noDefers l = true) (I : World → Prop) (H : List (Nat × Value)) (hs : List Nat) (e0 : Nat) (hHs : H.map (·.1) = hs) (hm : P.follows .mixedOrders = true) (hB : okH P l.toArray hs e0 = true) (hI : I w.drew)
    (h : ∀ Q' : Exit → Act → World → Prop, (∀ a w, Q .normal a w → Q' .normal a w) → wpHeld P l.toArray Q' I H e0 0 l a w.drew) : (Code.region id l.toArray true).wpIn (RO ro) n P Q a w := by
  subst hHs
  have h1 := h (fun e a w => e = .normal ∧ Q .normal a w) (fun a w hq => ⟨rfl, hq⟩)
  have hs : Strict (fun e a w => e = Exit.normal ∧ Q .normal a w) := fun e a w hq => hq.1
  have h2 := hOps_eq_wpHeld (P := P) (ops := l.toArray) (Q := fun e a w => e = Exit.normal ∧ Q .normal a w) (I := I) (H := H) (e0 := e0) l 0 (by simp)
  have hleft : left l.toArray (Array.replicate l.toArray.size false) = List.range' 0 l.length := by
    unfold left
    rw [List.filter_eq_self.2, List.range_eq_range']
    · simp
    · intro i hi
      have : i < l.length := by simpa using hi
      simp [this]
  refine Code.wpIn_mono ?_ (wpIn_region_any hm (anyIn (noDefers_at hn) strict_lets _ _ _ _ (any_of_held hs hB l.toArray.size (Array.replicate l.toArray.size false) a w.drew (by simp) ?_ ?_ (.inl hI) ?_)))
  · rintro e a w ⟨rfl, hq⟩; exact hq
  · intro k o ho hk
    exfalso
    rw [Array.getD_eq_getD_getElem?, Array.getElem?_replicate] at hk
    split at hk <;> simp at hk
  · rw [hleft]; simp
  · rw [hleft, h2]; exact h1
/-- A region in the order of its text, as a list of texts. -/
theorem txt_list_ro {ops : Array Oper} (l : List Oper) (hn : noDefers l = true) (a : Act) (w : World) (h : wpTxt P ops Q l a w) : wpListIn (RO ro) n P ops Q l a w := by
  induction l generalizing a w with
  | nil => exact h
  | cons o l ih =>
    simp only [noDefers, List.all_cons, Bool.and_eq_true] at hn
    unfold wpTxt at h
    unfold wpListIn
    split at h
    · rename_i hw
      rw [if_pos hw]
      exact op_in hn.1 (Oper.wp_mono (fun a w h => ih hn.2 a w h) h.2)
    · rename_i hw
      rw [if_neg hw]
      exact ⟨fun _ _ => trivial, ih hn.2 _ _ h⟩
theorem region_plain_ro {id : Nat} {l : List Oper} (hn : noDefers l = true) (h : wpTxt P l.toArray Q l a w) : (Code.region id l.toArray false).wpIn (RO ro) n P Q a w :=
  wpIn_region_lit (txt_list_ro l hn a w h)
theorem list_ro {ops : Array Oper} (hq : ¬ LetsOut Q) (l : List Oper) (hn : noDefers l = true) (a : Act) (w : World) (h : wpList P ops Q l a w) : wpListIn (RO ro) n P ops Q l a w := by
  induction l generalizing a w with
  | nil => exact h
  | cons o l ih =>
    simp only [noDefers, List.all_cons, Bool.and_eq_true] at hn
    unfold wpList at h
    unfold wpListIn
    split at h
    · rename_i hw
      rw [if_pos hw]
      rcases h with h | h
      · exact op_in hn.1 (Oper.wp_mono (fun a w h => ih hn.2 a w h) h)
      · exact (hq h.2).elim
    · rename_i hw
      rw [if_neg hw]
      exact ⟨fun _ _ => trivial, ih hn.2 _ _ h⟩
theorem region_list_ro {id : Nat} {l : List Oper} (hn : noDefers l = true) (h : ∀ Q' : Exit → Act → World → Prop, (∀ a w, Q .normal a w → Q' .normal a w) → wpList P l.toArray Q' l a w) : (Code.region id l.toArray false).wpIn (RO ro) n P Q a w := by
  refine Code.wpIn_mono ?_ (wpIn_region_lit (list_ro strict_lets l hn a w (h (fun e a w => e = .normal ∧ Q .normal a w) (fun a w hq => ⟨rfl, hq⟩))))
  rintro e a w ⟨rfl, hq⟩; exact hq
theorem region_list_in {id : Nat} {l : List Oper} (hn : noDefers l = true) (h : ∀ Q' : Exit → Act → World → Prop, (∀ a w, Q .normal a w → Q' .normal a w) → wpList P l.toArray Q' l a w) : (Code.region id l.toArray false).wpIn (RF r) n P Q a w := region_list_ro (ro := some r) hn h
theorem region_list_wide {id : Nat} {l : List Oper} (hn : noDefers l = true) (h : ∀ Q' : Exit → Act → World → Prop, (∀ a w, Q .normal a w → Q' .normal a w) → wpList P l.toArray Q' l a w) : (Code.region id l.toArray false).wpIn Fence.wide n P Q a w := region_list_ro (ro := none) hn h
theorem region_text_in {id : Nat} {l : List Oper} (hn : noDefers l = true) (hm : P.follows .mixedOrders = true) (hB : okB P l.toArray = true)
    (h : ∀ Q' : Exit → Act → World → Prop, (∀ a w, Q .normal a w → Q' .normal a w) → wpTxt P l.toArray Q' l a w.drew) : (Code.region id l.toArray true).wpIn (RF r) n P Q a w := region_text_ro (ro := some r) hn hm hB h
theorem region_plain_in {id : Nat} {l : List Oper} (hn : noDefers l = true) (h : wpTxt P l.toArray Q l a w) : (Code.region id l.toArray false).wpIn (RF r) n P Q a w := region_plain_ro (ro := some r) hn h
theorem region_held_in {id : Nat} {l : List Oper} (hn : noDefers l = true) (I : World → Prop) (H : List (Nat × Value)) (hs : List Nat) (e0 : Nat) (hHs : H.map (·.1) = hs) (hm : P.follows .mixedOrders = true) (hB : Txh.okH P l.toArray hs e0 = true) (hI : I w.drew)
    (h : ∀ Q' : Exit → Act → World → Prop, (∀ a w, Q .normal a w → Q' .normal a w) → Txh.wpHeld P l.toArray Q' I H e0 0 l a w.drew) : (Code.region id l.toArray true).wpIn (RF r) n P Q a w := region_held_ro (ro := some r) hn I H hs e0 hHs hm hB hI h
theorem region_text_wide {id : Nat} {l : List Oper} (hn : noDefers l = true) (hm : P.follows .mixedOrders = true) (hB : okB P l.toArray = true)
    (h : ∀ Q' : Exit → Act → World → Prop, (∀ a w, Q .normal a w → Q' .normal a w) → wpTxt P l.toArray Q' l a w.drew) : (Code.region id l.toArray true).wpIn Fence.wide n P Q a w := region_text_ro (ro := none) hn hm hB h
theorem region_plain_wide {id : Nat} {l : List Oper} (hn : noDefers l = true) (h : wpTxt P l.toArray Q l a w) : (Code.region id l.toArray false).wpIn Fence.wide n P Q a w := region_plain_ro (ro := none) hn h
end
/-- How a round may be left. -/
def rngPost {α : Type} (w0 : World) (l D : Nat) (lp : Loop) (R : List α → List Asn) (Rx : Code → List Asn) (xs : List α) : Exit → Act → World → Prop
  | .normal, _, W => Sat w0 W (Blk l (.loop lp) :: Blk D (.deferred (some [])) :: R xs)
  | .ret, _, W => Sat w0 W (Blk l (.loop lp) :: Blk D (.deferred (some [])) :: Rx .ret)
  | .exit id, _, W => Sat w0 W (Blk l (.loop lp) :: Blk D (.deferred (some [])) :: Rx (.exit id))
  | .goto t, _, W => Sat w0 W (Blk l (.loop lp) :: Blk D (.deferred (some [])) :: Rx (.goto t))
  | _, _, _ => False
/-- An iterator that gives xs, whatever is kept between its rounds. -/
def SeqJ {α : Type} (P : Program) (gf : Nat) (lb : Array Value) (encs : α → Array Value) (xs : List α) (Rd : World → Prop) : Prop :=
  ∀ (n l : Nat) (J Jx : List α → World → Prop) (W : World), (∀ pre W, J pre W → Rd W) → (∀ pre W, J pre W → J pre W.drew) →
    (∀ pre x post W, xs = pre ++ x :: post → J pre W → YieldAt Fence.wide (n - 1) P l (encs x) W fun e W' => (e = .returned (.bool true) ∧ J (pre ++ [x]) W') ∨ (e = .returned (.bool false) ∧ Jx (pre ++ [x]) W')) →
    J [] W → CallsIn Fence.wide n P gf (#[.func (.yield l) #[] #[]] ++ lb) W fun e W' => (∃ v, e = .returned v) ∧ (J xs W' ∨ ∃ pre, Jx pre W')
theorem Sat.putObj {w0 w : World} {L : List Asn} {b : Nat} {o : Obj} (o' : Obj) (h : Sat w0 w (Blk b o :: L)) : Sat w0 (w.putObj b o') (Blk b o' :: L) := h.setObj
section
variable {P : Program} {n : Nat}
theorem wp_range_sat {α : Type} {g : Operand} {ps : Array Tmp} {assign body : Code} {Q : Exit → Act → World → Prop} {a : Act} {w : World} {gf : Nat} {lb : Array Value} (hg : a.eval g = .func (.func gf) #[] lb) (eg : ∀ args w, (callFunc gf args).run P w = .ok (.enter gf args) w)
    {encs : α → Array Value} {Rd : World → Prop} {w0 : World} (xs : List α) (hseq : SeqJ P gf lb encs xs Rd) (hps : ∀ x, (encs x).size = ps.size) (R : List α → List Asn) (Rx : Code → List Asn) (hRd : ∀ pre W, Sat w0 W (R pre) → Rd W) (hS : Sat w0 w (R [])) (a₁ : α → Act)
    (hassign : ∀ (m l : Nat) (x : α) (W : World) (K : Act → World → Prop), K (a₁ x) W →
      assign.wpIn (RF l) m P (Exit.then K (fun _ _ _ => False)) { tmps := (ps.zip (encs x)).foldl (fun t (p, v) => t.setIfInBounds p v) a.tmps, defers := [] } W)
    (hbody : ∀ (m l D : Nat) (lp : Loop) (pre : List α) (x : α) (post : List α) (W : World), xs = pre ++ x :: post → Sat w0 W (Blk l (.loop lp) :: Blk D (.deferred (some [])) :: R pre) → body.wpIn (RF l) m P (rngPost w0 l D lp R Rx (pre ++ [x])) (a₁ x) W)
    (hdone : ∀ (D : Nat) (W : World), Sat w0 W (Blk D (.deferred (some [])) :: R xs) → Q .normal { a with defers := { target := .collected D, args := #[] } :: a.defers } W)
    (hstop : ∀ (D : Nat) (c : Code) (W : World), Sat w0 W (Blk D (.deferred (some [])) :: Rx c) → c.wpIn Fence.wide n P Q { a with defers := { target := .collected D, args := #[] } :: a.defers } W) :
    (Code.rangeFunc g ps assign body).wpIn Fence.wide n P Q a w := by
  refine wpIn_rangeFunc ?_
  intro fn hfn
  obtain ⟨rec, hrec⟩ : ∃ rec : LoopState → Option Code → Loop, rec = fun st pe => { state := st, pending := pe, fn, tmps := a.tmps, params := ps, assign, body, defers := w.heap.size } := ⟨_, rfl⟩
  obtain ⟨W1, hW1⟩ : ∃ W1, (w.alloc (.deferred (some []))).alloc (.loop (rec .ready none)) = W1 := ⟨_, rfl⟩
  have hS1 : Sat w0 W1 (Blk (w.heap.size + 1) (.loop (rec .ready none)) :: Blk w.heap.size (.deferred (some [])) :: R []) := by
    have := (hS.alloc (.deferred (some []))).alloc (.loop (rec .ready none))
    rw [hW1, World.size_alloc] at this
    exact this
  refine ⟨w.heap.size + 1, [{ target := .collected w.heap.size, args := #[] }], W1, { target := .fn (.func gf) lb, args := #[.func (.yield (w.heap.size + 1)) #[] #[]] }, W1, gf,
    #[.func (.yield (w.heap.size + 1)) #[] #[]] ++ lb, W1, ?_, ?_, ?_, ?_, fun h => (by cases h), ?_⟩
  · rw [← hW1, hrec]; exact run_enterLoop_outer _ _ _ _ _
  · simp only [resolve, hg]
    simp [go_sem]
  · intro f' hf'; trivial
  · simp [invoke, go_sem, eg]
  · refine (hseq (n - 1) (w.heap.size + 1)
      (fun pre W => Sat w0 W (Blk (w.heap.size + 1) (.loop (rec .ready none)) :: Blk w.heap.size (.deferred (some [])) :: R pre))
      (fun _ W => ∃ c, Sat w0 W (Blk (w.heap.size + 1) (.loop (rec .done (some c))) :: Blk w.heap.size (.deferred (some [])) :: Rx c))
      W1 (fun pre W h => hRd pre W h.drop.drop) (fun pre W h => h.drew) ?_ hS1).mono ?_
    · rintro pre x post W hx hJ
      have hl := hJ.at
      have hy := run_yield (P := P) (args := encs x) hl (by rw [hrec]; exact hps x)
      rw [hrec] at hy
      refine ⟨fn, _, assign, body, hy, roundIn_of_wpIn trivial (hassign _ _ x W _ ⟨_, run_beginRound hl (by rw [hrec]), ?_⟩)⟩
      refine wpIn_mono (hbody _ _ w.heap.size ({ rec .ready none with state := .busy }) pre x post _ hx (hJ.putObj _)) ?_
      have fin : ∀ (jump : Option Code) (W3 : World) (M : List Asn), Sat w0 W3 (Blk (w.heap.size + 1) (.loop { rec .ready none with state := .busy }) :: M) →
          (Instr.endRound (w.heap.size + 1) jump).run P W3 = .ok (.bool jump.isNone) (W3.putObj (w.heap.size + 1) (.loop (rec (if jump.isNone then .ready else .done) jump))) ∧
          Sat w0 (W3.putObj (w.heap.size + 1) (.loop (rec (if jump.isNone then .ready else .done) jump))) (Blk (w.heap.size + 1) (.loop (rec (if jump.isNone then .ready else .done) jump)) :: M) := fun jump W3 M h3 => by
        have hr := run_endRound (P := P) jump h3.at
        refine ⟨?_, h3.putObj _⟩
        rw [hrec] at hr ⊢
        exact hr
      rintro e a3 W3 hp
      cases e with
      | normal =>
        obtain ⟨hr, hs⟩ := fin none W3 _ hp
        exact ⟨_, _, hr, .inl ⟨rfl, hs⟩⟩
      | ret =>
        obtain ⟨hr, hs⟩ := fin (some .ret) W3 _ hp
        exact ⟨_, _, hr, .inr ⟨rfl, .ret, hs⟩⟩
      | exit id =>
        obtain ⟨hr, hs⟩ := fin (some (.exit id)) W3 _ hp
        exact ⟨_, _, hr, .inr ⟨rfl, .exit id, hs⟩⟩
      | goto t =>
        obtain ⟨hr, hs⟩ := fin (some (.goto t)) W3 _ hp
        exact ⟨_, _, hr, .inr ⟨rfl, .goto t, hs⟩⟩
      | panic ch => exact hp.elim
      | outgrown => exact hp.elim
    · rintro e W2 ⟨⟨v, rfl⟩, (hs | ⟨pre, c, hs⟩)⟩
      · exact ⟨none, _, by have := run_endLoop (P := P) hs.at (by rw [hrec]; simp); rw [hrec] at this; exact this, hdone _ _ ((hs.putObj _).drop)⟩
      · exact ⟨some c, _, by have := run_endLoop (P := P) hs.at (by rw [hrec]; simp); rw [hrec] at this; exact this, hstop _ c _ ((hs.putObj _).drop)⟩
end
section
variable {P : Program} {w : World} {a : Act} {K : Act → World → Prop} {Q : Exit → Act → World → Prop} {d : Option Tmp} {ty : TypeId} {pos : String} {aft : Array Edge} {gd : Option (Nat × Bool)}
theorem wp_imin {t t2 : TypeId} {x y : Operand} {i j m : Int} (hx : a.eval x = .int .i64 i) (hy : a.eval y = .int .i64 j) (hm : min i j = m) (hK : K (a.put d (.int .i64 m)) w) :
    (Oper.mk d (.call { callee := .builtin .min, args := #[x, y], argTypes := #[t, t2] }) ty pos aft gd).wp P a w K Q := by
  subst hm
  unfold Oper.wp execOp
  simp only [resolve, invoke, builtin, Sem.run_bind, Sem.run_pure, Result.andThen_ok, List.map_toArray, List.map_cons, List.map_nil, hx, hy]
  have hr : (Builtin.min_ #[t, t2] ty #[Value.int .i64 i, .int .i64 j]).run P w = .ok (.int .i64 (min i j)) w := by
    simp only [Builtin.min_, List.foldlM_cons, List.foldlM_nil, Builtin.min2, Sem.run_bind, Sem.run_pure, Result.andThen_ok]
    congr 2
    split <;> omega
  simp only [hr]
  exact hK
end
end Go.Sp
