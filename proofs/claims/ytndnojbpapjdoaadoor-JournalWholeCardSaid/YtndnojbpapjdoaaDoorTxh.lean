/- A region that draws its order, walked once in the order of the text, some of its operations HELD: loads and quiet calls that give the same value wherever they are carried out, while a fact I on the world holds. No program is named here. -/
import Derived.Test.YtndnojbpapjdoaaDoorTxt
set_option linter.unusedSimpArgs false
set_option linter.unusedVariables false
set_option linter.unusedSectionVars false
namespace Go.Txh
open Go.Txt

section
variable {P : Program} {ops : Array Oper} {Q : Exit → Act → World → Prop} {I : World → Prop} {H : List (Nat × Value)} {e0 : Nat}

/-- The operation gives the value v in every world in which I holds, and turns nothing. -/
def Fixed (P : Program) (Q : Exit → Act → World → Prop) (I : World → Prop) (o : Oper) (a : Act) (v : Value) : Prop :=
  ∀ a' : Act, (∀ x ∈ o.op.operands, a'.eval x = a.eval x) → ∀ (K : Act → World → Prop) (w : World), I w → K (a'.put o.dst v) w → o.wp P a' w K Q
theorem Fixed.congr {o : Oper} {a b : Act} {v : Value} (h : Fixed P Q I o a v) (hb : ∀ x ∈ o.op.operands, b.eval x = a.eval x) : Fixed P Q I o b v :=
  fun a' ha' => h a' fun x hx => (ha' x hx).trans (hb x hx)

/-- What an operation owes: I behind it, if it may turn the world, and held operations may come behind it. -/
def Owes (P : Program) (I : World → Prop) (e0 i : Nat) (o : Oper) (w : World) : Prop := i < e0 → cls P o = 2 → I w

def hOp (P : Program) (ops : Array Oper) (Q : Exit → Act → World → Prop) (I : World → Prop) (H : List (Nat × Value)) (e0 i : Nat) (K : Act → World → Prop) (a : Act) (w : World) : Prop :=
  match ops[i]? with
  | none => K a w
  | some o => if Region.wanted o (yielded ops a.tmps) then
      match H.lookup i with
      | some v => Fixed P Q I o a v ∧ K (a.put o.dst v) w
      | none => dyn o a = true ∧ o.wp P a w (fun a' w' => Owes P I e0 i o w' ∧ K a' w') Q
    else K (a.put o.dst undef) w
def hOps (P : Program) (ops : Array Oper) (Q : Exit → Act → World → Prop) (I : World → Prop) (H : List (Nat × Value)) (e0 : Nat) : List Nat → Act → World → Prop
  | [] => Q .normal
  | i :: l => hOp P ops Q I H e0 i (hOps P ops Q I H e0 l)

theorem hOp_some {i : Nat} {o : Oper} (ho : ops[i]? = some o) (hH : H.lookup i = none) (K : Act → World → Prop) (a : Act) (w : World) :
    hOp P ops Q I H e0 i K a w = if Region.wanted o (yielded ops a.tmps) then dyn o a = true ∧ o.wp P a w (fun a' w' => Owes P I e0 i o w' ∧ K a' w') Q else K (a.put o.dst undef) w := by simp only [hOp, ho, hH]
theorem hOp_held {i : Nat} {o : Oper} {v : Value} (ho : ops[i]? = some o) (hH : H.lookup i = some v) (K : Act → World → Prop) (a : Act) (w : World) :
    hOp P ops Q I H e0 i K a w = if Region.wanted o (yielded ops a.tmps) then Fixed P Q I o a v ∧ K (a.put o.dst v) w else K (a.put o.dst undef) w := by simp only [hOp, ho, hH]
theorem hOp_none {i : Nat} (ho : ops[i]? = none) (K : Act → World → Prop) (a : Act) (w : World) : hOp P ops Q I H e0 i K a w = K a w := by simp only [hOp, ho]

theorem hOp_mono {i : Nat} {a : Act} {w : World} {K K' : Act → World → Prop} (h : ∀ a w, K a w → K' a w) (hh : hOp P ops Q I H e0 i K a w) : hOp P ops Q I H e0 i K' a w := by
  cases ho : ops[i]? with
  | none => rw [hOp_none ho] at *; exact h _ _ hh
  | some o =>
    cases hH : H.lookup i with
    | none =>
      rw [hOp_some ho hH] at *
      split
      · rename_i hw; rw [if_pos hw] at hh; exact ⟨hh.1, Oper.wp_mono (fun a w q => ⟨q.1, h a w q.2⟩) hh.2⟩
      · rename_i hw; rw [if_neg hw] at hh; exact h _ _ hh
    | some v =>
      rw [hOp_held ho hH] at *
      split
      · rename_i hw; rw [if_pos hw] at hh; exact ⟨hh.1, h _ _ hh.2⟩
      · rename_i hw; rw [if_neg hw] at hh; exact h _ _ hh

/-- May the two be walked in either order? -/
def commH (P : Program) (ops : Array Oper) (hs : List Nat) (i j : Nat) (x y : Oper) : Bool := x.apart ops y && (hs.contains i || hs.contains j || cls P x == 0 || cls P y == 0 || (cls P x == 1 && cls P y == 1))

theorem lookup_of_contains {i : Nat} (h : (H.map (·.1)).contains i = true) : ∃ v, H.lookup i = some v := by
  induction H with
  | nil => simp at h
  | cons p H ih =>
    obtain ⟨k, v⟩ := p
    rw [List.lookup_cons]
    by_cases e : (i == k) = true
    · exact ⟨v, by rw [e]⟩
    · rw [List.map_cons, List.contains_cons] at h
      simp only [Bool.not_eq_true] at e
      rw [e, Bool.false_or] at h
      rw [e]
      exact ih h
theorem lookup_none {i : Nat} (h : (H.map (·.1)).contains i = false) : H.lookup i = none := by
  induction H with
  | nil => rfl
  | cons p H ih =>
    obtain ⟨k, v⟩ := p
    rw [List.map_cons, List.contains_cons, Bool.or_eq_false_iff] at h
    rw [List.lookup_cons, h.1]
    exact ih h.2

theorem hcomm {i j : Nat} {x y : Oper} (hs : Strict Q) (hi : ops[i]? = some x) (hj : ops[j]? = some y) (hx : ∀ cs b, x.op ≠ .select cs b) (hy : ∀ cs b, y.op ≠ .select cs b)
    (hc : commH P ops (H.map (·.1)) i j x y = true) {K : Act → World → Prop} {a : Act} {w : World} (h : hOp P ops Q I H e0 i (hOp P ops Q I H e0 j K) a w) : hOp P ops Q I H e0 j (hOp P ops Q I H e0 i K) a w := by
  simp only [commH, Bool.and_eq_true, Bool.or_eq_true, beq_iff_eq] at hc
  obtain ⟨hap, hc⟩ := hc
  obtain ⟨h1, h2, h3⟩ := Oper.apart_spec hap
  have h2' : ∀ d, y.dst = some d → x.dst ≠ some d := fun d hd he => h2 d he hd
  have wx : ∀ (a : Act) u, Region.wanted x (yielded ops (a.put y.dst u).tmps) = Region.wanted x (yielded ops a.tmps) := fun a u => wanted_put x a y.dst u h3
  have wy : ∀ (a : Act) u, Region.wanted y (yielded ops (a.put x.dst u).tmps) = Region.wanted y (yielded ops a.tmps) := fun a u => wanted_put y a x.dst u h1
  have dx : ∀ (a : Act) u, dyn x (a.put y.dst u) = dyn x a := fun a u => dyn_congr x _ _ (eval_apart h3)
  have dy : ∀ (a : Act) u, dyn y (a.put x.dst u) = dyn y a := fun a u => dyn_congr y _ _ (eval_apart h1)
  have ex : ∀ (a : Act) u, execOp (a.put y.dst u).eval x = execOp a.eval x := fun a u => execOp_put x hx a y.dst u h3
  have ey : ∀ (a : Act) u, execOp (a.put x.dst u).eval y = execOp a.eval y := fun a u => execOp_put y hy a x.dst u h1
  have fx : ∀ {a : Act} {v u : Value}, Fixed P Q I x a v → Fixed P Q I x (a.put y.dst u) v := fun hF => hF.congr (eval_apart h3)
  have fxd : ∀ {a : Act} {v u : Value} {ds : List Deferred}, Fixed P Q I x a v → Fixed P Q I x (({ a with defers := ds } : Act).put y.dst u) v := fun {a} {v} {u} {ds} hF => (hF.congr (b := ({ a with defers := ds } : Act)) (fun _ _ => rfl)).congr (eval_apart h3)
  cases hHi : H.lookup i with
  | some v =>
    rw [hOp_held hi hHi] at h
    by_cases hwx : Region.wanted x (yielded ops a.tmps) = true
    · rw [if_pos hwx] at h
      obtain ⟨hF, h⟩ := h
      cases hHj : H.lookup j with
      | some u =>
        rw [hOp_held hj hHj, wy] at h
        rw [hOp_held hj hHj]
        split
        · rename_i hwy
          rw [if_pos hwy] at h
          obtain ⟨hG, h⟩ := h
          refine ⟨hG.congr fun z hz => (eval_apart h1 z hz).symm, ?_⟩
          rw [hOp_held hi hHi, wx, if_pos hwx]
          exact ⟨fx hF, by rw [← Act.put_comm a v u h2]; exact h⟩
        · rename_i hwy
          rw [if_neg hwy] at h
          rw [hOp_held hi hHi, wx, if_pos hwx]
          exact ⟨fx hF, by rw [← Act.put_comm a v undef h2]; exact h⟩
      | none =>
        rw [hOp_some hj hHj, wy, dy] at h
        rw [hOp_some hj hHj]
        split
        · rename_i hwy
          rw [if_pos hwy] at h
          refine ⟨h.1, Oper.wp_mono ?_ (wp_after (wp_put hy h1 h2 hs h.2))⟩
          rintro a' w' ⟨⟨ho, hk⟩, u, ds, rfl⟩
          refine ⟨ho, ?_⟩
          have hn : Region.wanted x (yielded ops (({ a with defers := ds } : Act).put y.dst u).tmps) = true := by rw [wx]; exact hwx
          rw [hOp_held hi hHi, if_pos hn]
          exact ⟨fxd hF, hk⟩
        · rename_i hwy
          rw [if_neg hwy] at h
          rw [hOp_held hi hHi, wx, if_pos hwx]
          exact ⟨fx hF, by rw [← Act.put_comm a v undef h2]; exact h⟩
    · rw [if_neg hwx] at h
      have hnx : ∀ ds u, ¬ Region.wanted x (yielded ops (({ a with defers := ds } : Act).put y.dst u).tmps) = true := fun ds u => by rw [wx]; exact hwx
      cases hHj : H.lookup j with
      | some u =>
        rw [hOp_held hj hHj, wy] at h
        rw [hOp_held hj hHj]
        split
        · rename_i hwy
          rw [if_pos hwy] at h
          refine ⟨h.1.congr fun z hz => (eval_apart h1 z hz).symm, ?_⟩
          rw [hOp_held hi hHi, wx, if_neg hwx, ← Act.put_comm a undef u h2]; exact h.2
        · rename_i hwy
          rw [if_neg hwy] at h
          rw [hOp_held hi hHi, wx, if_neg hwx, ← Act.put_comm a undef undef h2]; exact h
      | none =>
        rw [hOp_some hj hHj, wy, dy] at h
        rw [hOp_some hj hHj]
        split
        · rename_i hwy
          rw [if_pos hwy] at h
          refine ⟨h.1, Oper.wp_mono ?_ (wp_after (wp_put hy h1 h2 hs h.2))⟩
          rintro a' w' ⟨⟨ho, hk⟩, u, ds, rfl⟩
          refine ⟨ho, ?_⟩
          rw [hOp_held hi hHi, if_neg (hnx ds u)]; exact hk
        · rename_i hwy
          rw [if_neg hwy] at h
          rw [hOp_held hi hHi, wx, if_neg hwx, ← Act.put_comm a undef undef h2]; exact h
  | none =>
  rw [hOp_some hi hHi] at h
  by_cases hwx : Region.wanted x (yielded ops a.tmps) = true
  case neg =>
    rw [if_neg hwx] at h
    have hnx : ∀ ds u, ¬ Region.wanted x (yielded ops (({ a with defers := ds } : Act).put y.dst u).tmps) = true := fun ds u => by rw [wx]; exact hwx
    cases hHj : H.lookup j with
    | some u =>
      rw [hOp_held hj hHj, wy] at h
      rw [hOp_held hj hHj]
      split
      · rename_i hwy
        rw [if_pos hwy] at h
        refine ⟨h.1.congr fun z hz => (eval_apart h1 z hz).symm, ?_⟩
        rw [hOp_some hi hHi, wx, if_neg hwx, ← Act.put_comm a undef u h2]; exact h.2
      · rename_i hwy
        rw [if_neg hwy] at h
        rw [hOp_some hi hHi, wx, if_neg hwx, ← Act.put_comm a undef undef h2]; exact h
    | none =>
      rw [hOp_some hj hHj, wy, dy] at h
      rw [hOp_some hj hHj]
      split
      · rename_i hwy
        rw [if_pos hwy] at h
        refine ⟨h.1, Oper.wp_mono ?_ (wp_after (wp_put hy h1 h2 hs h.2))⟩
        rintro a' w' ⟨⟨ho, hk⟩, u, ds, rfl⟩
        refine ⟨ho, ?_⟩
        rw [hOp_some hi hHi, if_neg (hnx ds u)]; exact hk
      · rename_i hwy
        rw [if_neg hwy] at h
        rw [hOp_some hi hHi, wx, if_neg hwx, ← Act.put_comm a undef undef h2]; exact h
  rw [if_pos hwx] at h
  obtain ⟨hdx, hX⟩ := h
  by_cases hwy : Region.wanted y (yielded ops a.tmps) = true
  case neg =>
    have hny : ∀ ds u, ¬ Region.wanted y (yielded ops (({ a with defers := ds } : Act).put x.dst u).tmps) = true := fun ds u => by rw [wy]; exact hwy
    have hX' : x.wp P a w (fun a' w' => Owes P I e0 i x w' ∧ K (a'.put y.dst undef) w') Q := by
      refine Oper.wp_mono ?_ (wp_after hX)
      rintro a' w' ⟨⟨ho, hk⟩, u, ds, rfl⟩
      refine ⟨ho, ?_⟩
      cases hHj : H.lookup j with
      | some v => rw [hOp_held hj hHj, if_neg (hny ds u)] at hk; exact hk
      | none => rw [hOp_some hj hHj, if_neg (hny ds u)] at hk; exact hk
    have hfin : hOp P ops Q I H e0 i K (a.put y.dst undef) w := by
      rw [hOp_some hi hHi, wx, dx, if_pos hwx]
      exact ⟨hdx, wp_unput hx h3 h2' hs hX'⟩
    cases hHj : H.lookup j with
    | some v => rw [hOp_held hj hHj, if_neg hwy]; exact hfin
    | none => rw [hOp_some hj hHj, if_neg hwy]; exact hfin
  cases hHj : H.lookup j with
  | some v =>
    have hin : x.wp P a w (fun a' w' => (Owes P I e0 i x w' ∧ Fixed P Q I y a' v ∧ K (a'.put y.dst v) w') ∧ After x a a') Q := by
      refine Oper.wp_mono ?_ (wp_after hX)
      rintro a' w' ⟨⟨ho, hk⟩, u, ds, rfl⟩
      have hn : Region.wanted y (yielded ops (({ a with defers := ds } : Act).put x.dst u).tmps) = true := by rw [wy]; exact hwy
      rw [hOp_held hj hHj, if_pos hn] at hk
      exact ⟨⟨ho, hk⟩, u, ds, rfl⟩
    have hF : Fixed P Q I y a v := by
      obtain ⟨a', w', ⟨_, hF, _⟩, u, ds, rfl⟩ := wp_reach hs hin
      refine hF.congr fun z hz => ?_
      exact (eval_apart (a := ({ a with defers := ds } : Act)) (u := u) h1 z hz).symm
    rw [hOp_held hj hHj, if_pos hwy]
    refine ⟨hF, ?_⟩
    rw [hOp_some hi hHi, wx, dx, if_pos hwx]
    exact ⟨hdx, wp_unput hx h3 h2' hs (Oper.wp_mono (fun a' w' q => ⟨q.1.1, q.1.2.2⟩) hin)⟩
  | none =>
  have hin : x.wp P a w (fun a' w' => (Owes P I e0 i x w' ∧ dyn y a' = true ∧ y.wp P a' w' (fun a' w' => Owes P I e0 j y w' ∧ K a' w') Q) ∧ After x a a') Q := by
    refine Oper.wp_mono ?_ (wp_after hX)
    rintro a' w' ⟨⟨ho, hk⟩, u, ds, rfl⟩
    have hn : Region.wanted y (yielded ops (({ a with defers := ds } : Act).put x.dst u).tmps) = true := by rw [wy]; exact hwy
    rw [hOp_some hj hHj, if_pos hn] at hk
    exact ⟨⟨ho, hk⟩, u, ds, rfl⟩
  have hdy : dyn y a = true := by
    obtain ⟨a', w', ⟨⟨_, hk⟩, u, ds, rfl⟩⟩ := wp_reach hs hin
    rw [dy] at hk
    exact (dyn_congr y a _ (fun _ _ => rfl)).symm.trans hk.1 |> fun e => by simpa using e
  have hnh : (H.map (·.1)).contains i = false ∧ (H.map (·.1)).contains j = false := by
    constructor
    · cases hcc : (H.map (·.1)).contains i with
      | false => rfl
      | true => obtain ⟨v, hv⟩ := lookup_of_contains hcc; rw [hHi] at hv; cases hv
    · cases hcc : (H.map (·.1)).contains j with
      | false => rfl
      | true => obtain ⟨v, hv⟩ := lookup_of_contains hcc; rw [hHj] at hv; cases hv
  rw [hnh.1, hnh.2] at hc
  simp only [Bool.false_eq_true, false_or] at hc
  rw [hOp_some hj hHj, if_pos hwy]
  refine ⟨hdy, ?_⟩
  have goal : ∀ (a' : Act) (w' : World), After y a a' → x.wp P a' w' (fun a' w' => Owes P I e0 i x w' ∧ K a' w') Q → hOp P ops Q I H e0 i K a' w' := by
    rintro a' w' ⟨u, ds, rfl⟩ hk
    have hn : Region.wanted x (yielded ops (({ a with defers := ds } : Act).put y.dst u).tmps) = true := by rw [wx]; exact hwx
    rw [hOp_some hi hHi, if_pos hn, dx]
    exact ⟨(dyn_congr x a _ (fun _ _ => rfl)).trans hdx, hk⟩
  rcases hc with (hc | hc) | hc
  · -- x looks at no world
    obtain ⟨v, hv, ⟨hox, _, hk⟩, _⟩ := wp_pure hs hc hdx hin
    have := wp_put hy h1 h2 hs hk
    refine Oper.wp_mono ?_ (wp_after this)
    rintro a' w' ⟨⟨ho, hk'⟩, ha'⟩
    refine ⟨ho, goal a' w' ha' ?_⟩
    obtain ⟨u, ds, rfl⟩ := ha'
    unfold Oper.wp
    rw [ex]
    have e0' : (execOp ({ a with defers := ds } : Act).eval x).run P w' = .ok (.value v) w' := hv w'
    rw [e0']
    exact ⟨(fun _ h => by rw [hc] at h; cases h), hk'⟩
  · -- y looks at no world
    obtain ⟨a1, w1, ⟨⟨_, hk1⟩, u1, ds1, rfl⟩⟩ := wp_reach hs hin
    obtain ⟨v, hv, _⟩ := wp_pure hs hc hk1.1 hk1.2
    have hv' : ∀ w, (execOp a.eval y).run P w = .ok (.value v) w := by
      intro w
      have := hv w
      rw [ey] at this
      exact this
    unfold Oper.wp
    rw [hv' w]
    refine ⟨(fun _ h => by rw [hc] at h; cases h), goal _ _ ⟨v, a.defers, rfl⟩ (wp_unput hx h3 h2' hs (Oper.wp_mono ?_ hin))⟩
    rintro a' w' ⟨⟨ho, hd', hk'⟩, u, ds, rfl⟩
    unfold Oper.wp at hk'
    rw [ey] at hk'
    have e0' : (execOp ({ a with defers := ds } : Act).eval y).run P w' = .ok (.value v) w' := hv' w'
    rw [e0'] at hk'
    exact ⟨ho, hk'.2⟩
  · -- both read
    obtain ⟨v, hv, ⟨ho, hd', hk⟩, _⟩ := wp_read hs hc.1 hin
    obtain ⟨u, hu, _, hk⟩ := wp_read hs hc.2 hk
    rw [ey] at hu
    unfold Oper.wp
    rw [hu]
    refine ⟨(fun _ h => by rw [hc.2] at h; cases h), goal _ _ ⟨u, a.defers, rfl⟩ ?_⟩
    unfold Oper.wp
    rw [ex, hv]
    refine ⟨(fun _ h => by rw [hc.1] at h; cases h), ?_⟩
    show K ((a.put y.dst u).put x.dst v) w
    rw [← Act.put_comm a v u h2]
    exact hk

theorem hOps_move (hs : Strict Q) {j : Nat} {y : Oper} (hj : ops[j]? = some y) (hsel : ∀ (j : Nat) (o : Oper) cs b, ops[j]? = some o → o.op ≠ .select cs b) (l2 : List Nat) :
    ∀ (l1 : List Nat), (∀ i ∈ l1, ∀ x, ops[i]? = some x → commH P ops (H.map (·.1)) i j x y = true) → ∀ a w, hOps P ops Q I H e0 (l1 ++ j :: l2) a w → hOps P ops Q I H e0 (j :: (l1 ++ l2)) a w := by
  intro l1
  induction l1 with
  | nil => intro _ a w h; exact h
  | cons i l1 ih =>
    intro hc a w h
    have h1 : hOp P ops Q I H e0 i (hOps P ops Q I H e0 (j :: (l1 ++ l2))) a w := hOp_mono (fun a w hh => ih (fun k hk => hc k (by simp [hk])) a w hh) h
    cases hi : ops[i]? with
    | none =>
      rw [hOp_none hi] at h1
      refine hOp_mono (fun a w hh => ?_) (show hOp P ops Q I H e0 j (hOps P ops Q I H e0 (l1 ++ l2)) a w from h1)
      show hOp P ops Q I H e0 i (hOps P ops Q I H e0 (l1 ++ l2)) a w
      rw [hOp_none hi]; exact hh
    | some x => exact hcomm hs hi hj (fun cs b => hsel i x cs b hi) (fun cs b => hsel j y cs b hj) (hc i (by simp) x hi) h1

/-- Every two operations are ordered by the edges, or may be walked in either order; what owes nothing comes behind all that is held. -/
def okH (P : Program) (ops : Array Oper) (hs : List Nat) (e0 : Nat) : Bool :=
  Region.noSelect ops &&
  (ops.toList.zipIdx.all fun (o, i) => o.after.all fun e => !Region.binds .any e || decide (e.on < i)) &&
  (let m := anc ops.toList []
   (ops.toList.zipIdx.all fun (y, j) => ops.toList.zipIdx.all fun (x, i) => decide (j ≤ i) || (m.getD j 0).testBit i || commH P ops hs i j x y) &&
   (ops.toList.zipIdx.all fun (y, j) => decide (j < e0) || hs.contains j || decide (cls P y ≠ 2) || hs.all fun i => (m.getD j 0).testBit i))

theorem okH_pairs {hs : List Nat} (h : okH P ops hs e0 = true) {i j : Nat} {x y : Oper} (hi : ops[i]? = some x) (hj : ops[j]? = some y) (hij : i < j) : Needs ops j i ∨ commH P ops hs i j x y = true := by
  simp only [okH, Bool.and_eq_true, List.all_eq_true, Bool.or_eq_true, decide_eq_true_eq] at h
  have hx : (x, i) ∈ ops.toList.zipIdx := by rw [List.mem_zipIdx_iff_getElem?]; simpa using hi
  have hy : (y, j) ∈ ops.toList.zipIdx := by rw [List.mem_zipIdx_iff_getElem?]; simpa using hj
  rcases h.2.1 (y, j) hy (x, i) hx with (h | h) | h
  · exact absurd h (by show ¬ j ≤ i; omega)
  · exact .inl (anc_ok ops.toList [] [] (by simp) rfl (fun j i hb => by simp at hb) j i h)
  · exact .inr h
theorem okH_late {hs : List Nat} (h : okH P ops hs e0 = true) {j : Nat} {y : Oper} (hj : ops[j]? = some y) (hl : ¬ j < e0) (hn : hs.contains j = false) (hc : cls P y = 2) : ∀ i ∈ hs, Needs ops j i := by
  simp only [okH, Bool.and_eq_true, List.all_eq_true, Bool.or_eq_true, decide_eq_true_eq] at h
  have hy : (y, j) ∈ ops.toList.zipIdx := by rw [List.mem_zipIdx_iff_getElem?]; simpa using hj
  intro i hi
  rcases h.2.2 (y, j) hy with ((h | h) | h) | h
  · exact absurd h hl
  · rw [hn] at h; cases h
  · exact absurd hc h
  · exact anc_ok ops.toList [] [] (by simp) rfl (fun j i hb => by simp at hb) j i (h i hi)
theorem okH_edges {hs : List Nat} (h : okH P ops hs e0 = true) {i : Nat} {x : Oper} (hi : ops[i]? = some x) {e : Edge} (he : e ∈ x.after) (hb : Region.binds .any e = true) : e.on < i := by
  simp only [okH, Bool.and_eq_true, List.all_eq_true] at h
  have hx : (x, i) ∈ ops.toList.zipIdx := by rw [List.mem_zipIdx_iff_getElem?]; simpa using hi
  have := h.1.2 (x, i) hx
  have := Array.all_eq_true_iff_forall_mem.1 this e he
  simpa [hb] using this
theorem okH_sel {hs : List Nat} (h : okH P ops hs e0 = true) (j : Nat) (o : Oper) (cs : Array SelectCase) (b : Bool) (ho : ops[j]? = some o) : o.op ≠ .select cs b := by
  simp only [okH, Bool.and_eq_true] at h
  exact Region.noSelect_spec h.1.1 j o cs b ho

theorem cls_le (P : Program) (o : Oper) : cls P o ≤ 2 := by
  unfold cls
  repeat' split
  all_goals omega
/-- One operation carried out, the fact I being at hand or no longer wanted. -/
theorem wpOp_of_hOp {j : Nat} {y : Oper} {a : Act} {w : World} {K : Act → World → Prop} {J J' : Prop} (hs : Strict Q) (hj : ops[j]? = some y) (hI : I w ∨ J)
    (hheld : (H.map (·.1)).contains j = true → ¬ J) (hlate : (H.map (·.1)).contains j = false → ¬ j < e0 → cls P y = 2 → J') (hJ : J → J') (h : hOp P ops Q I H e0 j K a w) :
    wpOp P ops Q j (fun a' w' => (I w' ∨ J') ∧ K a' w') a w := by
  have hI' : I w ∨ J' := hI.imp id hJ
  unfold wpOp
  simp only [hj]
  cases hH : H.lookup j with
  | some v =>
    have hcon : (H.map (·.1)).contains j = true := by
      cases hcc : (H.map (·.1)).contains j with
      | true => rfl
      | false => rw [lookup_none hcc] at hH; cases hH
    rw [hOp_held hj hH] at h
    split
    · rename_i hw
      rw [if_pos hw] at h
      have hIw : I w := hI.elim id fun hJ => (hheld hcon hJ).elim
      exact .inl (h.1 a (fun _ _ => rfl) _ w hIw ⟨.inl hIw, h.2⟩)
    · rename_i hw
      rw [if_neg hw] at h
      exact ⟨hI', h⟩
  | none =>
    have hcon : (H.map (·.1)).contains j = false := by
      cases hcc : (H.map (·.1)).contains j with
      | false => rfl
      | true => obtain ⟨v, hv⟩ := lookup_of_contains hcc; rw [hH] at hv; cases hv
    rw [hOp_some hj hH] at h
    split
    · rename_i hw
      rw [if_pos hw] at h
      left
      by_cases hc0 : cls P y = 0
      · obtain ⟨v, hv, _, hk⟩ := wp_pure hs hc0 h.1 h.2
        unfold Oper.wp
        rw [hv w]
        exact ⟨hI', hk⟩
      by_cases hc1 : cls P y = 1
      · obtain ⟨v, hv, _, hk⟩ := wp_read hs hc1 h.2
        unfold Oper.wp
        rw [hv]
        exact ⟨hI', hk⟩
      have hc2 : cls P y = 2 := by
        have := cls_le P y
        omega
      refine Oper.wp_mono (fun a' w' q => ⟨?_, q.2⟩) h.2
      by_cases hl : j < e0
      · exact .inl (q.1 hl hc2)
      · exact .inr (hlate hcon hl hc2)
    · rename_i hw
      rw [if_neg hw] at h
      exact ⟨hI', h⟩

theorem any_of_held (hs : Strict Q) (hB : okH P ops (H.map (·.1)) e0 = true) : ∀ (fuel : Nat) (listed : Array Bool) (a : Act) (w : World), listed.size = ops.size → Closed ops listed → (left ops listed).length = fuel →
    (I w ∨ ∀ i ∈ H.map (·.1), listed.getD i false = true) → hOps P ops Q I H e0 (left ops listed) a w → wpAny P .any ops Q fuel listed a w := by
  intro fuel
  induction fuel with
  | zero =>
    intro listed a w hsz hcl hlen _ h
    have hl : left ops listed = [] := List.eq_nil_of_length_eq_zero hlen
    rw [hl] at h
    refine ⟨?_, h⟩
    cases hr : Region.ready .any ops listed with
    | nil => rfl
    | cons j rs =>
      have hj : j ∈ Region.ready .any ops listed := by rw [hr]; simp
      rw [mem_ready] at hj
      obtain ⟨h0, o, ho, _⟩ := hj
      have : j ∈ left ops listed := Txt.mem_left.2 ⟨(Array.getElem?_eq_some_iff.1 ho).1, h0⟩
      rw [hl] at this; cases this
  | succ fuel ih =>
    intro listed a w hsz hcl hlen hI h
    have fin : ∀ i, i < ops.size → listed.getD i true = listed.getD i false := fun i hi => by simp [hsz, hi]
    refine ⟨fun hr => ?_, fun j hj => ?_⟩
    · exfalso
      cases hl : left ops listed with
      | nil => rw [hl] at hlen; cases hlen
      | cons i0 l =>
        have hi0 : i0 ∈ left ops listed := by rw [hl]; simp
        obtain ⟨hlt, hun⟩ := Txt.mem_left.1 hi0
        have : i0 ∈ Region.ready .any ops listed := by
          rw [mem_ready]
          refine ⟨hun, ops[i0], by simp [hlt], fun e he hb => ?_⟩
          have hon := okH_edges hB (i := i0) (x := ops[i0]) (by simp [hlt]) he hb
          rw [← fin _ (by omega)]
          cases hc : listed.getD e.on true with
          | true => rfl
          | false =>
            have hm : e.on ∈ left ops listed := Txt.mem_left.2 ⟨by omega, hc⟩
            have hs := left_sorted (ops := ops) listed
            rw [hl] at hm hs
            rcases List.mem_cons.1 hm with hm | hm
            · omega
            · have := (List.pairwise_cons.1 hs).1 _ hm; omega
        rw [hr] at this; cases this
    · obtain ⟨h0, y, hy, hpre⟩ := mem_ready.1 hj
      have hjl : j ∈ left ops listed := Txt.mem_left.2 ⟨(Array.getElem?_eq_some_iff.1 hy).1, h0⟩
      have hjlt : j < ops.size := (Array.getElem?_eq_some_iff.1 hy).1
      obtain ⟨l1, l2, hl⟩ := List.append_of_mem hjl
      have hsort := left_sorted (ops := ops) listed
      have hm1 : ∀ i ∈ l1, i ∈ left ops listed := fun i hi => by rw [hl]; simp [hi]
      rw [hl] at h hsort
      have hneeds : ∀ i, Needs ops j i → listed.getD i false = true := fun i hn => hn listed hcl (fun o ho e he hb => by rw [hy] at ho; cases ho; exact hpre e he hb)
      have hcomm : ∀ i ∈ l1, ∀ x, ops[i]? = some x → commH P ops (H.map (·.1)) i j x y = true := fun i hi x hx => by
        have hij : i < j := (List.pairwise_append.1 hsort).2.2 i hi j (by simp)
        rcases okH_pairs hB hx hy hij with hn | hc
        · have hli := hneeds i hn
          obtain ⟨hlt, hun⟩ := Txt.mem_left.1 (hm1 i hi)
          rw [fin i hlt, hli] at hun; cases hun
        · exact hc
      have h1 := hOps_move hs hy (fun j o cs b ho => okH_sel hB j o cs b ho) l2 l1 hcomm a w h
      have hset := left_set hsz hl
      have key := wpOp_of_hOp (J := ∀ i ∈ H.map (·.1), listed.getD i false = true) (J' := ∀ i ∈ H.map (·.1), (listed.setIfInBounds j true).getD i false = true) hs hy hI
        (fun hcon hall => by
          have := hall j (by simpa using hcon)
          rw [fin j hjlt, this] at h0; cases h0)
        (fun hn hl hc i hi => getD_set_true (hneeds i (okH_late hB hy hl hn hc i hi)))
        (fun hall i hi => getD_set_true (hall i hi))
        (show hOp P ops Q I H e0 j (hOps P ops Q I H e0 (l1 ++ l2)) a w from h1)
      refine wpOp_mono (fun a' w' h2 => ?_) key
      refine ih _ a' w' (by simp [hsz]) ?_ (by rw [hset]; rw [hl] at hlen; simp at hlen ⊢; omega) h2.1 (by rw [hset]; exact h2.2)
      intro k o ho hk e he hb
      by_cases hkj : j = k
      · subst hkj
        rw [hy] at ho; cases ho
        exact getD_set_true (hpre e he hb)
      · rw [getD_set_ne false hkj] at hk
        exact getD_set_true (hcl k o ho hk e he hb)
end

/-- The walk in the order of the text, with what is held. k: the number of the next operation. -/
def wpHeld (P : Program) (ops : Array Oper) (Q : Exit → Act → World → Prop) (I : World → Prop) (H : List (Nat × Value)) (e0 : Nat) : Nat → List Oper → Act → World → Prop
  | _, [], a, w => Q .normal a w
  | k, o :: rest, a, w =>
    if Region.wanted o (yielded ops a.tmps) then
      match H.lookup k with
      | some v => Fixed P Q I o a v ∧ wpHeld P ops Q I H e0 (k + 1) rest (a.put o.dst v) w
      | none => dyn o a = true ∧ o.wp P a w (fun a' w' => Owes P I e0 k o w' ∧ wpHeld P ops Q I H e0 (k + 1) rest a' w') Q
    else wpHeld P ops Q I H e0 (k + 1) rest (a.put o.dst undef) w

section
variable {P : Program} {ops : Array Oper} {Q : Exit → Act → World → Prop} {I : World → Prop} {H : List (Nat × Value)} {e0 k : Nat} {a : Act} {w : World} {rest : List Oper} {o : Oper}

theorem hOps_eq_wpHeld (l : List Oper) : ∀ k, (∀ j, l[j]? = ops[k + j]?) → hOps P ops Q I H e0 (List.range' k l.length) = wpHeld P ops Q I H e0 k l := by
  induction l with
  | nil => intro k _; funext a w; simp [hOps, wpHeld]
  | cons o l ih =>
    intro k h
    have h0 : ops[k]? = some o := by simpa using (h 0).symm
    have ih' := ih (k + 1) (fun j => by have := h (j + 1); simpa [Nat.add_assoc, Nat.add_comm 1 j] using this)
    funext a w
    simp only [List.length_cons, List.range'_succ, hOps, wpHeld, ih']
    cases hH : H.lookup k with
    | none => exact hOp_some h0 hH _ a w
    | some v => exact hOp_held h0 hH _ a w

/-- THE REGION, IN THE ORDER OF ITS TEXT, WITH WHAT IS HELD. -/
theorem wp_region_held {id : Nat} {l : List Oper} (I : World → Prop) (H : List (Nat × Value)) (hs : List Nat) (e0 : Nat) (hHs : H.map (·.1) = hs) (hm : P.follows .mixedOrders = true) (hB : okH P l.toArray hs e0 = true) (hI : I w.drew)
    (h : ∀ Q' : Exit → Act → World → Prop, (∀ a w, Q .normal a w → Q' .normal a w) → wpHeld P l.toArray Q' I H e0 0 l a w.drew) : (Code.region id l.toArray true).wp P Q a w := by
  subst hHs
  have h1 := h (fun e a w => e = .normal ∧ Q .normal a w) (fun a w hq => ⟨rfl, hq⟩)
  have hs : Strict (fun e a w => e = Exit.normal ∧ Q .normal a w) := fun e a w hq => hq.1
  have h2 := hOps_eq_wpHeld (P := P) (ops := l.toArray) (Q := fun e a w => e = Exit.normal ∧ Q .normal a w) (I := I) (H := H) (e0 := e0) l 0 (by simp)
  have hleft : left l.toArray (Array.replicate l.toArray.size false) = List.range' 0 l.length := by
    unfold left
    rw [List.filter_eq_self.2, List.range_eq_range']
    · simp
    · intro i hi
      have : i < l.length := by simpa using hi
      simp [this]
  refine Code.wp_mono ?_ (wp_region_any hm (any_of_held hs hB l.toArray.size (Array.replicate l.toArray.size false) a w.drew (by simp) ?_ ?_ (.inl hI) ?_))
  · rintro e a w ⟨rfl, hq⟩; exact hq
  · intro k o ho hk
    exfalso
    rw [Array.getD_eq_getD_getElem?, Array.getElem?_replicate] at hk
    split at hk <;> simp at hk
  · rw [hleft]; simp
  · rw [hleft, h2]; exact h1

theorem wpHeld_nil (h : Q .normal a w) : wpHeld P ops Q I H e0 k [] a w := h
theorem wpHeld_skip (hv : guardSays ops o a = some false) (h : wpHeld P ops Q I H e0 (k + 1) rest (a.put o.dst undef) w) : wpHeld P ops Q I H e0 k (o :: rest) a w := by
  unfold wpHeld
  rw [if_neg (by simp [wanted_of_says hv])]
  exact h
/-- Does the operation run here? -/
def runs (ops : Array Oper) (o : Oper) (a : Act) : Bool := match o.guard with | none => true | some _ => guardSays ops o a == some true
theorem wanted_of_runs (h : runs ops o a = true) : Region.wanted o (yielded ops a.tmps) = true := by
  unfold runs at h
  split at h
  · rename_i hg; simp [Region.wanted, hg]
  · exact wanted_of_says (by simpa using h)
theorem wpHeld_held {v : Value} (hr : runs ops o a = true) (hH : H.lookup k = some v) (hF : Fixed P Q I o a v) (h : wpHeld P ops Q I H e0 (k + 1) rest (a.put o.dst v) w) : wpHeld P ops Q I H e0 k (o :: rest) a w := by
  unfold wpHeld
  rw [if_pos (wanted_of_runs hr), hH]
  exact ⟨hF, h⟩
/-- An operation that turns nothing, or that comes behind all that is held: it owes nothing. -/
theorem wpHeld_free (hr : runs ops o a = true) (hH : H.lookup k = none) (hd : dyn o a = true) (hf : (decide (cls P o ≠ 2) || decide (e0 ≤ k)) = true)
    (h : ∀ K : Act → World → Prop, (∀ a w, wpHeld P ops Q I H e0 (k + 1) rest a w → K a w) → o.wp P a w K Q) : wpHeld P ops Q I H e0 k (o :: rest) a w := by
  unfold wpHeld
  rw [if_pos (wanted_of_runs hr), hH]
  refine ⟨hd, h _ fun a w hh => ⟨fun hl hc => ?_, hh⟩⟩
  simp only [Bool.or_eq_true, decide_eq_true_eq] at hf
  exact hf.elim (fun h => (h hc).elim) (fun h => by omega)
theorem wpHeld_owes (hr : runs ops o a = true) (hH : H.lookup k = none) (hd : dyn o a = true)
    (h : ∀ K : Act → World → Prop, (∀ a w, I w → wpHeld P ops Q I H e0 (k + 1) rest a w → K a w) → o.wp P a w K Q) : wpHeld P ops Q I H e0 k (o :: rest) a w := by
  unfold wpHeld
  rw [if_pos (wanted_of_runs hr), hH]
  exact ⟨hd, h _ fun a w hI hh => ⟨fun _ _ => hI, hh⟩⟩
end
end Go.Txh
