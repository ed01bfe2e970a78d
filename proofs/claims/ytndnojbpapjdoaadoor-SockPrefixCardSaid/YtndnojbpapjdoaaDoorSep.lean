/- Owned memory as a list of assertions on partial heaps, above a base of blocks that nothing writes: a small separation logic over the model's worlds. No program is named here. -/
import Derived.WalkKit
import Derived.Below
import Derived.WalkSmall
import Derived.WalkSpells
import Derived.WalkLawsBesides
namespace Go.Sp
open Go.RowKit

/-- A part of the heap. -/
abbrev PH := Nat → Option Obj
/-- What is said of a part of the heap. -/
abbrev Asn := PH → Prop

def star : List Asn → PH → Prop
  | [], _ => True
  | A :: L, h => ∃ h1 h2 : PH, (∀ b, h1 b = none ∨ h2 b = none) ∧ (∀ b o, h1 b = some o → h b = some o) ∧ (∀ b o, h2 b = some o → h b = some o) ∧ A h1 ∧ star L h2

def Blk (b : Nat) (o : Obj) : Asn := fun h => h b = some o
def Ex {α : Type} (A : α → Asn) : Asn := fun h => ∃ x, A x h
def Pu (p : Prop) (A : Asn) : Asn := fun h => p ∧ A h

theorem star_mono {L : List Asn} {h h' : PH} (hs : star L h) (hle : ∀ b o, h b = some o → h' b = some o) : star L h' := by
  cases L with
  | nil => trivial
  | cons A L =>
    obtain ⟨h1, h2, hd, l1, l2, ha, hl⟩ := hs
    exact ⟨h1, h2, hd, fun b o x => hle b o (l1 b o x), fun b o x => hle b o (l2 b o x), ha, hl⟩

/-- Two parts as one; where both speak, the first. -/
def un (a c : PH) : PH := fun b => match a b with | some o => some o | none => c b
theorem un_l {a c : PH} {b : Nat} {o : Obj} (h : a b = some o) : un a c b = some o := by simp [un, h]
theorem un_r {a c : PH} {b : Nat} {o : Obj} (h : a b = none) (h' : c b = some o) : un a c b = some o := by simp [un, h, h']
theorem un_none {a c : PH} {b : Nat} (h : a b = none) (h' : c b = none) : un a c b = none := by simp [un, h, h']
theorem un_or {a c : PH} {b : Nat} {o : Obj} (h : un a c b = some o) : a b = some o ∨ c b = some o := by
  unfold un at h; split at h <;> simp_all
theorem none_of {a c : PH} {b : Nat} (hl : ∀ b o, a b = some o → c b = some o) (h : c b = none) : a b = none := by
  cases e : a b with
  | none => rfl
  | some o => have := hl b o e; rw [h] at this; cases this

theorem star_swap {A B : Asn} {L : List Asn} {h : PH} (hs : star (A :: B :: L) h) : star (B :: A :: L) h := by
  obtain ⟨h1, h2, hd, l1, l2, ha, h3, h4, hd', l3, l4, hb, hl⟩ := hs
  refine ⟨h3, un h1 h4, ?_, fun b o x => l2 b o (l3 b o x), ?_, hb, h1, h4, ?_, fun b o x => un_l x, ?_, ha, hl⟩
  · intro b
    rcases hd b with e | e
    · rcases hd' b with f | f
      · exact .inl f
      · exact .inr (un_none e f)
    · exact .inl (none_of l3 e)
  · intro b o x
    rcases un_or x with x | x
    · exact l1 b o x
    · exact l2 b o (l4 b o x)
  · intro b
    rcases hd b with e | e
    · exact .inl e
    · exact .inr (none_of l4 e)
  · intro b o x
    rcases hd b with e | e
    · exact un_r e x
    · have := l4 b o x; rw [e] at this; cases this

theorem star_cons {A : Asn} {L L' : List Asn} {h : PH} (hs : star (A :: L) h) (f : ∀ h, star L h → star L' h) : star (A :: L') h := by
  obtain ⟨h1, h2, hd, l1, l2, ha, hl⟩ := hs
  exact ⟨h1, h2, hd, l1, l2, ha, f _ hl⟩

theorem star_head {A B : Asn} {L : List Asn} {h : PH} (hs : star (A :: L) h) (f : ∀ h, A h → B h) : star (B :: L) h := by
  obtain ⟨h1, h2, hd, l1, l2, ha, hl⟩ := hs
  exact ⟨h1, h2, hd, l1, l2, f _ ha, hl⟩

theorem star_tail {A : Asn} {L : List Asn} {h : PH} (hs : star (A :: L) h) : star L h := by
  obtain ⟨h1, h2, hd, l1, l2, ha, hl⟩ := hs
  exact star_mono hl l2

/-- The i-th part brought to the front. -/
@[reducible] def pick : Nat → List Asn → List Asn
  | 0, L => L
  | _ + 1, [] => []
  | i + 1, A :: L => match pick i L with
    | [] => [A]
    | B :: M => B :: A :: M

theorem star_pick (i : Nat) : ∀ (L : List Asn) (h : PH), star L h → star (pick i L) h := by
  induction i with
  | zero => intro L h hs; exact hs
  | succ i ih =>
    intro L h hs
    cases L with
    | nil => trivial
    | cons A L =>
      have h1 := star_cons hs (ih L)
      simp only [pick]
      cases e : pick i L with
      | nil => rw [e] at h1; exact h1
      | cons B M => rw [e] at h1; exact star_swap h1

/-- Several parts that are one. -/
def Both (A B : Asn) : Asn := fun h => star [A, B] h

theorem star_both {A B : Asn} {L : List Asn} {h : PH} : star (Both A B :: L) h ↔ star (A :: B :: L) h := by
  constructor
  · rintro ⟨h1, h2, hd, l1, l2, ⟨g1, g2, gd, m1, m2, ga, ⟨k1, k2, kd, n1, n2, kb, _⟩⟩, hl⟩
    refine ⟨g1, un k1 h2, ?_, fun b o x => l1 b o (m1 b o x), ?_, ga, k1, h2, ?_, fun b o x => un_l x, ?_, kb, hl⟩
    · intro b
      rcases gd b with e | e
      · exact .inl e
      · rcases hd b with f | f
        · exact .inl (none_of m1 f)
        · exact .inr (un_none (none_of n1 e) f)
    · intro b o x
      rcases un_or x with x | x
      · exact l1 b o (m2 b o (n1 b o x))
      · exact l2 b o x
    · intro b
      rcases hd b with f | f
      · exact .inl (none_of (fun b o x => m2 b o (n1 b o x)) f)
      · exact .inr f
    · intro b o x
      rcases hd b with f | f
      · exact un_r (none_of (fun b o x => m2 b o (n1 b o x)) f) x
      · rw [f] at x; cases x
  · rintro ⟨h1, h2, hd, l1, l2, ha, h3, h4, hd', l3, l4, hb, hl⟩
    refine ⟨un h1 h3, h4, ?_, ?_, fun b o x => l2 b o (l4 b o x), ⟨h1, h3, ?_, fun b o x => un_l x, ?_, ha, h3, fun _ => none, fun _ => .inr rfl, fun _ _ x => x, ?_, hb, trivial⟩, hl⟩
    · intro b
      rcases hd b with e | e
      · rcases hd' b with f | f
        · exact .inl (un_none e f)
        · exact .inr f
      · exact .inr (none_of l4 e)
    · intro b o x
      rcases un_or x with x | x
      · exact l1 b o x
      · exact l2 b o (l3 b o x)
    · intro b
      rcases hd b with e | e
      · exact .inl e
      · exact .inr (none_of l3 e)
    · intro b o x
      rcases hd b with e | e
      · exact un_r e x
      · have := l3 b o x; rw [e] at this; cases this
    · intro b o x; cases x

theorem star_ex {α : Type} {A : α → Asn} {L : List Asn} {h : PH} : star (Ex A :: L) h ↔ ∃ x, star (A x :: L) h := by
  constructor
  · rintro ⟨h1, h2, hd, l1, l2, ⟨x, ha⟩, hl⟩
    exact ⟨x, h1, h2, hd, l1, l2, ha, hl⟩
  · rintro ⟨x, h1, h2, hd, l1, l2, ha, hl⟩
    exact ⟨h1, h2, hd, l1, l2, ⟨x, ha⟩, hl⟩

theorem star_pu {p : Prop} {A : Asn} {L : List Asn} {h : PH} : star (Pu p A :: L) h ↔ p ∧ star (A :: L) h := by
  constructor
  · rintro ⟨h1, h2, hd, l1, l2, ⟨x, ha⟩, hl⟩
    exact ⟨x, h1, h2, hd, l1, l2, ha, hl⟩
  · rintro ⟨x, h1, h2, hd, l1, l2, ha, hl⟩
    exact ⟨h1, h2, hd, l1, l2, ⟨x, ha⟩, hl⟩

theorem star_stars {M L : List Asn} {h : PH} : star ((fun h => star M h) :: L) h ↔ star (M ++ L) h := by
  induction M generalizing L h with
  | nil => exact ⟨star_tail, fun hs => ⟨fun _ => none, h, fun _ => .inl rfl, (fun _ _ x => by cases x), fun _ _ x => x, trivial, hs⟩⟩
  | cons A M ih =>
    constructor
    · intro hs
      have h1 : star (Both A (fun h => star M h) :: L) h := star_head hs fun g hg => by
        obtain ⟨h1, h2, hd, l1, l2, ha, hm⟩ := hg
        exact ⟨h1, h2, hd, l1, l2, ha, h2, fun _ => none, fun _ => .inr rfl, fun _ _ x => x, (fun _ _ x => by cases x), hm, trivial⟩
      exact star_cons (star_both.1 h1) fun g hg => ih.1 hg
    · intro hs
      have h1 := star_both.2 (star_cons hs fun g hg => ih.2 hg)
      exact star_head h1 fun g hg => by
        obtain ⟨h1, h2, hd, l1, l2, ha, h3, h4, hd', l3, l4, hm, _⟩ := hg
        exact ⟨h1, h2, hd, l1, l2, ha, star_mono hm l3⟩

/-- Nothing is owned. -/
def Emp : Asn := fun _ => True

theorem star_emp {L : List Asn} {h : PH} : star (Emp :: L) h ↔ star L h :=
  ⟨star_tail, fun hs => ⟨fun _ => none, h, fun _ => .inl rfl, (fun _ _ x => by cases x), fun _ _ x => x, trivial, hs⟩⟩

/-- What holds of the parts L holds of the parts L'. -/
def Ent (L L' : List Asn) : Prop := ∀ g, star L g → star L' g
theorem Ent.refl (L : List Asn) : Ent L L := fun _ h => h
theorem Ent.trans {L M K : List Asn} (h : Ent L M) (k : Ent M K) : Ent L K := fun g hg => k g (h g hg)
theorem Ent.cons {A : Asn} {L M : List Asn} (h : Ent L M) : Ent (A :: L) (A :: M) := fun _ hg => star_cons hg h
theorem Ent.pick (i : Nat) (L : List Asn) : Ent L (pick i L) := fun g hg => star_pick i L g hg
theorem Ent.drop {A : Asn} {L : List Asn} : Ent (A :: L) L := fun _ hg => star_tail hg
theorem Ent.head {A B : Asn} {L : List Asn} (h : ∀ g, A g → B g) : Ent (A :: L) (B :: L) := fun _ hg => star_head hg h

/-- The world w: what was in w0 is as it was; behind it w holds the parts of L, apart from each other. -/
def Sat (w0 w : World) (L : List Asn) : Prop :=
  Below w0.heap.size w0 w ∧ ∃ h : PH, (∀ b o, h b = some o → w0.heap.size ≤ b ∧ w.heap[b]? = some o) ∧ star L h

section
variable {w0 w : World} {L : List Asn} {A B : Asn}

theorem Sat.below (h : Sat w0 w L) : Below w0.heap.size w0 w := h.1
theorem Sat.base (h : Sat w0 w L) : w0.heap.size ≤ w.heap.size := h.1.size

theorem Sat.map (h : Sat w0 w L) {L' : List Asn} (f : ∀ g, star L g → star L' g) : Sat w0 w L' := by
  obtain ⟨hb, g, hg, hs⟩ := h
  exact ⟨hb, g, hg, f g hs⟩

theorem Sat.ent (h : Sat w0 w L) {L' : List Asn} (f : Ent L L') : Sat w0 w L' := h.map f
theorem Sat.pick (i : Nat) (h : Sat w0 w L) : Sat w0 w (pick i L) := h.map (star_pick i L)
theorem Sat.drop (h : Sat w0 w (A :: L)) : Sat w0 w L := h.map fun _ => star_tail
theorem Sat.both : Sat w0 w (Both A B :: L) ↔ Sat w0 w (A :: B :: L) := ⟨fun h => h.map fun _ => star_both.1, fun h => h.map fun _ => star_both.2⟩
theorem Sat.stars {M : List Asn} : Sat w0 w ((fun h => star M h) :: L) ↔ Sat w0 w (M ++ L) := ⟨fun h => h.map fun _ => star_stars.1, fun h => h.map fun _ => star_stars.2⟩
theorem Sat.emp : Sat w0 w (Emp :: L) ↔ Sat w0 w L := ⟨fun h => h.map fun _ => star_emp.1, fun h => h.map fun _ => star_emp.2⟩

theorem Sat.ex {α : Type} {A : α → Asn} : Sat w0 w (Ex A :: L) ↔ ∃ x, Sat w0 w (A x :: L) := by
  constructor
  · rintro ⟨hb, g, hg, hs⟩
    obtain ⟨x, hs⟩ := star_ex.1 hs
    exact ⟨x, hb, g, hg, hs⟩
  · rintro ⟨x, hb, g, hg, hs⟩
    exact ⟨hb, g, hg, star_ex.2 ⟨x, hs⟩⟩

theorem Sat.pu {p : Prop} : Sat w0 w (Pu p A :: L) ↔ p ∧ Sat w0 w (A :: L) := by
  constructor
  · rintro ⟨hb, g, hg, hs⟩
    obtain ⟨x, hs⟩ := star_pu.1 hs
    exact ⟨x, hb, g, hg, hs⟩
  · rintro ⟨x, hb, g, hg, hs⟩
    exact ⟨hb, g, hg, star_pu.2 ⟨x, hs⟩⟩

theorem Sat.head (h : Sat w0 w (A :: L)) (f : ∀ g, A g → B g) : Sat w0 w (B :: L) := h.map fun _ hs => star_head hs f

theorem Sat.blk {b : Nat} {o : Obj} (h : Sat w0 w (Blk b o :: L)) : w.heap[b]? = some o ∧ w0.heap.size ≤ b := by
  obtain ⟨hb, g, hg, h1, h2, hd, l1, l2, ha, hl⟩ := h
  have := hg b o (l1 b o ha)
  exact ⟨this.2, this.1⟩

theorem Sat.at {b : Nat} {o : Obj} (h : Sat w0 w (Blk b o :: L)) : w.heap[b]? = some o := h.blk.1

theorem Sat.nth (i : Nat) {b : Nat} {o : Obj} {M : List Asn} (h : Sat w0 w L) (hi : Sp.pick i L = Blk b o :: M) : w.heap[b]? = some o := by
  have := h.pick i
  rw [hi] at this
  exact this.at

theorem Sat.ne {b c : Nat} {o p : Obj} (h : Sat w0 w (Blk b o :: Blk c p :: L)) : b ≠ c := by
  rintro rfl
  obtain ⟨hb, g, hg, h1, h2, hd, l1, l2, ha, h3, h4, hd', l3, l4, hb', hl⟩ := h
  rcases hd b with e | e
  · rw [ha] at e; cases e
  · have := l3 b p hb'; rw [e] at this; cases this

def one (b : Nat) (o : Obj) : PH := fun c => if c = b then some o else none
theorem one_self (b : Nat) (o : Obj) : one b o b = some o := if_pos rfl
theorem one_inv {b c : Nat} {o p : Obj} (h : one b o c = some p) : c = b ∧ p = o := by
  unfold one at h; split at h
  · cases h; exact ⟨by assumption, rfl⟩
  · cases h
theorem one_other {b c : Nat} (o : Obj) (h : c ≠ b) : one b o c = none := if_neg h

/-- A new block. -/
theorem Sat.alloc (h : Sat w0 w L) (o : Obj) : Sat w0 (w.alloc o) (Blk w.heap.size o :: L) := by
  have hN := h.base
  obtain ⟨hb, g, hg, hs⟩ := h
  have hlt : ∀ b p, g b = some p → b < w.heap.size := fun b p x => (Array.getElem?_eq_some_iff.1 (hg b p x).2).1
  have hfresh : g w.heap.size = none := by
    cases e : g w.heap.size with
    | none => rfl
    | some p => have := hlt _ _ e; omega
  refine ⟨hb.alloc hN o, un (one w.heap.size o) g, ?_, one w.heap.size o, g, ?_, fun b p x => un_l x, ?_, one_self _ _, hs⟩
  · intro b p x
    rcases un_or x with x | x
    · obtain ⟨rfl, rfl⟩ := one_inv x
      refine ⟨hN, ?_⟩
      show (w.heap.push p)[w.heap.size]? = _
      simp
    · refine ⟨(hg b p x).1, ?_⟩
      rw [Below.heap_alloc _ _ _ (hlt b p x)]; exact (hg b p x).2
  · intro b
    by_cases c : b = w.heap.size
    · subst c; exact .inr hfresh
    · exact .inl (one_other _ c)
  · intro b p x
    refine un_r (one_other _ ?_) x
    have := hlt b p x; omega

theorem Sat.drew (h : Sat w0 w L) : Sat w0 w.drew L := by
  obtain ⟨hb, g, hg, hs⟩ := h
  exact ⟨hb.drew, g, hg, hs⟩

/-- An owned block is given another content. -/
theorem Sat.upd {b : Nat} {o o' : Obj} {w' : World} (h : Sat w0 w (Blk b o :: L)) (hos : w'.os = w.os) (ht : w'.tape = w.tape) (hout : w'.output = w.output) (hsz : w.heap.size ≤ w'.heap.size)
    (hnew : w'.heap[b]? = some o') (hold : ∀ k, k < w.heap.size → k ≠ b → w'.heap[k]? = w.heap[k]?) : Sat w0 w' (Blk b o' :: L) := by
  have hbl := h.blk
  have hlt : b < w.heap.size := (Array.getElem?_eq_some_iff.1 hbl.1).1
  obtain ⟨hb, g, hg, h1, h2, hd, l1, l2, ha, hl⟩ := h
  have hh2 : h2 b = none := by
    rcases hd b with e | e
    · rw [ha] at e; cases e
    · exact e
  have hbw : Below w0.heap.size w w' := ⟨hos, ht, hout, hsz, fun k hk => hold k (by have := hbl.2; omega) (by have := hbl.2; omega)⟩
  refine ⟨hb.trans hbw, un (one b o') h2, ?_, one b o', h2, ?_, fun b p x => un_l x, ?_, one_self _ _, hl⟩
  · intro c p x
    rcases un_or x with x | y
    · obtain ⟨rfl, rfl⟩ := one_inv x
      exact ⟨hbl.2, hnew⟩
    · have := hg c p (l2 c p y)
      have hc : c < w.heap.size := (Array.getElem?_eq_some_iff.1 this.2).1
      exact ⟨this.1, (hold c hc (by rintro rfl; rw [hh2] at y; cases y)).trans this.2⟩
  · intro c
    by_cases e : c = b
    · subst e; exact .inr hh2
    · exact .inl (one_other _ e)
  · intro c p x
    refine un_r (one_other _ ?_) x
    rintro rfl; rw [hh2] at x; cases x

theorem Sat.store {b : Nat} {cs : Array Value} {t : TypeId} {f : Nat × Nat} (h : Sat w0 w (Blk b (.cells cs t f) :: L)) (i : Nat) (v : Value) :
    Sat w0 (w.setCell ⟨b, i, none⟩ v) (Blk b (.cells (cs.setIfInBounds i v) t f) :: L) := by
  refine h.upd rfl rfl rfl (by simp [World.setCell]) ?_ (fun k _ hk => Below.heap_setCell _ _ _ _ hk)
  simp [World.setCell, Array.getElem?_modify, h.at]

theorem Sat.setObj {b : Nat} {o o' : Obj} (h : Sat w0 w (Blk b o :: L)) : Sat w0 { w with heap := w.heap.setIfInBounds b o' } (Blk b o' :: L) := by
  have hlt : b < w.heap.size := (Array.getElem?_eq_some_iff.1 h.at).1
  refine h.upd rfl rfl rfl (by simp) ?_ (fun k _ hk => ?_)
  · simp [hlt]
  · simp only [Array.getElem?_setIfInBounds]; rw [if_neg (by omega)]

/-- The start: nothing is owned. -/
theorem Sat.start (w : World) : Sat w w [] := ⟨Below.refl _ _, fun _ => none, (fun _ _ x => by cases x), trivial⟩

/-- Below the base nothing turns. -/
theorem Sat.cell (h : Sat w0 w L) {p : Addr} (hp : p.block < w0.heap.size) : w.cell? p = w0.cell? p := h.1.cell hp
theorem Sat.old (h : Sat w0 w L) {b : Nat} (hp : b < w0.heap.size) : w.heap[b]? = w0.heap[b]? := h.1.block b hp
end

theorem cell_blk {w : World} {b : Nat} {cs : Array Value} {t : TypeId} {f : Nat × Nat} (h : w.heap[b]? = some (.cells cs t f)) (i : Nat) : w.cell? ⟨b, i, none⟩ = cs[i]? := by
  simp [World.cell?, h]
theorem free_blk {w : World} {b : Nat} {cs : Array Value} {t : TypeId} (h : w.heap[b]? = some (.cells cs t (0, 0))) (i : Nat) : w.frozen? ⟨b, i, none⟩ = false := by
  simp [World.frozen?, h]

end Go.Sp
