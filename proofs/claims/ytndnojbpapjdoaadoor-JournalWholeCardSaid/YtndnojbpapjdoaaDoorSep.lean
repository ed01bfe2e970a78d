/- Owned memory as a list of assertions on partial heaps, above a base of blocks that nothing writes: a small separation logic over the model's worlds. No program is named here. -/
import Derived.WalkKit
import Derived.Below
import Derived.WalkSmall
import Derived.WalkSpells
import Derived.WalkLawsBesides
set_option linter.unusedSimpArgs false
set_option linter.unusedVariables false
set_option linter.unusedSectionVars false
namespace Go.Sp
open Go.RowKit

/-- A part of the heap; a block with true is frozen: nobody writes it any more, and any number of parts may know it. -/
abbrev PH := Nat → Option (Bool × Obj)
/-- What is said of a part of the heap. -/
abbrev Asn := PH → Prop

/-- Where both parts speak, the block is frozen. -/
def Apart (a c : PH) : Prop := ∀ b x y, a b = some x → c b = some y → x.1 = true
/-- The one part stands within the other. -/
def Le (a c : PH) : Prop := ∀ b x, a b = some x → c b = some x

def star : List Asn → PH → Prop
  | [], _ => True
  | A :: L, h => ∃ h1 h2 : PH, Apart h1 h2 ∧ Le h1 h ∧ Le h2 h ∧ A h1 ∧ star L h2

def Blk (b : Nat) (o : Obj) : Asn := fun h => h b = some (false, o)
/-- A block that is frozen. -/
def Fz (b : Nat) (o : Obj) : Asn := fun h => h b = some (true, o)
def Ex {α : Type} (A : α → Asn) : Asn := fun h => ∃ x, A x h
def Pu (p : Prop) (A : Asn) : Asn := fun h => p ∧ A h

theorem Le.refl (a : PH) : Le a a := fun _ _ h => h
theorem Le.trans {a c d : PH} (h : Le a c) (k : Le c d) : Le a d := fun b x y => k b x (h b x y)
theorem Apart.le {a c a' c' : PH} (h : Apart a c) (k : Le a' a) (l : Le c' c) : Apart a' c' := fun b x y p q => h b x y (k b x p) (l b y q)
theorem Apart.symm {a c h : PH} (hd : Apart a c) (l1 : Le a h) (l2 : Le c h) : Apart c a := fun b x y p q => by
  have h1 := l1 b y q
  have h2 := l2 b x p
  rw [h1] at h2
  cases h2
  exact hd b x x q p

theorem star_mono {L : List Asn} {h h' : PH} (hs : star L h) (hle : Le h h') : star L h' := by
  cases L with
  | nil => trivial
  | cons A L =>
    obtain ⟨h1, h2, hd, l1, l2, ha, hl⟩ := hs
    exact ⟨h1, h2, hd, l1.trans hle, l2.trans hle, ha, hl⟩

/-- Two parts as one; where both speak, the first. -/
def un (a c : PH) : PH := fun b => match a b with | some o => some o | none => c b
theorem un_l {a c : PH} {b : Nat} {o : Bool × Obj} (h : a b = some o) : un a c b = some o := by simp [un, h]
theorem un_r {a c : PH} {b : Nat} {o : Bool × Obj} (h : a b = none) (h' : c b = some o) : un a c b = some o := by simp [un, h, h']
theorem un_or {a c : PH} {b : Nat} {o : Bool × Obj} (h : un a c b = some o) : a b = some o ∨ c b = some o := by
  unfold un at h; split at h <;> simp_all
theorem un_le {a c h : PH} (l1 : Le a h) (l2 : Le c h) : Le (un a c) h := fun b x p => (un_or p).elim (l1 b x) (l2 b x)
theorem le_un_l {a c : PH} : Le a (un a c) := fun _ _ => un_l
theorem le_un_r {a c h : PH} (l1 : Le a h) (l2 : Le c h) : Le c (un a c) := fun b x p => by
  cases e : a b with
  | none => exact un_r e p
  | some y =>
    have h1 := l1 b y e
    have h2 := l2 b x p
    rw [h1] at h2
    cases h2
    exact un_l e
theorem apart_un {a c d : PH} (h : Apart a c) (k : Apart a d) : Apart a (un c d) := fun b x y p q => (un_or q).elim (h b x y p) (k b x y p)
theorem un_apart {a c d : PH} (h : Apart a d) (k : Apart c d) : Apart (un a c) d := fun b x y p q => (un_or p).elim (fun p => h b x y p q) (fun p => k b x y p q)

theorem star_swap {A B : Asn} {L : List Asn} {h : PH} (hs : star (A :: B :: L) h) : star (B :: A :: L) h := by
  obtain ⟨h1, h2, hd, l1, l2, ha, h3, h4, hd', l3, l4, hb, hl⟩ := hs
  have d13 : Apart h1 h3 := hd.le (Le.refl _) l3
  have d14 : Apart h1 h4 := hd.le (Le.refl _) l4
  exact ⟨h3, un h1 h4, apart_un (d13.symm l1 (l3.trans l2)) hd', l3.trans l2, un_le l1 (l4.trans l2), hb, h1, h4, d14, le_un_l, le_un_r l1 (l4.trans l2), ha, hl⟩

theorem star_cons {A : Asn} {L L' : List Asn} {h : PH} (hs : star (A :: L) h) (f : ∀ h, star L h → star L' h) : star (A :: L') h := by
  obtain ⟨h1, h2, hd, l1, l2, ha, hl⟩ := hs
  exact ⟨h1, h2, hd, l1, l2, ha, f _ hl⟩

theorem star_head {A B : Asn} {L : List Asn} {h : PH} (hs : star (A :: L) h) (f : ∀ h, A h → B h) : star (B :: L) h := by
  obtain ⟨h1, h2, hd, l1, l2, ha, hl⟩ := hs
  exact ⟨h1, h2, hd, l1, l2, f _ ha, hl⟩

theorem star_tail {A : Asn} {L : List Asn} {h : PH} (hs : star (A :: L) h) : star L h := by
  obtain ⟨h1, h2, hd, l1, l2, ha, hl⟩ := hs
  exact star_mono hl l2

/-- The i-th part brought to the front. -/
@[reducible] def pick : Nat → List Asn → List Asn
  | 0, L => L
  | _ + 1, [] => []
  | i + 1, A :: L => match pick i L with
    | [] => [A]
    | B :: M => B :: A :: M

theorem star_pick (i : Nat) : ∀ (L : List Asn) (h : PH), star L h → star (pick i L) h := by
  induction i with
  | zero => intro L h hs; exact hs
  | succ i ih =>
    intro L h hs
    cases L with
    | nil => trivial
    | cons A L =>
      have h1 := star_cons hs (ih L)
      simp only [pick]
      cases e : pick i L with
      | nil => rw [e] at h1; exact h1
      | cons B M => rw [e] at h1; exact star_swap h1

/-- Several parts that are one. -/
def Both (A B : Asn) : Asn := fun h => star [A, B] h

def noPH : PH := fun _ => none
theorem apart_no (a : PH) : Apart a noPH := fun _ _ _ _ q => by cases q
theorem no_apart (a : PH) : Apart noPH a := fun _ _ _ p _ => by cases p
theorem no_le (a : PH) : Le noPH a := fun _ _ p => by cases p

theorem star_both {A B : Asn} {L : List Asn} {h : PH} : star (Both A B :: L) h ↔ star (A :: B :: L) h := by
  constructor
  · rintro ⟨h1, h2, hd, l1, l2, ⟨g1, g2, gd, m1, m2, ga, ⟨k1, k2, kd, n1, n2, kb, _⟩⟩, hl⟩
    have e1 : Le k1 h1 := n1.trans m2
    refine ⟨g1, un k1 h2, apart_un (gd.le (Le.refl _) n1) (hd.le m1 (Le.refl _)), m1.trans l1, un_le (e1.trans l1) l2, ga, k1, h2, hd.le e1 (Le.refl _), le_un_l, le_un_r (e1.trans l1) l2, kb, hl⟩
  · rintro ⟨h1, h2, hd, l1, l2, ha, h3, h4, hd', l3, l4, hb, hl⟩
    refine ⟨un h1 h3, h4, un_apart (hd.le (Le.refl _) l4) hd', un_le l1 (l3.trans l2), l4.trans l2, ⟨h1, h3, hd.le (Le.refl _) l3, le_un_l, le_un_r l1 (l3.trans l2), ha, h3, noPH, apart_no _, Le.refl _, no_le _, hb, trivial⟩, hl⟩

theorem star_ex {α : Type} {A : α → Asn} {L : List Asn} {h : PH} : star (Ex A :: L) h ↔ ∃ x, star (A x :: L) h := by
  constructor
  · rintro ⟨h1, h2, hd, l1, l2, ⟨x, ha⟩, hl⟩
    exact ⟨x, h1, h2, hd, l1, l2, ha, hl⟩
  · rintro ⟨x, h1, h2, hd, l1, l2, ha, hl⟩
    exact ⟨h1, h2, hd, l1, l2, ⟨x, ha⟩, hl⟩

theorem star_pu {p : Prop} {A : Asn} {L : List Asn} {h : PH} : star (Pu p A :: L) h ↔ p ∧ star (A :: L) h := by
  constructor
  · rintro ⟨h1, h2, hd, l1, l2, ⟨x, ha⟩, hl⟩
    exact ⟨x, h1, h2, hd, l1, l2, ha, hl⟩
  · rintro ⟨x, h1, h2, hd, l1, l2, ha, hl⟩
    exact ⟨h1, h2, hd, l1, l2, ⟨x, ha⟩, hl⟩

theorem star_stars {M L : List Asn} {h : PH} : star ((fun h => star M h) :: L) h ↔ star (M ++ L) h := by
  induction M generalizing L h with
  | nil => exact ⟨star_tail, fun hs => ⟨noPH, h, no_apart _, no_le _, Le.refl _, trivial, hs⟩⟩
  | cons A M ih =>
    constructor
    · intro hs
      have h1 : star (Both A (fun h => star M h) :: L) h := star_head hs fun g hg => by
        obtain ⟨h1, h2, hd, l1, l2, ha, hm⟩ := hg
        exact ⟨h1, h2, hd, l1, l2, ha, h2, noPH, apart_no _, Le.refl _, no_le _, hm, trivial⟩
      exact star_cons (star_both.1 h1) fun g hg => ih.1 hg
    · intro hs
      have h1 := star_both.2 (star_cons hs fun g hg => ih.2 hg)
      exact star_head h1 fun g hg => by
        obtain ⟨h1, h2, hd, l1, l2, ha, h3, h4, hd', l3, l4, hm, _⟩ := hg
        exact ⟨h1, h2, hd, l1, l2, ha, star_mono hm l3⟩

/-- The part that is frozen. -/
def cold (h : PH) : PH := fun b => match h b with | some (true, o) => some (true, o) | _ => none
theorem cold_some {h : PH} {b : Nat} {x : Bool × Obj} (k : cold h b = some x) : x.1 = true ∧ h b = some x := by
  unfold cold at k
  split at k
  · rename_i o e; cases k; exact ⟨rfl, e⟩
  · cases k
theorem cold_of {h : PH} {b : Nat} {o : Obj} (k : h b = some (true, o)) : cold h b = some (true, o) := by simp [cold, k]
theorem cold_le (h : PH) : Le (cold h) h := fun _ _ k => (cold_some k).2
theorem cold_apart (h a : PH) : Apart (cold h) a := fun _ _ _ p _ => (cold_some p).1
/-- What is said of frozen blocks alone. -/
def Pers (A : Asn) : Prop := ∀ h, A h → A (cold h)
theorem pers_fz (b : Nat) (o : Obj) : Pers (Fz b o) := fun _ k => cold_of k
theorem star_dup {A : Asn} {L : List Asn} {h : PH} (hp : Pers A) (hs : star (A :: L) h) : star (A :: A :: L) h := by
  obtain ⟨h1, h2, hd, l1, l2, ha, hl⟩ := id hs
  exact ⟨cold h1, h, cold_apart _ _, (cold_le _).trans l1, Le.refl _, hp _ ha, hs⟩

/-- Nothing is owned. -/
def Emp : Asn := fun _ => True

theorem star_emp {L : List Asn} {h : PH} : star (Emp :: L) h ↔ star L h :=
  ⟨star_tail, fun hs => ⟨noPH, h, no_apart _, no_le _, Le.refl _, trivial, hs⟩⟩

/-- What holds of the parts L holds of the parts L'. -/
def Ent (L L' : List Asn) : Prop := ∀ g, star L g → star L' g
theorem Ent.refl (L : List Asn) : Ent L L := fun _ h => h
theorem Ent.trans {L M K : List Asn} (h : Ent L M) (k : Ent M K) : Ent L K := fun g hg => k g (h g hg)
theorem Ent.cons {A : Asn} {L M : List Asn} (h : Ent L M) : Ent (A :: L) (A :: M) := fun _ hg => star_cons hg h
theorem Ent.pick (i : Nat) (L : List Asn) : Ent L (pick i L) := fun g hg => star_pick i L g hg
theorem Ent.drop {A : Asn} {L : List Asn} : Ent (A :: L) L := fun _ hg => star_tail hg
theorem Ent.head {A B : Asn} {L : List Asn} (h : ∀ g, A g → B g) : Ent (A :: L) (B :: L) := fun _ hg => star_head hg h

/-- The world w: what was in w0 is as it was; behind it w holds the parts of L, apart from each other. -/
def Sat (w0 w : World) (L : List Asn) : Prop :=
  Below w0.heap.size w0 w ∧ ∃ h : PH, (∀ b o, h b = some o → w0.heap.size ≤ b ∧ w.heap[b]? = some o.2) ∧ star L h

section
variable {w0 w : World} {L : List Asn} {A B : Asn}

theorem Sat.below (h : Sat w0 w L) : Below w0.heap.size w0 w := h.1
theorem Sat.base (h : Sat w0 w L) : w0.heap.size ≤ w.heap.size := h.1.size

theorem Sat.map (h : Sat w0 w L) {L' : List Asn} (f : ∀ g, star L g → star L' g) : Sat w0 w L' := by
  obtain ⟨hb, g, hg, hs⟩ := h
  exact ⟨hb, g, hg, f g hs⟩

theorem Sat.ent (h : Sat w0 w L) {L' : List Asn} (f : Ent L L') : Sat w0 w L' := h.map f
theorem Sat.pick (i : Nat) (h : Sat w0 w L) : Sat w0 w (pick i L) := h.map (star_pick i L)
theorem Sat.drop (h : Sat w0 w (A :: L)) : Sat w0 w L := h.map fun _ => star_tail
theorem Sat.both : Sat w0 w (Both A B :: L) ↔ Sat w0 w (A :: B :: L) := ⟨fun h => h.map fun _ => star_both.1, fun h => h.map fun _ => star_both.2⟩
theorem Sat.stars {M : List Asn} : Sat w0 w ((fun h => star M h) :: L) ↔ Sat w0 w (M ++ L) := ⟨fun h => h.map fun _ => star_stars.1, fun h => h.map fun _ => star_stars.2⟩
theorem Sat.emp : Sat w0 w (Emp :: L) ↔ Sat w0 w L := ⟨fun h => h.map fun _ => star_emp.1, fun h => h.map fun _ => star_emp.2⟩

theorem Sat.ex {α : Type} {A : α → Asn} : Sat w0 w (Ex A :: L) ↔ ∃ x, Sat w0 w (A x :: L) := by
  constructor
  · rintro ⟨hb, g, hg, hs⟩
    obtain ⟨x, hs⟩ := star_ex.1 hs
    exact ⟨x, hb, g, hg, hs⟩
  · rintro ⟨x, hb, g, hg, hs⟩
    exact ⟨hb, g, hg, star_ex.2 ⟨x, hs⟩⟩

theorem Sat.pu {p : Prop} : Sat w0 w (Pu p A :: L) ↔ p ∧ Sat w0 w (A :: L) := by
  constructor
  · rintro ⟨hb, g, hg, hs⟩
    obtain ⟨x, hs⟩ := star_pu.1 hs
    exact ⟨x, hb, g, hg, hs⟩
  · rintro ⟨x, hb, g, hg, hs⟩
    exact ⟨hb, g, hg, star_pu.2 ⟨x, hs⟩⟩

theorem Sat.head (h : Sat w0 w (A :: L)) (f : ∀ g, A g → B g) : Sat w0 w (B :: L) := h.map fun _ hs => star_head hs f

theorem Sat.blk {b : Nat} {o : Obj} (h : Sat w0 w (Blk b o :: L)) : w.heap[b]? = some o ∧ w0.heap.size ≤ b := by
  obtain ⟨hb, g, hg, h1, h2, hd, l1, l2, ha, hl⟩ := h
  have := hg b _ (l1 b _ ha)
  exact ⟨this.2, this.1⟩
theorem Sat.cold {b : Nat} {o : Obj} (h : Sat w0 w (Fz b o :: L)) : w.heap[b]? = some o := by
  obtain ⟨hb, g, hg, h1, h2, hd, l1, l2, ha, hl⟩ := h
  exact (hg b _ (l1 b _ ha)).2

theorem Sat.at {b : Nat} {o : Obj} (h : Sat w0 w (Blk b o :: L)) : w.heap[b]? = some o := h.blk.1

theorem Sat.nth (i : Nat) {b : Nat} {o : Obj} {M : List Asn} (h : Sat w0 w L) (hi : Sp.pick i L = Blk b o :: M) : w.heap[b]? = some o := by
  have := h.pick i
  rw [hi] at this
  exact this.at

theorem Sat.ne {b c : Nat} {o p : Obj} (h : Sat w0 w (Blk b o :: Blk c p :: L)) : b ≠ c := by
  rintro rfl
  obtain ⟨hb, g, hg, h1, h2, hd, l1, l2, ha, h3, h4, hd', l3, l4, hb', hl⟩ := h
  have := hd b _ _ ha (l3 b _ hb')
  cases this

def one (b : Nat) (o : Bool × Obj) : PH := fun c => if c = b then some o else none
theorem one_self (b : Nat) (o : Bool × Obj) : one b o b = some o := if_pos rfl
theorem one_inv {b c : Nat} {o p : Bool × Obj} (h : one b o c = some p) : c = b ∧ p = o := by
  unfold one at h; split at h
  · cases h; exact ⟨by assumption, rfl⟩
  · cases h
theorem one_other {b c : Nat} (o : Bool × Obj) (h : c ≠ b) : one b o c = none := if_neg h
theorem one_apart {b : Nat} {o : Bool × Obj} {g : PH} (h : g b = none) : Apart (one b o) g := fun c x y p q => by
  obtain ⟨rfl, rfl⟩ := one_inv p
  rw [h] at q; cases q

/-- A new block. -/
theorem Sat.alloc (h : Sat w0 w L) (o : Obj) : Sat w0 (w.alloc o) (Blk w.heap.size o :: L) := by
  have hN := h.base
  obtain ⟨hb, g, hg, hs⟩ := h
  have hlt : ∀ b p, g b = some p → b < w.heap.size := fun b p x => (Array.getElem?_eq_some_iff.1 (hg b p x).2).1
  have hfresh : g w.heap.size = none := by
    cases e : g w.heap.size with
    | none => rfl
    | some p => have := hlt _ _ e; omega
  refine ⟨hb.alloc hN o, un (one w.heap.size (false, o)) g, ?_, one w.heap.size (false, o), g, one_apart hfresh, le_un_l, ?_, one_self _ _, hs⟩
  · intro b p x
    rcases un_or x with x | x
    · obtain ⟨rfl, rfl⟩ := one_inv x
      refine ⟨hN, ?_⟩
      show (w.heap.push o)[w.heap.size]? = _
      simp
    · refine ⟨(hg b p x).1, ?_⟩
      rw [Below.heap_alloc _ _ _ (hlt b p x)]; exact (hg b p x).2
  · intro b p x
    refine un_r (one_other _ ?_) x
    have := hlt b p x; omega

theorem Sat.drew (h : Sat w0 w L) : Sat w0 w.drew L := by
  obtain ⟨hb, g, hg, hs⟩ := h
  exact ⟨hb.drew, g, hg, hs⟩

/-- An owned block is given another content. -/
theorem Sat.updf {b : Nat} {o o' : Obj} {w' : World} (fz : Bool) (h : Sat w0 w (Blk b o :: L)) (hos : w'.os = w.os) (ht : w'.tape = w.tape) (hout : w'.output = w.output) (hsz : w.heap.size ≤ w'.heap.size)
    (hnew : w'.heap[b]? = some o') (hold : ∀ k, k < w.heap.size → k ≠ b → w'.heap[k]? = w.heap[k]?) : Sat w0 w' ((fun h => h b = some (fz, o')) :: L) := by
  have hbl := h.blk
  have hlt : b < w.heap.size := (Array.getElem?_eq_some_iff.1 hbl.1).1
  obtain ⟨hb, g, hg, h1, h2, hd, l1, l2, ha, hl⟩ := h
  have hh2 : h2 b = none := by
    cases e : h2 b with
    | none => rfl
    | some y => have := hd b _ y ha e; cases this
  have hbw : Below w0.heap.size w w' := ⟨hos, ht, hout, hsz, fun k hk => hold k (by have := hbl.2; omega) (by have := hbl.2; omega)⟩
  refine ⟨hb.trans hbw, un (one b (fz, o')) h2, ?_, one b (fz, o'), h2, one_apart hh2, le_un_l, ?_, one_self _ _, hl⟩
  · intro c p x
    rcases un_or x with x | y
    · obtain ⟨rfl, rfl⟩ := one_inv x
      exact ⟨hbl.2, hnew⟩
    · have := hg c p (l2 c p y)
      have hc : c < w.heap.size := (Array.getElem?_eq_some_iff.1 this.2).1
      exact ⟨this.1, (hold c hc (by rintro rfl; rw [hh2] at y; cases y)).trans this.2⟩
  · intro c p x
    refine un_r (one_other _ ?_) x
    rintro rfl; rw [hh2] at x; cases x
theorem Sat.upd {b : Nat} {o o' : Obj} {w' : World} (h : Sat w0 w (Blk b o :: L)) (hos : w'.os = w.os) (ht : w'.tape = w.tape) (hout : w'.output = w.output) (hsz : w.heap.size ≤ w'.heap.size)
    (hnew : w'.heap[b]? = some o') (hold : ∀ k, k < w.heap.size → k ≠ b → w'.heap[k]? = w.heap[k]?) : Sat w0 w' (Blk b o' :: L) := h.updf false hos ht hout hsz hnew hold
/-- A block is frozen: it stays as it is from here on. -/
theorem Sat.freeze {b : Nat} {o : Obj} (h : Sat w0 w (Blk b o :: L)) : Sat w0 w (Fz b o :: L) := h.updf true rfl rfl rfl (Nat.le_refl _) h.at fun _ _ _ => rfl
theorem Sat.dup (h : Sat w0 w (A :: L)) (hp : Pers A) : Sat w0 w (A :: A :: L) := h.map fun _ hs => star_dup hp hs
theorem star_app {L' L : List Asn} {g1 g2 h : PH} (s1 : star L' g1) (s2 : star L g2) (hd : Apart g1 g2) (l1 : Le g1 h) (l2 : Le g2 h) : star (L' ++ L) h := by
  induction L' generalizing g1 h with
  | nil => exact star_mono s2 l2
  | cons A L' ih =>
    obtain ⟨k1, k2, kd, m1, m2, ka, ks⟩ := s1
    refine ⟨k1, un k2 g2, apart_un kd (hd.le m1 (Le.refl _)), m1.trans l1, un_le (m2.trans l1) l2, ka, ih ks (hd.le m2 (Le.refl _)) le_un_l (le_un_r (m2.trans l1) l2)⟩
/-- What was done by one that saw all memory as given. -/
theorem Sat.over {w' : World} {L' : List Asn} (h' : Sat w w' L') (h : Sat w0 w L) : Sat w0 w' (L' ++ L) := by
  have hN := h.base
  obtain ⟨hb, g, hg, hs⟩ := h
  obtain ⟨hb', g', hg', hs'⟩ := h'
  have hlt : ∀ b p, g b = some p → b < w.heap.size := fun b p x => (Array.getElem?_eq_some_iff.1 (hg b p x).2).1
  have hd : Apart g' g := fun b x y p q => by have := (hg' b x p).1; have := hlt b y q; omega
  refine ⟨hb.trans (hb'.mono hN), un g' g, ?_, star_app hs' hs hd le_un_l ?_⟩
  · intro b p x
    rcases un_or x with x | x
    · exact ⟨Nat.le_trans hN (hg' b p x).1, (hg' b p x).2⟩
    · exact ⟨(hg b p x).1, (hb'.block b (hlt b p x)).trans (hg b p x).2⟩
  · intro b x q
    cases e : g' b with
    | none => exact un_r e q
    | some y => have := (hg' b y e).1; have := hlt b x q; omega

theorem Sat.store {b : Nat} {cs : Array Value} {t : TypeId} {f : Nat × Nat} (h : Sat w0 w (Blk b (.cells cs t f) :: L)) (i : Nat) (v : Value) :
    Sat w0 (w.setCell ⟨b, i, none⟩ v) (Blk b (.cells (cs.setIfInBounds i v) t f) :: L) := by
  refine h.upd rfl rfl rfl (by simp [World.setCell]) ?_ (fun k _ hk => Below.heap_setCell _ _ _ _ hk)
  simp [World.setCell, Array.getElem?_modify, h.at]

theorem Sat.setObj {b : Nat} {o o' : Obj} (h : Sat w0 w (Blk b o :: L)) : Sat w0 { w with heap := w.heap.setIfInBounds b o' } (Blk b o' :: L) := by
  have hlt : b < w.heap.size := (Array.getElem?_eq_some_iff.1 h.at).1
  refine h.upd rfl rfl rfl (by simp) ?_ (fun k _ hk => ?_)
  · simp [hlt]
  · simp only [Array.getElem?_setIfInBounds]; rw [if_neg (by omega)]

/-- The start: nothing is owned. -/
theorem Sat.start (w : World) : Sat w w [] := ⟨Below.refl _ _, noPH, (fun _ _ x => by cases x), trivial⟩

/-- Below the base nothing turns. -/
theorem Sat.cell (h : Sat w0 w L) {p : Addr} (hp : p.block < w0.heap.size) : w.cell? p = w0.cell? p := h.1.cell hp
theorem Sat.old (h : Sat w0 w L) {b : Nat} (hp : b < w0.heap.size) : w.heap[b]? = w0.heap[b]? := h.1.block b hp
end

theorem cell_blk {w : World} {b : Nat} {cs : Array Value} {t : TypeId} {f : Nat × Nat} (h : w.heap[b]? = some (.cells cs t f)) (i : Nat) : w.cell? ⟨b, i, none⟩ = cs[i]? := by
  simp [World.cell?, h]
theorem free_blk {w : World} {b : Nat} {cs : Array Value} {t : TypeId} (h : w.heap[b]? = some (.cells cs t (0, 0))) (i : Nat) : w.frozen? ⟨b, i, none⟩ = false := by
  simp [World.frozen?, h]

end Go.Sp
