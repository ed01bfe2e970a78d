/- What a law is handed, opened: lists of bytes' lists, of bools, of ints. No program is named here. -/
import Derived.Test.YtndnojbpapjdoaaDoorSized
import Derived.Test.YtndnojbpapjdoaaDoorBase
import Derived.Deep.Grids
set_option linter.unusedSimpArgs false
set_option linter.unusedVariables false
set_option linter.unusedSectionVars false
namespace Go.Sp
open Go.ChangeShapes Go.WideShapes Go.ChangeAt Go.RowKit Go.Deep

/-- The slice value v holds the cells cs, in the world w: one each. -/
def CellsL (w : World) (v : Value) (cs : List Value) : Prop :=
  ∃ a c, v = .slice a cs.length c ∧ cs.length ≤ c ∧ c ≤ maxLen ∧ (a = none → cs = []) ∧ ∀ ad, a = some ad → ∀ (j : Nat) (u : Value), cs[j]? = some u → w.cell? (ad.add j) = some u
section
variable {H : Type} {enc : TypeId × Value → H} {P : Program} {W : World}
theorem CellsL.old {w0 w : World} {L : List Asn} {v : Value} {cs : List Value} (h : CellsL w0 v cs) (hS : Sat w0 w L) : CellsL w v cs := by
  obtain ⟨a, c, e, h1, h2, h3, h4⟩ := h
  exact ⟨a, c, e, h1, h2, h3, fun ad had j u hu => (hS.cell (block_lt_of_cell (h4 ad had j u hu))).trans (h4 ad had j u hu)⟩

theorem open_lists {r : Reach} {b0 : Nat} {t tb te : TypeId} {v : Value} {d : DataW H} {ps : List MemPlace}
    (ht : P.underlying t = some (.slice tb)) (hb : P.underlying tb = some (.slice te)) (hu : P.underlying te = some (.int .u8)) (cb : P.cellsOf tb = 1) (cu : P.cellsOf te = 1) (bb : P.bytesOf tb = 24) (bu : P.bytesOf te = 1)
    (hval : Value.okWide P W r b0 t v) (h : DataW.Trod enc P W 0 (fun _ => true) true t v d ps) (hz : Sized P t d) :
    ∃ (rs : List (List UInt8)) (vs : List Value), CellsL W v vs ∧ vs.length = rs.length ∧ (∀ p ∈ vs.zip rs, Reads W p.1 p.2) ∧ rs.length * 24 ≤ reachBytes ∧ ∀ l ∈ rs, l.length ≤ reachBytes := by
  obtain ⟨a0, len, cap, rfl⟩ := okWide_slice ht hval
  obtain ⟨fuel, hfu⟩ := h
  rcases open_slice1 ht cb hfu with ⟨hcs, _⟩ | ⟨a, len', cap', m, n, V, D, Pl, hcs, _, hl, hm, hmm, hd, hi⟩
  · simp only [Value.cells, List.cons.injEq, and_true] at hcs
    obtain ⟨rfl, rfl, rfl⟩ : a0 = none ∧ len = 0 ∧ cap = 0 := by simpa using hcs
    exact ⟨[], [], ⟨none, 0, rfl, Nat.le_refl _, Nat.zero_le _, (fun _ => rfl), (fun _ h => by cases h)⟩, rfl, (fun p hp => by cases hp), Nat.zero_le _, (fun l h => by cases h)⟩
  · obtain ⟨rfl, rfl, rfl⟩ : a0 = some a ∧ len = len' ∧ cap = cap' := by simpa [Value.cells] using hcs
    simp only [if_true] at hmm
    subst hmm
    simp only [Prod.mk.injEq] at hd
    rw [hd.1] at hz
    have hz0 := (sized_slice ht hz).1
    have hz1 := (sized_slice ht hz).2
    rw [bb] at hz0
    simp only [List.length_map, List.length_range] at hz0
    obtain ⟨rs, hlen, hrs⟩ := list_of_all (p := fun i l => Reads W (V i) l ∧ l.length ≤ reachBytes) len fun i hil => by
      obtain ⟨hc, htr⟩ := hi i (by omega)
      have hzi : Sized P tb (D i) := hz1 _ (List.mem_map_of_mem (List.mem_range.2 hil))
      obtain ⟨l, hlr⟩ := reads_of_trod hb hu cu htr
      refine ⟨l, hlr, ?_⟩
      obtain ⟨a3, c3, hv3, _⟩ := hlr
      exact len_of_trod hb bu htr hv3 hzi
    have hvl : ((List.range len).map V).length = len := by simp
    refine ⟨rs, (List.range len).map V, ⟨some a, m, by rw [hvl], by omega, hm, (fun h => by cases h), fun ad had j u hu => ?_⟩, by omega, fun p hp => ?_, by omega, fun l hl => ?_⟩
    · cases had
      have hj : j < len := by have := (List.getElem?_eq_some_iff.1 hu).1; omega
      rw [List.getElem?_map, List.getElem?_range hj] at hu
      cases hu
      exact (hi j (by omega)).1
    · obtain ⟨k, hk⟩ := List.getElem?_of_mem hp
      rw [List.getElem?_zip_eq_some] at hk
      obtain ⟨h1, h2⟩ := hk
      have hj : k < len := by have := (List.getElem?_eq_some_iff.1 h1).1; omega
      rw [List.getElem?_map, List.getElem?_range hj] at h1
      have h3 : V k = p.1 := Option.some.inj h1
      rw [← h3]
      exact (hrs k _ h2).1
    · obtain ⟨k, hk⟩ := List.getElem?_of_mem hl
      exact (hrs k _ hk).2

theorem open_boolL {r : Reach} {b0 : Nat} {t e : TypeId} {v : Value} {d : DataW H} {ps : List MemPlace} (ht : P.underlying t = some (.slice e)) (he : P.underlying e = some .bool) (hc : P.cellsOf e = 1) (be : P.bytesOf e = 1)
    (hval : Value.okWide P W r b0 t v) (h : DataW.Trod enc P W 0 (fun _ => true) true t v d ps) (hz : Sized P t d) : ∃ bs : List Bool, CellsL W v (bs.map .bool) ∧ bs.length ≤ reachBytes := by
  obtain ⟨a0, len, cap, rfl⟩ := okWide_slice ht hval
  obtain ⟨fuel, hfu⟩ := h
  have hlb := len_of_trod ht be hfu rfl hz
  rcases Go.Deep.open_bools ht he hc hfu with ⟨hcs, _⟩ | ⟨a, len', cap', B, hcs, _, hl, hm, hd, hi⟩
  · simp only [Value.cells, List.cons.injEq, and_true] at hcs
    obtain ⟨rfl, rfl, rfl⟩ : a0 = none ∧ len = 0 ∧ cap = 0 := by simpa using hcs
    exact ⟨[], ⟨none, 0, rfl, Nat.le_refl _, Nat.zero_le _, (fun _ => rfl), (fun _ h => by cases h)⟩, Nat.zero_le _⟩
  · obtain ⟨rfl, rfl, rfl⟩ : a0 = some a ∧ len = len' ∧ cap = cap' := by simpa [Value.cells] using hcs
    have hvl : (((List.range len).map B).map Value.bool).length = len := by simp
    refine ⟨(List.range len).map B, ⟨some a, cap, by rw [hvl], by omega, hm, (fun h => by cases h), fun ad had j u hu => ?_⟩, by simpa using hlb⟩
    cases had
    have hj : j < len := by have := (List.getElem?_eq_some_iff.1 hu).1; omega
    rw [List.getElem?_map, List.getElem?_map, List.getElem?_range hj] at hu
    cases hu
    exact hi j (by omega)

theorem open_intL {r : Reach} {b0 : Nat} {t e : TypeId} {v : Value} {d : DataW H} {ps : List MemPlace} (ht : P.underlying t = some (.slice e)) (he : P.underlying e = some (.int .i64)) (hc : P.cellsOf e = 1) (be : P.bytesOf e = 8)
    (hval : Value.okWide P W r b0 t v) (h : DataW.Trod enc P W 0 (fun _ => true) true t v d ps) (hz : Sized P t d) : ∃ zs : List Int, CellsL W v (zs.map (.int .i64)) ∧ zs.length ≤ reachBytes ∧ ∀ z ∈ zs, -9223372036854775808 ≤ z ∧ z ≤ 9223372036854775807 := by
  obtain ⟨a0, len, cap, rfl⟩ := okWide_slice ht hval
  obtain ⟨fuel, hfu⟩ := h
  rcases open_ints ht he hc hfu with ⟨hcs, _⟩ | ⟨a, len', cap', zs, hcs, _, hl, hm, hzl, hd, hi, hwf⟩
  · simp only [Value.cells, List.cons.injEq, and_true] at hcs
    obtain ⟨rfl, rfl, rfl⟩ : a0 = none ∧ len = 0 ∧ cap = 0 := by simpa using hcs
    exact ⟨[], ⟨none, 0, rfl, Nat.le_refl _, Nat.zero_le _, (fun _ => rfl), (fun _ h => by cases h)⟩, Nat.zero_le _, (fun _ h => by cases h)⟩
  · obtain ⟨rfl, rfl, rfl⟩ : a0 = some a ∧ len = len' ∧ cap = cap' := by simpa [Value.cells] using hcs
    simp only [if_true] at hzl
    have hvl : (zs.take len).length = len := by rw [List.length_take]; omega
    simp only [Prod.mk.injEq] at hd
    rw [hd.1] at hz
    have hz0 := (sized_slice ht hz).1
    rw [be] at hz0
    have hll : (lits (H := H) .i64 (zs.take len)).length = len := by unfold lits; rw [List.length_map, hvl]
    refine ⟨zs.take len, ⟨some a, cap, by rw [List.length_map, hvl], by rw [List.length_map]; omega, hm, (fun h => by cases h), fun ad had j u hu => ?_⟩, by rw [hvl]; unfold lits at hz0 hll; rw [List.length_map, hvl] at hz0; unfold reachBytes at hz0 ⊢; omega, fun z hz => ?_⟩
    · cases had
      rw [List.getElem?_map, List.getElem?_take] at hu
      split at hu
      · rename_i hj
        rw [hi j (by omega), List.getD_eq_getElem?_getD]
        cases hq : zs[j]? with
        | none => rw [hq] at hu; cases hu
        | some q => rw [hq] at hu; cases hu; rfl
      · cases hu
    · have hw := hwf z (List.mem_of_mem_take hz)
      simp [Lit.wf, IntKind.min, IntKind.max, IntKind.signed, IntKind.bits] at hw
      omega
end
end Go.Sp
