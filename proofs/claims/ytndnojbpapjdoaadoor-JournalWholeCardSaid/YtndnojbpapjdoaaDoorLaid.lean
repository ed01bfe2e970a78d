/- Package variables that a law's list tells: arrays of words. No program is named here. -/
import Derived.Test.YtndnojbpapjdoaaDoorSized
set_option linter.unusedSimpArgs false
set_option linter.unusedVariables false
set_option linter.unusedSectionVars false
namespace Go.Sp
open Go.ChangeShapes Go.WideShapes Go.ChangeAt Go.RowKit Go.Deep
section
variable {P : Program} {W : World}
theorem laid_mem : ∀ {l : List (String × DataW Unit)} {ps : List MemPlace}, DataW.LaidVars P W l ps → ∀ {n : String} {d : DataW Unit}, (n, d) ∈ l →
    ∃ g t cs fuel p, P.globalNamed n = some g ∧ (P.globals[g]?).map (·.type) = some t ∧ W.var? P n = some cs ∧ DataW.trod (fun _ => ()) P W 0 (fun _ => true) false fuel t cs.toList = some (d, p)
  | [], _, _, _, _, hm => by cases hm
  | (n0, d0) :: l, ps, h, n, d, hm => by
    obtain ⟨g, t, cs, fuel, p, q, hg, hgt, hv, hd, hrest, rfl⟩ := h
    rcases List.mem_cons.1 hm with e | e
    · cases e; exact ⟨g, t, cs, fuel, p, hg, hgt, hv, hd⟩
    · exact laid_mem hrest e
theorem laid_words {l : List (String × DataW Unit)} {ps : List MemPlace} {n : String} {zs : List Int} {g t e : Nat} {m : Nat} {k : IntKind} (h : DataW.LaidVars P W l ps) (hm : (n, DataW.agg (zs.map fun z => .lit (.int k z))) ∈ l)
    (hg : P.globalNamed n = some g) (ht : (P.globals[g]?).map (·.type) = some t) (ha : P.underlying t = some (.array m e)) (he : P.underlying e = some (.int k)) (hc : P.cellsOf e = 1) : ∀ (i : Nat) (z : Int), zs[i]? = some z → W.cell? ⟨g, i, none⟩ = some (.int k z) := by
  obtain ⟨g', t', cs, fuel, p, hg', ht', hv, hd⟩ := laid_mem h hm
  obtain rfl := Option.some.inj (hg.symm.trans hg')
  obtain rfl := Option.some.inj (ht.symm.trans ht')
  obtain ⟨xs, q, _, hx, hcl, hxl, hi⟩ := DataW.trod_array ha hd
  simp only [Prod.mk.injEq, DataW.agg.injEq] at hx
  intro i z hz
  have hlen := congrArg List.length hx.1
  simp only [List.length_map] at hlen
  have hiz : i < zs.length := (List.getElem?_eq_some_iff.1 hz).1
  have h1 := hi i (by omega)
  rw [hc, Nat.mul_one] at h1
  obtain ⟨x, hxi⟩ : ∃ x, xs[i]? = some x := ⟨xs[i]'(by omega), List.getElem?_eq_getElem _⟩
  rw [hxi] at h1
  obtain ⟨z', hcs, hxe, _⟩ := DataW.trod_int he h1
  have h2 := congrArg (fun l => l[i]?) hx.1
  simp only [List.getElem?_map, hz, hxi, Option.map_some, Option.some.injEq, hxe] at h2
  have hzz : z = z' := by injection h2 with h3; injection h3
  subst hzz
  rw [World.var?_cell hg hv i]
  have h4 : (cs.toList.drop i)[0]? = some (.int k z) := by
    have h5 : ((cs.toList.drop i).take 1)[0]? = some (.int k z) := by rw [hcs]; rfl
    rw [List.getElem?_take] at h5
    simpa using h5
  rw [List.getElem?_drop] at h4
  simpa using h4
end
end Go.Sp
