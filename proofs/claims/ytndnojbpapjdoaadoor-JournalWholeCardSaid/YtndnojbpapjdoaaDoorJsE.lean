/- The errors of package api: told from each other. -/
import Derived.Test.YtndnojbpapjdoaaDoorJsC
import Derived.Test.YtndnojbpapjdoaaDoorOpn
import Derived.LaidEql
set_option linter.unusedSimpArgs false
set_option linter.unusedVariables false
set_option linter.unusedSectionVars false
namespace Go.Proofs.YtndnojbpapjdoaaDoor
open Go.Sp Go.RowKit Go.Fld Go.Sha Go.Dr Go.Jr

def er (E : Nat → Addr) (k : Nat) : Value := .iface 182 (.pointer (some (E k)))
theorem infoE : (Tryd.prog.info? 182).map (·.comparable) = some true := by kernel_rfl
theorem infoS : (Tryd.prog.info? 206).map (·.size) = some 1 := by kernel_rfl
/-- The places of package api's errors, in the order of their numbers. -/
def errGs : List Nat := [1, 7, 4, 8, 0, 3, 9, 5, 10,
  11, 12, 2, 13, 14, 15, 16, 6, 17]
/-- The errors that the journal's laws speak of. -/
def errIdx : List Nat := [0, 1, 2, 3, 5, 7, 11, 16]
structure Errs (E : Nat → Addr) (w0 : World) : Prop where
  cell : ∀ (k g : Nat), k ∈ errIdx → errGs[k]? = some g → w0.cell? ⟨g, 0, none⟩ = some (er E (k + 1))
  apart : ∀ i j : Nat, i ∈ errIdx → j ∈ errIdx → i ≠ j → E (i + 1) ≠ E (j + 1)
  blk : ∀ i : Nat, i ∈ errIdx → ∃ c t, w0.heap[(E (i + 1)).block]? = some (.cells c t (0, 0))
theorem Errs.jr {E : Nat → Addr} {w0 : World} (h : Errs E w0) : JrErrs E w0 :=
  ⟨⟨h.cell 0 _ (by decide) rfl, h.cell 1 _ (by decide) rfl, h.cell 2 _ (by decide) rfl, h.cell 3 _ (by decide) rfl⟩, ⟨h.cell 0 _ (by decide) rfl, h.cell 5 _ (by decide) rfl⟩, h.cell 2 _ (by decide) rfl, h.cell 7 _ (by decide) rfl, h.cell 11 _ (by decide) rfl, h.cell 16 _ (by decide) rfl⟩
theorem err_same (E : Nat → Addr) (k : Nat) (w : World) : (binOp .eql 26 (er E k) (er E k)).run Tryd.prog w = .ok (.bool true) w := by
  obtain ⟨i, hi, hc⟩ := Option.map_eq_some_iff.1 infoE
  obtain ⟨j, hj, _⟩ := Option.map_eq_some_iff.1 infoS
  exact run_eql_iface_ptr_same (w := w) (E k) Tryd.underlying26 Tryd.underlying182 hi hc hj
theorem err_other {E : Nat → Addr} {w0 w : World} {L : List Asn} (h : Errs E w0) (hS : Sat w0 w L) (i j : Nat) (hi : i ∈ errIdx) (hj : j ∈ errIdx) (hne : i ≠ j) : (binOp .eql 26 (er E (i + 1)) (er E (j + 1))).run Tryd.prog w = .ok (.bool false) w := by
  obtain ⟨q, hq, hc⟩ := Option.map_eq_some_iff.1 infoE
  obtain ⟨r, hr, hs⟩ := Option.map_eq_some_iff.1 infoS
  obtain ⟨c, t, hb⟩ := h.blk i hi
  obtain ⟨c', t', hb'⟩ := h.blk j hj
  have old : ∀ {b : Nat} {o : Obj}, w0.heap[b]? = some o → w.heap[b]? = some o := fun hb => (hS.old (Array.getElem?_eq_some_iff.1 hb).1).trans hb
  exact run_eql_iface_ptr_other (w := w) Tryd.underlying26 Tryd.underlying182 hq hc hr (by omega) (h.apart i j hi hj hne) (old hb) (old hb')
theorem err_neq {t p q : TypeId} {u v : Value} {w : World} {b : Bool} (h : (binOp .eql t (.iface p u) (.iface q v)).run Tryd.prog w = .ok (.bool b) w) : (binOp .neq t (.iface p u) (.iface q v)).run Tryd.prog w = .ok (.bool (!b)) w := by
  have e1 : binOp .eql t (.iface p u) (.iface q v) = (Op.equal t (.iface p u) (.iface q v) >>= fun b => pure (.bool b)) := rfl
  have e2 : binOp .neq t (.iface p u) (.iface q v) = (Op.equal t (.iface p u) (.iface q v) >>= fun b => pure (.bool (!b))) := rfl
  rw [e1] at h
  rw [e2]
  rw [Sem.run_bind] at h ⊢
  cases hq : (Op.equal t (.iface p u) (.iface q v)).run Tryd.prog w with
  | ok c w1 =>
    rw [hq] at h
    simp only [Result.andThen_ok, Sem.run_pure, Result.ok.injEq, Value.bool.injEq] at h ⊢
    obtain ⟨rfl, rfl⟩ := h
    exact ⟨rfl, rfl⟩
  | _ => rw [hq] at h; cases h
theorem eqGuard_iface {op : BinOp} {t : TypeId} {x y : Operand} {p q : TypeId} {u v : Value} (w : World) : (eqGuard op t x y (.iface p u) (.iface q v)).run Tryd.prog w = .ok () w := by
  unfold eqGuard
  split <;> rfl

theorem reads_lists {w : World} {v : Value} {vs : List Value} {rs : List (List UInt8)} (hc : CellsL w v vs) (hl : vs.length = rs.length) (hr : ∀ p ∈ vs.zip rs, Reads w p.1 p.2) : ReadsL w v rs := by
  obtain ⟨a, c, rfl, h1, h2, h3, h4⟩ := hc
  exact ⟨a, c, vs, by rw [hl], by omega, h2, fun e => List.eq_nil_of_length_eq_zero (by rw [← hl, h3 e]; rfl), hl, h4, hr⟩
section
variable {E : Nat → Addr} {w0 w : World} {L M : List Asn} {a : Act} {K : Act → World → Prop} {Q : Exit → Act → World → Prop}
  {d : Option Tmp} {ty : TypeId} {pos : String} {aft : Array Edge} {gd : Option (Nat × Bool)} {t2 : TypeId} {x y : Operand} {i j : Nat}
theorem wp_err_op {op : BinOp} {i j : Nat} {b : Bool} (hx : a.eval x = er E i) (hy : a.eval y = er E j) (hr : (binOp op 26 (er E i) (er E j)).run Tryd.prog w = .ok (.bool b) w) (hK : K (a.put d (.bool b)) w) : (Oper.mk d (.binOp op 26 x y t2) ty pos aft gd).wp Tryd.prog a w K Q := by
  unfold Oper.wp execOp
  have hg : (eqGuard op 26 x y (er E i) (er E j)).run Tryd.prog w = .ok () w := eqGuard_iface w
  simp only [hx, hy, hg, hr, Sem.run_bind, Result.andThen_ok]
  exact hK
theorem wp_err_eq (hx : a.eval x = er E i) (hy : a.eval y = er E i) (hK : K (a.put d (.bool true)) w) : (Oper.mk d (.binOp .eql 26 x y t2) ty pos aft gd).wp Tryd.prog a w K Q := wp_err_op hx hy (err_same E i w) hK
theorem wp_err_ne (hx : a.eval x = er E i) (hy : a.eval y = er E i) (hK : K (a.put d (.bool false)) w) : (Oper.mk d (.binOp .neq 26 x y t2) ty pos aft gd).wp Tryd.prog a w K Q := wp_err_op hx hy (err_neq (err_same E i w)) hK
theorem wp_err_eqo (hE : Errs E w0) (hS : Sat w0 w L) (hx : a.eval x = er E (i + 1)) (hy : a.eval y = er E (j + 1)) (hi : i ∈ errIdx) (hj : j ∈ errIdx) (hne : i ≠ j) (hK : K (a.put d (.bool false)) w) : (Oper.mk d (.binOp .eql 26 x y t2) ty pos aft gd).wp Tryd.prog a w K Q := wp_err_op hx hy (err_other hE hS i j hi hj hne) hK
theorem wp_err_neo (hE : Errs E w0) (hS : Sat w0 w L) (hx : a.eval x = er E (i + 1)) (hy : a.eval y = er E (j + 1)) (hi : i ∈ errIdx) (hj : j ∈ errIdx) (hne : i ≠ j) (hK : K (a.put d (.bool true)) w) : (Oper.mk d (.binOp .neq 26 x y t2) ty pos aft gd).wp Tryd.prog a w K Q := wp_err_op hx hy (err_neq (err_other hE hS i j hi hj hne)) hK
end
end Go.Proofs.YtndnojbpapjdoaaDoor
