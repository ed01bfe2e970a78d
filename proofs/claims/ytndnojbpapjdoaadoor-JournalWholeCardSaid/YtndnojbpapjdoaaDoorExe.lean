/- Single operations over owned memory, worlds kept opaque: each law hands on a new world and what it holds. No program is named here. -/
import Derived.Test.YtndnojbpapjdoaaDoorOps
import Derived.Lib.Hide
set_option linter.unusedSimpArgs false
set_option linter.unusedVariables false
set_option linter.unusedSectionVars false
namespace Go.Sp
open Go.RowKit

/-- A stands among the parts L; M is the rest. -/
inductive Split : List Asn → Asn → List Asn → Prop
  | here {A : Asn} {M : List Asn} : Split (A :: M) A M
  | there {A B : Asn} {L M : List Asn} : Split L A M → Split (B :: L) A (B :: M)

theorem Split.ent {L M : List Asn} {A : Asn} (s : Split L A M) : Ent L (A :: M) := by
  induction s with
  | here => exact Ent.refl _
  | there _ ih => exact fun g hg => star_swap (star_cons hg ih)
theorem Sat.split {w0 w : World} {L M : List Asn} {A : Asn} (h : Sat w0 w L) (s : Split L A M) : Sat w0 w (A :: M) := h.ent s.ent
theorem Ent.pull {L M R : List Asn} {A : Asn} (s : Split L A M) (h : Ent M R) : Ent L (A :: R) := s.ent.trans h.cons
theorem Ent.skip {M R : List Asn} {A : Asn} (h : Ent M R) : Ent (A :: M) R := Ent.drop.trans h

section
variable {P : Program} {w0 w : World} {L M : List Asn} {a : Act} {K : Act → World → Prop} {Q : Exit → Act → World → Prop}
  {d : Option Tmp} {ty : TypeId} {pos : String} {aft : Array Edge} {gd : Option (Nat × Bool)}

/-- An operation whose guard says yes, outside a region in the order of the text. -/
theorem wpList_runG {ops : Array Oper} {rest : List Oper} {o : Oper} (hv : Txt.guardSays ops o a = some true)
    (h : ∀ K : Act → World → Prop, (∀ a w, wpList P ops Q rest a w → K a w) → o.wp P a w K Q) : wpList P ops Q (o :: rest) a w :=
  wpList_step fun K hK => by rw [if_pos (Txt.wanted_of_says hv)]; exact h K hK
theorem put_none (a : Act) (v : Value) : a.put none v = a := rfl

theorem wp_alloc {t : TypeId} {z : Value} (hS : Sat w0 w L) (hz : ∀ w, (zeroValue t).run P w = .ok z w)
    (hK : ∀ (w' : World) (b : Nat), Sat w0 w' (Blk b (.cells z.cells t) :: L) → K (a.put d (.pointer (some ⟨b, 0, none⟩))) w') : (Oper.mk d (.alloc t) ty pos aft gd).wp P a w K Q := by
  unfold Oper.wp execOp
  simp only [Instr.alloc, Sem.run_bind, hz, Result.andThen_ok, newVar, newRow, newObj]
  exact hK _ _ (hS.alloc _)

theorem wp_box {t : TypeId} {x : Operand} {v : Value} (hS : Sat w0 w L) (hx : a.eval x = v)
    (hK : ∀ (w' : World) (b : Nat), Sat w0 w' (Blk b (.cells v.cells t) :: L) → K (a.put d (.pointer (some ⟨b, 0, none⟩))) w') : (Oper.mk d (.box t x) ty pos aft gd).wp P a w K Q := by
  subst hx
  unfold Oper.wp execOp
  simp only [Instr.box, Sem.run_bind, newVar, newRow, newObj]
  exact hK _ _ (hS.alloc _)

theorem addr_add (b o j : Nat) : (⟨b, o, none⟩ : Addr).add j = ⟨b, o + j, none⟩ := by unfold Addr.add; split <;> simp_all

theorem extract_cells (cs : Array Value) (o n : Nat) (h : o + n ≤ cs.size) : ((cs.extract o (o + n)).toList).length = n := by
  simp only [Array.length_toList, Array.size_extract]; omega

theorem run_load1 {t : TypeId} {b j : Nat} {v : Value} (hag : ∀ w, (isAgg t).run P w = .ok false w) (hc : w.cell? ⟨b, j, none⟩ = some v) : (loadVar t ⟨b, j, none⟩).run P w = .ok v w := by
  simp [loadVar, hag, hc]
theorem run_loadN {t : TypeId} {ad : Addr} {n : Nat} {cs : List Value} (hag : ∀ w, (isAgg t).run P w = .ok true w) (hs : ∀ w, (sizeOf t).run P w = .ok n w) (hn : cs.length = n)
    (hc : ∀ j u, cs[j]? = some u → w.cell? (ad.add j) = some u) : (loadVar t ad).run P w = .ok (.agg cs.toArray) w := by
  have := run_loadCells_list (P := P) w ad cs hc
  rw [hn] at this
  simp [loadVar, hag, hs, this]

/-- One cell of an owned block. -/
theorem wp_load {t : TypeId} {x : Operand} {b j : Nat} {cs : Array Value} {e : TypeId} {f : Nat × Nat} {v : Value} (hS : Sat w0 w L) (hx : a.eval x = .pointer (some ⟨b, j, none⟩))
    (hp : Split L (Blk b (.cells cs e f)) M) (hv : cs[j]? = some v) (hag : ∀ w, (isAgg t).run P w = .ok false w) (hK : K (a.put d v) w) : (Oper.mk d (.load t x) ty pos aft gd).wp P a w K Q := by
  have hc : w.cell? ⟨b, j, none⟩ = some v := (cell_blk (hS.split hp).at j).trans hv
  unfold Oper.wp execOp
  simp only [hx, Instr.loadAt, Instr.sureAddr, Sem.run_bind, Sem.run_pure, Result.andThen_ok, run_load1 hag hc]
  exact hK
/-- Cells of an owned block, as one value. -/
theorem wp_loadN {t : TypeId} {x : Operand} {b j n : Nat} {cs : Array Value} {e : TypeId} {f : Nat × Nat} {v : Value} (hS : Sat w0 w L) (hx : a.eval x = .pointer (some ⟨b, j, none⟩))
    (hp : Split L (Blk b (.cells cs e f)) M) (hag : ∀ w, (isAgg t).run P w = .ok true w) (hs : ∀ w, (sizeOf t).run P w = .ok n w) (hn : j + n ≤ cs.size) (hv : .agg (cs.extract j (j + n)) = v) (hK : K (a.put d v) w) :
    (Oper.mk d (.load t x) ty pos aft gd).wp P a w K Q := by
  subst hv
  have hr := run_loadN (P := P) (w := w) (ad := ⟨b, j, none⟩) (cs := (cs.extract j (j + n)).toList) hag hs (extract_cells cs j n hn) (fun i u hu => by
    rw [addr_add, cell_blk (hS.split hp).at]
    rw [Array.getElem?_toList, Array.getElem?_extract] at hu
    split at hu
    · exact hu
    · cases hu)
  unfold Oper.wp execOp
  simp only [hx, Instr.loadAt, Instr.sureAddr, Sem.run_bind, Sem.run_pure, Result.andThen_ok, hr, Array.toArray_toList]
  exact hK

/-- Cells put into an array, from j on. -/
def setCells (cs : Array Value) (j : Nat) (vs : List Value) : Array Value := (cs.toList.take j ++ vs ++ cs.toList.drop (j + vs.length)).toArray
theorem size_setCells {cs : Array Value} {j : Nat} {vs : List Value} (h : j + vs.length ≤ cs.size) : (setCells cs j vs).size = cs.size := by
  simp [setCells]; omega
theorem get_setCells {cs : Array Value} {j : Nat} {vs : List Value} (h : j + vs.length ≤ cs.size) (i : Nat) : (setCells cs j vs)[i]? = if i < j then cs[i]? else if i < j + vs.length then vs[i - j]? else cs[i]? := by
  unfold setCells
  rw [List.getElem?_toArray, getElem?_take_append _ _ _ _ _ (by simp; omega)]
  split
  · rw [Array.getElem?_toList]
  · rw [List.getElem?_append]
    split
    · rw [if_pos (by omega)]
    · rw [if_neg (by omega), List.getElem?_drop, Array.getElem?_toList]; congr 1; omega

theorem run_store1 {b j : Nat} {cs : Array Value} {e : TypeId} {t : TypeId} {v : Value} (hb : w.heap[b]? = some (.cells cs e (0, 0))) (hj : j < cs.size) (hs : ∀ w, (sizeOf t).run P w = .ok 1 w) (h1 : v.oneCell' = true) :
    (storeVar t ⟨b, j, none⟩ v).run P w = .ok () (w.setCell ⟨b, j, none⟩ v) := by
  have hc : w.cell? ⟨b, j, none⟩ = some (cs[j]) := (cell_blk hb j).trans (Array.getElem?_eq_getElem hj)
  have hf : w.frozen? ⟨b, j, none⟩ = false := free_blk hb j
  cases v <;> simp [Value.oneCell'] at h1 <;> simp [storeVar, Value.cells, hs, storeCells, addr_add, Go.store, Sem.run, hc, hf]

theorem run_storeN {b j n : Nat} {cs : Array Value} {e : TypeId} {t : TypeId} {v : Value} {f : Nat × Nat} (hb : w.heap[b]? = some (.cells cs e f)) (hf : Soft cs.size f) (hs : ∀ w, (sizeOf t).run P w = .ok n w) (hn : v.cells.size = n) (hj : j + n ≤ cs.size) (h1 : ∀ u ∈ v.cells.toList, u.oneCell' = true) :
    (storeVar t ⟨b, j, none⟩ v).run P w = .ok () (w.setRow b (setCells cs j v.cells.toList)) := by
  have hst := run_storeCells_soft (P := P) b j e f v.cells.toList 0 cs w hb hf (by simp; omega) h1
  simp only [Nat.add_zero] at hst
  simp only [storeVar, hs, Sem.run_bind, Result.andThen_ok, hn, ne_eq, not_true_eq_false, if_false, hst]
  rfl

theorem wp_store {t : TypeId} {x y : Operand} {b j : Nat} {cs : Array Value} {e : TypeId} {v : Value} (hS : Sat w0 w L) (hx : a.eval x = .pointer (some ⟨b, j, none⟩)) (hp : Split L (Blk b (.cells cs e (0, 0))) M) (hy : a.eval y = v)
    (hs : ∀ w, (sizeOf t).run P w = .ok 1 w) (h1 : v.oneCell' = true) (hj : j < cs.size)
    (hK : ∀ w', Sat w0 w' (Blk b (.cells (cs.setIfInBounds j v) e (0, 0)) :: M) → K (a.put d undef) w') : (Oper.mk d (.store t x y) ty pos aft gd).wp P a w K Q := by
  have hr := run_store1 (P := P) (hS.split hp).at hj hs h1
  unfold Oper.wp execOp
  simp only [hx, hy, Instr.storeAt, Instr.sureAddr, Sem.run_bind, Sem.run_pure, Result.andThen_ok, hr]
  exact hK _ ((hS.split hp).store j v)
theorem wp_storeN {t : TypeId} {x y : Operand} {b j n : Nat} {cs : Array Value} {e : TypeId} {v : Value} (hS : Sat w0 w L) (hx : a.eval x = .pointer (some ⟨b, j, none⟩)) (hp : Split L (Blk b (.cells cs e (0, 0))) M) (hy : a.eval y = v)
    (hs : ∀ w, (sizeOf t).run P w = .ok n w) (hn : v.cells.size = n) (h1 : ∀ u ∈ v.cells.toList, u.oneCell' = true) (hj : j + n ≤ cs.size)
    (hK : ∀ w', Sat w0 w' (Blk b (.cells (setCells cs j v.cells.toList) e (0, 0)) :: M) → K (a.put d undef) w') : (Oper.mk d (.store t x y) ty pos aft gd).wp P a w K Q := by
  have hr := run_storeN (P := P) (hS.split hp).at (soft0 _) hs hn hj h1
  unfold Oper.wp execOp
  simp only [hx, hy, Instr.storeAt, Instr.sureAddr, Sem.run_bind, Sem.run_pure, Result.andThen_ok, hr]
  exact hK _ (hS.split hp).setRow
end
end Go.Sp
namespace Go.Sp
open Go.RowKit
/-- A text. -/
abbrev S (l : List UInt8) : Value := .string ⟨l.toArray⟩
theorem S_toList (l : List UInt8) : (⟨l.toArray⟩ : ByteArray).toList = l := by simp
theorem S_size (l : List UInt8) : (⟨l.toArray⟩ : ByteArray).size = l.length := rfl
theorem S_append (l m : List UInt8) : (⟨l.toArray⟩ : ByteArray) ++ ⟨m.toArray⟩ = ⟨(l ++ m).toArray⟩ := by
  apply ByteArray.ext
  simp
section
variable {P : Program} {w0 w : World} {L M : List Asn} {a : Act} {K : Act → World → Prop} {Q : Exit → Act → World → Prop}
  {d : Option Tmp} {ty : TypeId} {pos : String} {aft : Array Edge} {gd : Option (Nat × Bool)}

theorem wp_cat {t t2 : TypeId} {x y : Operand} {l m : List UInt8} (hx : a.eval x = S l) (hy : a.eval y = S m) (hl : l.length + m.length ≤ 4611686018427387904)
    (hK : K (a.put d (S (l ++ m))) w) : (Oper.mk d (.binOp .add t x y t2) ty pos aft gd).wp P a w K Q := by
  have h1 : ¬ ((((⟨l.toArray⟩ : ByteArray).size + (⟨m.toArray⟩ : ByteArray).size : Nat) : Int) > IntKind.i64.max) := by
    rw [S_size, S_size]; simp only [IntKind.max, IntKind.signed, IntKind.bits]; omega
  unfold Oper.wp execOp
  simp only [hx, hy, eqGuard, binOp, Op.stringOp, Sem.run_bind]
  simp only [h1, if_false]
  rw [S_append]
  exact hK
theorem wp_streq {t t2 : TypeId} {x y : Operand} {l m : List UInt8} (hx : a.eval x = S l) (hy : a.eval y = S m)
    (hK : K (a.put d (.bool (l == m))) w) : (Oper.mk d (.binOp .eql t x y t2) ty pos aft gd).wp P a w K Q := by
  unfold Oper.wp execOp
  simp only [hx, hy, eqGuard, binOp, Op.stringOp, Sem.run_bind, S_toList]
  exact hK
theorem wp_strne {t t2 : TypeId} {x y : Operand} {l m : List UInt8} (hx : a.eval x = S l) (hy : a.eval y = S m)
    (hK : K (a.put d (.bool (!(l == m)))) w) : (Oper.mk d (.binOp .neq t x y t2) ty pos aft gd).wp P a w K Q := by
  unfold Oper.wp execOp
  simp only [hx, hy, eqGuard, binOp, Op.stringOp, Sem.run_bind, S_toList]
  exact hK
theorem wp_string {t u e : TypeId} {x : Operand} {v : Value} {l : List UInt8} (hx : a.eval x = v) (h : Reads w v l) (hs : P.underlying t = some (.slice e)) (he : P.underlying e = some (.int .u8)) (hd : P.underlying u = some .string)
    (hK : K (a.put d (S l)) w) : (Oper.mk d (.convert t u x) ty pos aft gd).wp P a w K Q := wp_string_of hs he hd hx h hK
theorem run_str_slice {t : TypeId} (l : List UInt8) (lo hi : Option Value) (i j : Nat) (ht : P.underlying t = some .string) (hi' : (match hi with | some v => v = .int .i64 j | none => j = l.length)) (hlo : (match lo with | some v => v = .int .i64 i | none => i = 0)) (h1 : i ≤ j) (h2 : j ≤ l.length) :
    (Instr.sliceAt t (S l) lo hi none).run P w = .ok (S ((l.take j).drop i)) w := by
  have hx : (⟨l.toArray⟩ : ByteArray).extract i j = ⟨((l.take j).drop i).toArray⟩ := by
    apply ByteArray.ext
    rw [ByteArray.data_extract]
    apply Array.ext'
    simp [List.drop_take]
  show _ = Result.ok (Value.string ⟨((l.take j).drop i).toArray⟩) w
  rw [← hx]
  clear hx
  cases lo <;> cases hi <;> simp only at hi' hlo <;> subst hi' hlo <;>
    simp [Instr.sliceAt, Instr.slice, run_underlying ht, Instr.sliceBounds, Instr.sliceBound, asIntOf, S_size, h1, h2]
  apply ByteArray.ext
  rw [ByteArray.data_extract]
  apply Array.ext'
  simp
theorem wp_str_slice {t : TypeId} {x : Operand} {lo hi : Option Operand} {l : List UInt8} {i j : Nat} (ht : P.underlying t = some .string) (hx : a.eval x = S l) (hi' : (match hi with | some v => a.eval v = .int .i64 j | none => j = l.length))
    (hlo : (match lo with | some v => a.eval v = .int .i64 i | none => i = 0)) (h1 : i ≤ j) (h2 : j ≤ l.length) (hK : K (a.put d (S ((l.take j).drop i))) w) :
    (Oper.mk d (.slice t x lo hi none) ty pos aft gd).wp P a w K Q := by
  have hr := run_str_slice (P := P) (w := w) l (lo.map a.eval) (hi.map a.eval) i j ht (by cases hi <;> exact hi') (by cases lo <;> exact hlo) h1 h2
  unfold Oper.wp execOp
  simp only [hx, Option.map_none, Sem.run_bind, hr, Result.andThen_ok]
  exact hK
end
end Go.Sp
namespace Go.Sp
open Go.RowKit
section
variable {P : Program} {w0 w : World} {L M : List Asn} {a : Act} {K : Act → World → Prop} {Q : Exit → Act → World → Prop}
  {d : Option Tmp} {ty : TypeId} {pos : String} {aft : Array Edge} {gd : Option (Nat × Bool)}
theorem wp_strlen {t : TypeId} {x : Operand} {l : List UInt8} (hx : a.eval x = S l) (ht : ∀ w, (underlying t).run P w = .ok .string w)
    (hK : K (a.put d (.int .i64 l.length)) w) : (Oper.mk d (.call { callee := .builtin .len, args := #[x], argTypes := #[t] }) ty pos aft gd).wp P a w K Q := by
  unfold Oper.wp execOp
  simp [resolve, invoke, builtin, hx, Builtin.len_, ht, goInt, S_size]
  exact hK
end
end Go.Sp
namespace Go.Sp
open Go.RowKit
section
variable {P : Program} {w0 w : World} {L M : List Asn} {a : Act} {K : Act → World → Prop} {Q : Exit → Act → World → Prop}
  {d : Option Tmp} {ty : TypeId} {pos : String} {aft : Array Edge} {gd : Option (Nat × Bool)}
/-- A cell that lay there ahead of the call. -/
theorem wp_load_old {t : TypeId} {x : Operand} {ad : Addr} {v : Value} (hS : Sat w0 w L) (hx : a.eval x = .pointer (some ad)) (hc : w0.cell? ad = some v) (hag : ∀ w, (isAgg t).run P w = .ok false w) (hK : K (a.put d v) w) :
    (Oper.mk d (.load t x) ty pos aft gd).wp P a w K Q := by
  have hc' := (hS.cell (block_lt_of_cell hc)).trans hc
  have hr : (loadVar t ad).run P w = .ok v w := by simp [loadVar, hag, hc']
  unfold Oper.wp execOp
  simp only [hx, Instr.loadAt, Instr.sureAddr, Sem.run_bind, Sem.run_pure, Result.andThen_ok, hr]
  exact hK
/-- Cells that lay there ahead of the call, as one value. -/
theorem wp_loadN_old {t : TypeId} {x : Operand} {ad : Addr} {n : Nat} {cs : List Value} (hS : Sat w0 w L) (hx : a.eval x = .pointer (some ad)) (hc : ∀ j u, cs[j]? = some u → w0.cell? (ad.add j) = some u) (hag : ∀ w, (isAgg t).run P w = .ok true w)
    (hs : ∀ w, (sizeOf t).run P w = .ok n w) (hn : cs.length = n) (hK : K (a.put d (.agg cs.toArray)) w) : (Oper.mk d (.load t x) ty pos aft gd).wp P a w K Q := by
  have hr := run_loadN (P := P) (w := w) (ad := ad) (cs := cs) hag hs hn (fun j u hu => (hS.cell (block_lt_of_cell (hc j u hu))).trans (hc j u hu))
  unfold Oper.wp execOp
  simp only [hx, Instr.loadAt, Instr.sureAddr, Sem.run_bind, Sem.run_pure, Result.andThen_ok, hr]
  exact hK
end
end Go.Sp
namespace Go.Sp
/-- The number of a block is given a name of the prover's own. -/
theorem name0 {w0 w : World} {b : Nat} {o : Obj} {L : List Asn} (h : Sat w0 w (Blk b o :: L)) : ∃ b', b' = b ∧ Sat w0 w (Blk b' o :: L) := ⟨_, rfl, h⟩
theorem name1 {w0 w : World} {b : Nat} {o : Obj} {A : Asn} {L : List Asn} (h : Sat w0 w (A :: Blk b o :: L)) : ∃ b', b' = b ∧ Sat w0 w (A :: Blk b' o :: L) := ⟨_, rfl, h⟩
theorem name2 {w0 w : World} {b : Nat} {o : Obj} {A B : Asn} {L : List Asn} (h : Sat w0 w (A :: B :: Blk b o :: L)) : ∃ b', b' = b ∧ Sat w0 w (A :: B :: Blk b' o :: L) := ⟨_, rfl, h⟩
end Go.Sp
namespace Go.Sp
theorem reads_own {w0 w : World} {L M : List Asn} {e : TypeId} {v : Value} {l : List UInt8} (hS : Sat w0 w L) (hp : Split L (Bytes e v l) M) : Reads w v l := (hS.split hp).bytes_reads
theorem reads_own_take {w0 w : World} {L M : List Asn} {e : TypeId} {a : Option Addr} {n c m : Nat} {l : List UInt8} (hS : Sat w0 w L) (hp : Split L (Bytes e (.slice a n c) l) M) (hm : m ≤ n) : Reads w (.slice a m c) (l.take m) := (hS.split hp).bytes_reads.take hm
end Go.Sp
namespace Go.Sp
open Go.RowKit
section
variable {P : Program} {w0 w : World} {L M : List Asn} {a : Act} {K : Act → World → Prop} {Q : Exit → Act → World → Prop}
  {d : Option Tmp} {ty : TypeId} {pos : String} {aft : Array Edge} {gd : Option (Nat × Bool)}
theorem wp_strne_same {t t2 : TypeId} {x y : Operand} {l m : List UInt8} (hx : a.eval x = S l) (hy : a.eval y = S m) (h : l = m)
    (hK : K (a.put d (.bool false)) w) : (Oper.mk d (.binOp .neq t x y t2) ty pos aft gd).wp P a w K Q := by
  refine wp_strne hx hy ?_
  rw [show (!(l == m)) = false by simp [h]]
  exact hK
end
end Go.Sp
