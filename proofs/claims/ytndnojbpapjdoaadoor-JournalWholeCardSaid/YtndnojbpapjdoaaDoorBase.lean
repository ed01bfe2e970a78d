/- Bytes that may be read for good; places in owned rows; pieces brought to the front. No program is named here. -/
import Derived.Test.YtndnojbpapjdoaaDoorExh
set_option linter.unusedSimpArgs false
set_option linter.unusedVariables false
set_option linter.unusedSectionVars false
namespace Go.Sp
open Go.RowKit

/-- The cell holds v for good: it lay there ahead of all, or its block is frozen. -/
def Ever (w0 : World) (h : PH) (ad : Addr) (v : Value) : Prop := w0.cell? ad = some v ∨ ∃ b o cs t f, ad = ⟨b, o, none⟩ ∧ h b = some (true, .cells cs t f) ∧ cs[o]? = some v
/-- The slice value v holds the bytes l, for good. -/
def Ro (w0 : World) (v : Value) (l : List UInt8) : Asn := fun h =>
  ∃ a c, v = .slice a l.length c ∧ l.length ≤ c ∧ c ≤ maxLen ∧ (a = none → l = []) ∧ ∀ ad, a = some ad → ∀ j u, l[j]? = some u → Ever w0 h (ad.add j) (B u)

section
variable {w0 w : World} {L M R : List Asn} {A : Asn} {v : Value} {l : List UInt8}
theorem ever_cold {h : PH} {ad : Addr} {v : Value} (k : Ever w0 h ad v) : Ever w0 (cold h) ad v := by
  rcases k with k | ⟨b, o, cs, t, f, e, hb, hc⟩
  · exact .inl k
  · exact .inr ⟨b, o, cs, t, f, e, cold_of hb, hc⟩
theorem pers_ro (w0 : World) (v : Value) (l : List UInt8) : Pers (Ro w0 v l) := by
  rintro h ⟨a, c, e, h1, h2, h3, h4⟩
  exact ⟨a, c, e, h1, h2, h3, fun ad had j u hu => ever_cold (h4 ad had j u hu)⟩
theorem Ent.has (s : Split L A M) (hp : Pers A) : Ent L (A :: L) := by
  intro g hg
  induction s generalizing g with
  | here => exact star_dup hp hg
  | there s ih => exact star_swap (star_cons hg fun g2 hg2 => ih hp g2 hg2)
theorem Sat.has (hS : Sat w0 w L) (s : Split L A M) (hp : Pers A) : Sat w0 w (A :: L) := hS.ent (Ent.has s hp)
theorem Ent.keep (s : Split L A M) (hp : Pers A) (h : Ent L R) : Ent L (A :: R) := (Ent.has s hp).trans h.cons
theorem Sat.ro_reads (h : Sat w0 w (Ro w0 v l :: L)) : Reads w v l := by
  obtain ⟨hb, g, hg, h1, h2, hd, l1, l2, ⟨a, c, e, k1, k2, k3, k4⟩, hl⟩ := id h
  refine ⟨a, c, e, k1, k2, k3, fun ad had j u hu => ?_⟩
  rcases k4 ad had j u hu with k | ⟨b, o, cs, t, f, e', hb', hc⟩
  · exact (h.cell (block_lt_of_cell k)).trans k
  · rw [e', cell_blk (hg b _ (l1 b _ hb')).2]
    exact hc
theorem Sat.reads_ro (hS : Sat w0 w L) (s : Split L (Ro w0 v l) M) : Reads w v l := (hS.split s).ro_reads
/-- What could be read ahead of all can be read for good. -/
theorem Sat.ro_old (hS : Sat w0 w L) (hr : Reads w0 v l) : Sat w0 w (Ro w0 v l :: L) := by
  obtain ⟨a, c, e, k1, k2, k3, k4⟩ := hr
  exact (Sat.emp.2 hS).head fun g _ => ⟨a, c, e, k1, k2, k3, fun ad had j u hu => .inl (k4 ad had j u hu)⟩
theorem Sat.ro_nil (hS : Sat w0 w L) (c : Nat) (hc : c ≤ maxLen) : Sat w0 w (Ro w0 (.slice none 0 c) [] :: L) :=
  (Sat.emp.2 hS).head fun g _ => ⟨none, c, rfl, Nat.zero_le _, hc, fun _ => rfl, fun _ h => by cases h⟩
/-- Owned bytes are frozen. -/
theorem Sat.ro {e : TypeId} (hS : Sat w0 w (Bytes e v l :: L)) : Sat w0 w (Ro w0 v l :: L) := by
  obtain ⟨hl, ⟨a, rfl, h0, hn, hs⟩ | ⟨g, off, cap, cur, rfl, h1, h2, h3, h4, f, hf, hs⟩⟩ := hS.row_cases
  · have hl0 : l = [] := List.eq_nil_of_length_eq_zero h0
    subst hl0
    exact (Sat.emp.2 hs).head fun g _ => ⟨a, 0, rfl, Nat.le_refl _, Nat.zero_le _, fun _ => rfl, fun _ _ j u hu => by cases hu⟩
  · refine hs.freeze.head fun h hb => ⟨some ⟨g, off, none⟩, cap, rfl, h1, h2, (fun h => by cases h), fun ad had j u hu => .inr ?_⟩
    cases had
    refine ⟨g, off + j, cur, e, f, addr_add _ _ _, hb, h4 j (B u) ?_⟩
    simp [hu]
/-- A frozen block, read as bytes. -/
theorem ro_mk {a : Option Addr} {n c : Nat} (hn : n = l.length) (h1 : n ≤ c) (h2 : c ≤ maxLen) (h3 : a = none → l = []) {b o : Nat} {cs : Array Value} {t : TypeId} {f : Nat × Nat} (ha : ∀ ad, a = some ad → ad = ⟨b, o, none⟩) (h4 : ∀ (j : Nat) (u : UInt8), l[j]? = some u → cs[o + j]? = some (B u)) (h : PH) (hb : h b = some (true, .cells cs t f)) :
    Ro w0 (.slice a n c) l h := by
  subst hn
  refine ⟨a, c, rfl, h1, h2, h3, fun ad had j u hu => .inr ?_⟩
  rw [ha ad had]
  exact ⟨b, o + j, cs, t, f, addr_add _ _ _, hb, h4 j u hu⟩
theorem Ro.mono_take {a : Option Addr} {n c m : Nat} {h : PH} (hr : Ro w0 (.slice a n c) l h) (hm : m ≤ n) : Ro w0 (.slice a m c) (l.take m) h := by
  obtain ⟨a', c', e, k1, k2, k3, k4⟩ := hr
  cases e
  have hl : (l.take m).length = m := by rw [List.length_take]; omega
  refine ⟨a, c, by rw [hl], by omega, k2, (fun e => by rw [k3 e]; simp), fun ad had j u hu => ?_⟩
  rw [List.getElem?_take] at hu
  split at hu
  · exact k4 ad had j u hu
  · cases hu
theorem Ro.mono_sub {a a' : Option Addr} {n c m i n' c' : Nat} {h : PH} (hr : Ro w0 (.slice a n c) l h) (hs : Sub 1 a m c i a' n' c') (him : i ≤ m) (hm : m ≤ n) : Ro w0 (.slice a' n' c') ((l.take m).drop i) h := by
  obtain ⟨rfl, rfl, rfl⟩ := hs
  have hr' := hr.mono_take hm
  obtain ⟨a', c', e, k1, k2, k3, k4⟩ := hr'
  have hnl : n = l.length := by obtain ⟨_, _, e, _⟩ := hr; cases e; rfl
  simp only [Value.slice.injEq] at e
  obtain ⟨rfl, hml, rfl⟩ := e
  have hl : ((l.take m).drop i).length = m - i := by rw [List.length_drop, List.length_take]; omega
  have hlm : (l.take m).length = m := by rw [List.length_take]; omega
  refine ⟨_, _, by rw [hl], by omega, by omega, fun e => ?_, fun ad had j u hu => ?_⟩
  · have : a = none ∨ False := by
      by_cases hci : c = i
      · rw [if_pos hci] at e; exact .inl e
      · rw [if_neg hci] at e; simp at e; exact .inl e
    rcases this with e | e
    · rw [k3 e]; simp
    · exact e.elim
  · rw [List.getElem?_drop] at hu
    by_cases hci : c = i
    · have : (l.take m).length ≤ i + j := by omega
      rw [List.getElem?_eq_none this] at hu
      cases hu
    · rw [if_neg hci] at had
      obtain ⟨ad0, h0, rfl⟩ := Option.map_eq_some_iff.1 had
      have := k4 ad0 h0 (i + j) u hu
      have he : (ad0.add (i * 1)).add j = ad0.add (i + j) := by
        rw [Nat.mul_one]
        by_cases hi0 : i = 0 <;> by_cases hj0 : j = 0 <;> simp [Addr.add, hi0, hj0, Nat.add_assoc]
      rw [he]
      exact this

/-- A place in an owned row, loaded: one cell. -/
theorem row_cell {e : TypeId} {k g o n c j : Nat} {cs : List Value} {v : Value} (hS : Sat w0 w L) (hp : Split L (Row e k (.slice (some ⟨g, o, none⟩) n c) n cs) M) (hj : cs[j]? = some v) : w.cell? ⟨g, o + j, none⟩ = some v := by
  have := (hS.split hp).row_cells rfl _ rfl j v hj
  rwa [addr_add] at this
end

section
variable {P : Program} {w0 w : World} {L M : List Asn} {a : Act} {K : Act → World → Prop} {Q : Exit → Act → World → Prop}
  {d : Option Tmp} {ty : TypeId} {pos : String} {aft : Array Edge} {gd : Option (Nat × Bool)}
/-- One cell of an owned row. -/
theorem wp_row_load {t e : TypeId} {x : Operand} {g o n c k q j : Nat} {cs : List Value} {v : Value} (hS : Sat w0 w L) (hx : a.eval x = .pointer (some ⟨g, q, none⟩)) (hp : Split L (Row e k (.slice (some ⟨g, o, none⟩) n c) n cs) M) (hq : q = o + j) (hv : cs[j]? = some v)
    (hag : ∀ w, (isAgg t).run P w = .ok false w) (hK : K (a.put d v) w) : (Oper.mk d (.load t x) ty pos aft gd).wp P a w K Q := by
  subst hq
  have hc := row_cell hS hp hv
  unfold Oper.wp execOp
  simp only [hx, Instr.loadAt, Instr.sureAddr, Sem.run_bind, Sem.run_pure, Result.andThen_ok, run_load1 hag hc]
  exact hK
/-- The cells of one element of an owned row. -/
theorem wp_row_loadN {t e : TypeId} {x : Operand} {g o n c k q j : Nat} {cs vs : List Value} (hS : Sat w0 w L) (hx : a.eval x = .pointer (some ⟨g, q, none⟩)) (hp : Split L (Row e k (.slice (some ⟨g, o, none⟩) n c) n cs) M) (hq : q = o + j) (hv : ∀ (i : Nat) (u : Value), vs[i]? = some u → cs[j + i]? = some u)
    (hag : ∀ w, (isAgg t).run P w = .ok true w) (hs : ∀ w, (sizeOf t).run P w = .ok vs.length w) (hK : K (a.put d (.agg vs.toArray)) w) : (Oper.mk d (.load t x) ty pos aft gd).wp P a w K Q := by
  subst hq
  have hr := run_loadN (P := P) (w := w) (ad := ⟨g, o + j, none⟩) (cs := vs) hag hs rfl (fun i u hu => by
    rw [addr_add, Nat.add_assoc]
    exact row_cell hS hp (hv i u hu))
  unfold Oper.wp execOp
  simp only [hx, Instr.loadAt, Instr.sureAddr, Sem.run_bind, Sem.run_pure, Result.andThen_ok, hr]
  exact hK
/-- Cells put into a list, from j on. -/
def putAt (cs : List Value) (j : Nat) (vs : List Value) : List Value := cs.take j ++ vs ++ cs.drop (j + vs.length)
theorem length_putAt {cs vs : List Value} {j : Nat} (h : j + vs.length ≤ cs.length) : (putAt cs j vs).length = cs.length := by
  simp [putAt]; omega
theorem get_putAt {cs vs : List Value} {j : Nat} (h : j + vs.length ≤ cs.length) (i : Nat) : (putAt cs j vs)[i]? = if i < j then cs[i]? else if i < j + vs.length then vs[i - j]? else cs[i]? := by
  unfold putAt
  rw [getElem?_take_append _ _ _ _ _ (by omega)]
  split
  · rfl
  · rw [List.getElem?_append]
    split
    · rw [if_pos (by omega)]
    · rw [if_neg (by omega), List.getElem?_drop]; congr 1; omega
/-- A store into an owned row. -/
theorem wp_row_store {t e : TypeId} {x y : Operand} {g o n c k q j m : Nat} {cs : List Value} {v : Value} (hS : Sat w0 w L) (hx : a.eval x = .pointer (some ⟨g, q, none⟩)) (hp : Split L (Row e k (.slice (some ⟨g, o, none⟩) n c) n cs) M) (hy : a.eval y = v) (hq : q = o + j)
    (hs : ∀ w, (sizeOf t).run P w = .ok m w) (hm : v.cells.size = m) (h1 : ∀ u ∈ v.cells.toList, u.oneCell' = true) (hj : j + m ≤ cs.length)
    (hK : ∀ w', Sat w0 w' (Row e k (.slice (some ⟨g, o, none⟩) n c) n (putAt cs j v.cells.toList) :: M) → K (a.put d undef) w') : (Oper.mk d (.store t x y) ty pos aft gd).wp P a w K Q := by
  subst hq
  have hvl : v.cells.toList.length = m := by simpa using hm
  obtain ⟨hl, ⟨a', hv, hn, hcs, _⟩ | ⟨g', off, cap, cur, hv, c1, c2, c3, c4, f, hf, hb⟩⟩ := (hS.split hp).row_cases
  · cases hv
    have : cs.length = 0 := by rw [hcs]; rfl
    have hm0 : m = 0 := by omega
    have hz : v.cells.toList = [] := List.eq_nil_of_length_eq_zero (by omega)
    subst hm0
    have hr : (storeVar t ⟨g, o + j, none⟩ v).run P w = .ok () w := by
      simp [storeVar, hs, Sem.run_bind, hm, hz, storeCells]
    unfold Oper.wp execOp
    simp only [hx, hy, Instr.storeAt, Instr.sureAddr, Sem.run_bind, Sem.run_pure, Result.andThen_ok, hr]
    refine hK _ ?_
    have : putAt cs j v.cells.toList = cs := by rw [hz]; simp [putAt]
    rw [this]
    exact hS.split hp
  cases hv
  have hnk : n * k ≤ c * k := Nat.mul_le_mul_right _ c1
  have hr := run_storeN (P := P) hb.at hf (j := o + j) hs hm (by omega) h1
  unfold Oper.wp execOp
  simp only [hx, hy, Instr.storeAt, Instr.sureAddr, Sem.run_bind, Sem.run_pure, Result.andThen_ok, hr]
  refine hK _ (hb.setRow.rowF (by rw [size_setCells (by omega)]; exact hf) (by rw [length_putAt (by omega)]; exact hl) c1 c2 ?_ ?_)
  · rw [size_setCells (by omega)]; exact c3
  · intro i u hu
    rw [get_putAt (by omega)] at hu
    rw [get_setCells (by omega)]
    split at hu
    · rw [if_pos (by omega)]; exact c4 i u hu
    · rw [if_neg (by omega)]
      split at hu
      · rw [if_pos (by omega)]; rw [← hu]; congr 1; omega
      · rw [if_neg (by omega)]; exact c4 i u hu
end
end Go.Sp
