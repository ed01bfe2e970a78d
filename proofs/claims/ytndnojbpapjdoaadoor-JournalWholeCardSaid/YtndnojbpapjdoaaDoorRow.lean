/- Slices whose cells are owned: what append, make and copy make of them. No program is named here. -/
import Derived.Test.YtndnojbpapjdoaaDoorSep
import Derived.Laws.AppendOwn
import Derived.Laws.MakeOwn
set_option linter.unusedSimpArgs false
set_option linter.unusedVariables false
set_option linter.unusedSectionVars false
namespace Go.Sp
open Go.RowKit

/-- No place of the block is marked. -/
def Soft (n : Nat) (f : Nat × Nat) : Prop := ∀ i, i < n → (decide (f.1 ≤ i) && decide (i < f.2)) = false
theorem soft0 (n : Nat) : Soft n (0, 0) := fun i _ => by simp
/-- The slice value v of n elements of k cells each (element type e) owns its cells: cs. -/
def Row (e : TypeId) (k : Nat) (v : Value) (n : Nat) (cs : List Value) : Asn := fun h =>
  cs.length = n * k ∧ ((∃ a, v = .slice a 0 0 ∧ n = 0) ∨
    ∃ g off cap cur, v = .slice (some ⟨g, off, none⟩) n cap ∧ n ≤ cap ∧ cap ≤ maxLen ∧ off + cap * k ≤ cur.size ∧ (∀ j u, cs[j]? = some u → cur[off + j]? = some u) ∧ ∃ f, Soft cur.size f ∧ h g = some (false, .cells cur e f))

/-- Where an append or a copy takes its cells from: m elements, the cells 'news'. -/
structure Src (P : Program) (w : World) (t : TypeId) (k : Nat) (x : Value) (m : Nat) (news : List Value) : Prop where
  kind : ∃ d, P.underlying t = some d ∧ ((∃ e, d = .slice e) ∨ d = .string)
  len : ∀ w' : World, (Builtin.lenOf x).run P w' = .ok m w'
  cells : ∀ w' : World, w'.heap = w.heap → (Builtin.firstCells k m x).run P w' = .ok news.toArray w'
  size : news.length = m * k
  one : ∀ u ∈ news, u.oneCell' = true

section
variable {P : Program} {w0 w : World} {L : List Asn} {e : TypeId} {k : Nat} {v : Value} {n : Nat} {cs : List Value}

theorem Src.slice {t e : TypeId} (ht : P.underlying t = some (.slice e)) (a : Addr) (m c : Nat) (news : List Value) (hl : news.length = m * k) (h : ∀ j u, news[j]? = some u → w.cell? (a.add j) = some u) (h1 : ∀ u ∈ news, u.oneCell' = true) :
    Src P w t k (.slice (some a) m c) m news :=
  ⟨⟨_, ht, .inl ⟨_, rfl⟩⟩, fun _ => rfl, fun w' hw => run_firstCells_some w' k m a m c news hl (fun j u hu => by rw [← h j u hu]; simp [World.cell?, hw]), hl, h1⟩
theorem Src.nil {t e : TypeId} (ht : P.underlying t = some (.slice e)) : Src P w t k (.slice none 0 0) 0 [] :=
  ⟨⟨_, ht, .inl ⟨_, rfl⟩⟩, fun _ => rfl, fun w' _ => run_firstCells_none w' k 0 0 0, (Nat.zero_mul k).symm, (fun u hu => by cases hu)⟩
theorem Src.none {t e : TypeId} (ht : P.underlying t = some (.slice e)) (a : Option Addr) (c : Nat) : Src P w t k (.slice a 0 c) 0 [] := by
  refine ⟨⟨_, ht, .inl ⟨_, rfl⟩⟩, fun _ => rfl, fun w' _ => ?_, (Nat.zero_mul k).symm, (fun u hu => by cases hu)⟩
  cases a with
  | none => exact run_firstCells_none w' k 0 0 c
  | some a => exact run_firstCells_some w' k 0 a 0 c [] (Nat.zero_mul k).symm (fun j u hu => by cases hu)

/-- A byte as a cell. -/
abbrev B (b : UInt8) : Value := .int .u8 b.toNat
theorem Src.string {t : TypeId} (ht : P.underlying t = some .string) (s : ByteArray) : Src P w t 1 (.string s) s.size (s.data.toList.map B) := by
  refine ⟨⟨_, ht, .inr rfl⟩, fun _ => rfl, fun w' _ => ?_, (by rw [List.length_map, Nat.mul_one]; rfl), fun u hu => by obtain ⟨b, _, rfl⟩ := List.mem_map.1 hu; rfl⟩
  show Result.ok _ w' = _
  congr 1
  apply Array.ext'
  have : (s.extract 0 s.size).data = s.data := by
    rw [ByteArray.data_extract]; exact Array.extract_size
  rw [this, Array.toList_map]

theorem getElem?_take_append {α : Type} (l : List α) (news rest : List α) (o j : Nat) (h : o ≤ l.length) : (l.take o ++ news ++ rest)[j]? = if j < o then l[j]? else (news ++ rest)[j - o]? := by
  rw [List.append_assoc, List.getElem?_append]
  have : (l.take o).length = o := by simp; omega
  rw [this]
  split
  · rw [List.getElem?_take]; simp [*]
  · rfl

theorem heap_setRow_ne {w : World} {g : Nat} {cs : Array Value} (k : Nat) (h : k ≠ g) : (w.setRow g cs).heap[k]? = w.heap[k]? := by
  simp only [World.setRow, Array.getElem?_modify]; rw [if_neg (by omega)]

theorem Sat.setRow {b : Nat} {cur cs : Array Value} {t : TypeId} {f : Nat × Nat} (h : Sat w0 w (Blk b (.cells cur t f) :: L)) : Sat w0 (w.setRow b cs) (Blk b (.cells cs t f) :: L) :=
  h.upd rfl rfl rfl (by simp) (setRow_heap w b cur cs t f h.at) (fun k _ hk => heap_setRow_ne k hk)

theorem Sat.rowF {g off cap : Nat} {cur : Array Value} {f : Nat × Nat} (h : Sat w0 w (Blk g (.cells cur e f) :: L)) (hf : Soft cur.size f) (hl : cs.length = n * k) (h1 : n ≤ cap) (h2 : cap ≤ maxLen) (h3 : off + cap * k ≤ cur.size) (h4 : ∀ j u, cs[j]? = some u → cur[off + j]? = some u) :
    Sat w0 w (Row e k (.slice (some ⟨g, off, none⟩) n cap) n cs :: L) :=
  h.head fun _ hb => ⟨hl, .inr ⟨g, off, cap, cur, rfl, h1, h2, h3, h4, f, hf, hb⟩⟩
theorem Sat.row {g off cap : Nat} {cur : Array Value} (h : Sat w0 w (Blk g (.cells cur e (0, 0)) :: L)) (hl : cs.length = n * k) (h1 : n ≤ cap) (h2 : cap ≤ maxLen) (h3 : off + cap * k ≤ cur.size) (h4 : ∀ j u, cs[j]? = some u → cur[off + j]? = some u) :
    Sat w0 w (Row e k (.slice (some ⟨g, off, none⟩) n cap) n cs :: L) := h.rowF (soft0 _) hl h1 h2 h3 h4
theorem Sat.row_nil (h : Sat w0 w L) (e : TypeId) (k : Nat) (a : Option Addr) : Sat w0 w (Row e k (.slice a 0 0) 0 [] :: L) :=
  (Sat.emp.2 h).head fun _ _ => ⟨by simp, .inl ⟨a, rfl, rfl⟩⟩

theorem Sat.row_cases (h : Sat w0 w (Row e k v n cs :: L)) : cs.length = n * k ∧ ((∃ a, v = .slice a 0 0 ∧ n = 0 ∧ cs = [] ∧ Sat w0 w L) ∨
    ∃ g off cap cur, v = .slice (some ⟨g, off, none⟩) n cap ∧ n ≤ cap ∧ cap ≤ maxLen ∧ off + cap * k ≤ cur.size ∧ (∀ j u, cs[j]? = some u → cur[off + j]? = some u) ∧ ∃ f, Soft cur.size f ∧ Sat w0 w (Blk g (.cells cur e f) :: L)) := by
  obtain ⟨hb, g, hg, h1, h2, hd, l1, l2, ⟨hl, ha⟩, hs⟩ := h
  refine ⟨hl, ?_⟩
  rcases ha with ⟨a, rfl, rfl⟩ | ⟨q, off, cap, cur, rfl, c1, c2, c3, c4, f, hf, hq⟩
  · exact .inl ⟨a, rfl, rfl, List.eq_nil_of_length_eq_zero (by simpa using hl), hb, g, hg, star_mono hs l2⟩
  · exact .inr ⟨q, off, cap, cur, rfl, c1, c2, c3, c4, f, hf, hb, g, hg, h1, h2, hd, l1, l2, hq, hs⟩

/-- The row is read as what it is. -/
theorem Sat.row_len (h : Sat w0 w (Row e k v n cs :: L)) : ∃ a c, v = .slice a n c ∧ cs.length = n * k ∧ n ≤ c ∧ c ≤ maxLen := by
  obtain ⟨hl, ⟨a, rfl, rfl, rfl, _⟩ | ⟨g, off, cap, cur, rfl, c1, c2, _⟩⟩ := h.row_cases
  · exact ⟨a, 0, rfl, hl, Nat.le_refl _, by unfold maxLen; omega⟩
  · exact ⟨_, cap, rfl, hl, c1, c2⟩
/-- A row's value, its length kept from the walk. -/
theorem Sat.row_val (h : Sat w0 w (Row e k v n cs :: L)) : ∃ a n' c, v = .slice a n' c ∧ Hid (n' = n) := by
  obtain ⟨a, c, rfl, _⟩ := h.row_len
  exact ⟨a, n, c, rfl, rfl⟩
theorem Sat.row_cells (h : Sat w0 w (Row e k v n cs :: L)) {a : Option Addr} {m c : Nat} (hv : v = .slice a m c) : ∀ ad, a = some ad → ∀ j u, cs[j]? = some u → w.cell? (ad.add j) = some u := by
  intro ad had j u hu
  obtain ⟨hl, ⟨a', rfl, rfl, rfl, _⟩ | ⟨g, off, cap, cur, rfl, c1, c2, c3, c4, f, hf, hs⟩⟩ := h.row_cases
  · simp at hu
  · cases hv; cases had
    have hadd : (⟨g, off, none⟩ : Addr).add j = ⟨g, off + j, none⟩ := by unfold Addr.add; split <;> simp_all
    rw [hadd, cell_blk hs.at]
    exact c4 j u hu

theorem run_storeCells_soft (g o : Nat) (t : TypeId) (f : Nat × Nat) : ∀ (vs : List Value) (i : Nat) (cur : Array Value) (w : World), w.heap[g]? = some (.cells cur t f) → Soft cur.size f → o + i + vs.length ≤ cur.size → (∀ v ∈ vs, v.oneCell' = true) →
    (storeCells ⟨g, o, none⟩ vs i).run P w = .ok () (w.setRow g (cur.toList.take (o + i) ++ vs ++ cur.toList.drop (o + i + vs.length)).toArray)
  | [], i, cur, w, hg, _, _, _ => by
    simp only [storeCells, List.append_nil, List.length_nil, Nat.add_zero, List.take_append_drop, Array.toArray_toList]
    rw [setRow_self w g cur t f hg]
    rfl
  | v :: rest, i, cur, w, hg, hf, hl, h1 => by
    have hi : o + i < cur.size := by simp at hl; omega
    have hadd : (⟨g, o, none⟩ : Addr).add i = ⟨g, o + i, none⟩ := by unfold Addr.add; split <;> simp_all
    have hcell : w.cell? ⟨g, o + i, none⟩ = some cur[o + i] := by simp [World.cell?, hg, hi]
    have hfro : w.frozen? ⟨g, o + i, none⟩ = false := by
      simp only [World.frozen?, hg]
      exact hf _ hi
    have hst : (store ((⟨g, o, none⟩ : Addr).add i) v).run P w = .ok () (w.setRow g (cur.setIfInBounds (o + i) v)) := by
      rw [hadd, run_store P w _ v _ (h1 v (by simp)), hcell]
      simp [hfro, setCell_eq_setRow w g (o + i) cur t f v hg]
    have ih := run_storeCells_soft g o t f rest (i + 1) (cur.setIfInBounds (o + i) v) (w.setRow g (cur.setIfInBounds (o + i) v)) (setRow_heap w g cur _ t _ hg) (by simpa using hf) (by simp at hl ⊢; omega) (fun u hu => h1 u (by simp [hu]))
    simp only [storeCells, Sem.run_bind, hst, Result.andThen_ok, ih, setRow_setRow]
    congr 3
    have h2 := list_seg_step cur.toList (o + i) v rest (by simp at hl ⊢; omega)
    simpa [Array.toList_setIfInBounds, Nat.add_assoc] using h2

theorem run_append_row (t ty : TypeId) (t2 : TypeId) (i : TypeInfo) (z : Value) (bytes : Nat) (ht : P.underlying t = some (.slice e)) (hi : P.info? e = some i) (hz : i.zero = some z)
    (hk : i.size = k) (hby : i.bytes = bytes) (hzs : z.cells.size = k) {x : Value} {m : Nat} {news : List Value} (hsrc : Src P w t2 k x m news)
    (hlen : n + m ≤ maxLen) (hbytes : (n + m) * bytes ≤ 140737488355328) (h : Sat w0 w (Row e k v n cs :: L)) :
    ∃ v' w', (Builtin.append_ #[t, t2] ty #[v, x]).run P w = .ok v' w' ∧ Sat w0 w' (Row e k v' (n + m) (cs ++ news) :: L) := by
  subst hk hby
  obtain ⟨d, hd, hdi⟩ := hsrc.kind
  have hlo := hsrc.len
  have hfc := hsrc.cells w rfl
  have hfd := hsrc.cells w.drew rfl
  have hsz : (cs ++ news).length = (n + m) * i.size := by rw [List.length_append, Nat.add_mul, hsrc.size, h.row_cases.1]
  have hsmall : n + m ≤ 9223372036854775807 := by simp only [maxLen] at hlen; omega
  -- a new array is made
  have grown : ∀ (old : Nat) (L' : List Asn), old < n + m → Sat w0 w L' → Sat w0 (w.drew.alloc (.cells (cs.toArray ++ news.toArray ++ Builtin.zeroCells z.cells (grownCap w (n + m) old e - (n + m))) e))
        (Row e i.size (.slice (some ⟨w.heap.size, 0, none⟩) (n + m) (grownCap w (n + m) old e)) (n + m) (cs ++ news) :: L') := by
    intro old L' ho hs
    have hge := grownCap_ge w (n + m) old e
    have hcm : grownCap w (n + m) old e ≤ maxLen := grownCap_le_maxLen w (n + m) old e hlen
    refine (hs.drew.alloc _).row hsz hge hcm ?_ ?_
    · simp only [Array.size_append, List.size_toArray, size_zeroCells, hzs, ← List.length_append, hsz, ← Nat.add_mul]
      rw [Nat.zero_add]
      exact Nat.mul_le_mul_right _ (by omega)
    · intro j u hu
      rw [Nat.zero_add, ← Array.getElem?_toList, Array.toList_append, Array.toList_append, List.getElem?_append_left]
      · exact hu
      · have := (List.getElem?_eq_some_iff.1 hu).1
        simpa using this
  obtain ⟨hl, ⟨a, rfl, rfl, rfl, hs⟩ | ⟨g, off, cap, cur, rfl, c1, c2, c3, c4, f, hf, hs⟩⟩ := h.row_cases
  · by_cases hm : m = 0
    · subst hm
      have hn : news = [] := List.eq_nil_of_length_eq_zero (by simpa using hsrc.size)
      subst hn
      refine ⟨.slice a 0 0, w, ?_, hs.row_nil e i.size a⟩
      (rcases hdi with ⟨e', rfl⟩ | rfl) <;> cases a <;> simp [Builtin.append_, run_underlying ht, run_underlying hd, sizeOf, typeInfo, hi, hlo, hfc, storeCells]
    · have hfit : ¬ (281474976710656 < Builtin.nextslicecap m 0 * i.bytes) := by
        have := growslice_fits (need := m) (old := 0) (bytes := i.bytes) (by omega) (by simpa using hbytes); omega
      have hold : (Builtin.firstCells i.size 0 (.slice a 0 0)).run P w.drew = .ok #[] w.drew := by
        cases a with
        | none => exact run_firstCells_none _ _ _ _ _
        | some a => exact run_firstCells_some w.drew i.size 0 a 0 0 [] (by simp) (fun j u hu => by cases hu)
      have hmm : ¬ (9223372036854775807 < (m : Int)) := by omega
      have hgr := grown 0 L (by omega) hs
      simp only [Nat.zero_add, List.nil_append] at hgr ⊢
      refine ⟨_, _, ?_, hgr⟩
      (rcases hdi with ⟨e', rfl⟩ | rfl) <;> simp [Builtin.append_, run_underlying ht, run_underlying hd, sizeOf, typeInfo, zeroValue, hi, hz, hlo, hm, hmm, hfit, Question.forced, hold, hfd, newRow, grownCap]
  · by_cases hroom : n + m ≤ cap
    · have hin : off + n * i.size + news.length ≤ cur.size := by
        rw [hsrc.size, Nat.add_assoc, ← Nat.add_mul]
        have := Nat.mul_le_mul_right i.size hroom
        omega
      have hst := run_storeCells_soft (P := P) g (off + n * i.size) e f news 0 cur w hs.at hf (by simpa using hin) hsrc.one
      have hadd : (⟨g, off, none⟩ : Addr).add (n * i.size) = ⟨g, off + n * i.size, none⟩ := by unfold Addr.add; split <;> simp_all
      simp only [Nat.add_zero] at hst
      refine ⟨.slice (some ⟨g, off, none⟩) (n + m) cap, _, ?_, (hs.setRow (cs := (cur.toList.take (off + n * i.size) ++ news ++ cur.toList.drop (off + n * i.size + news.length)).toArray)).rowF (by rw [show (cur.toList.take (off + n * i.size) ++ news ++ cur.toList.drop (off + n * i.size + news.length)).toArray.size = cur.size by simp only [List.size_toArray, List.length_append, List.length_take, List.length_drop, Array.length_toList]; omega]; exact hf) hsz hroom c2 ?_ ?_⟩
      · (rcases hdi with ⟨e', rfl⟩ | rfl) <;> simp [Builtin.append_, run_underlying ht, run_underlying hd, sizeOf, typeInfo, hi, hlo, hroom, hfc, hadd, hst]
      · simp only [List.size_toArray, List.length_append, List.length_take, List.length_drop, Array.length_toList]
        omega
      · intro j u hu
        simp only [List.getElem?_toArray]
        rw [getElem?_take_append _ _ _ _ _ (by simp; omega)]
        rw [List.getElem?_append] at hu
        split at hu
        · rename_i hj
          have := c4 j u hu
          rw [if_pos (by omega), Array.getElem?_toList]; exact this
        · rename_i hj
          have hjn := (List.getElem?_eq_some_iff.1 hu).1
          rw [if_neg (by omega), List.getElem?_append_left (by omega)]
          rw [← hu]; congr 1; omega
    · have hold : (Builtin.firstCells i.size n (.slice (some ⟨g, off, none⟩) n cap)).run P w.drew = .ok cs.toArray w.drew :=
        run_firstCells_some w.drew i.size n _ n cap cs hl (fun j u hu => h.row_cells rfl _ rfl j u hu)
      have hfit : ¬ (281474976710656 < Builtin.nextslicecap (n + m) cap * i.bytes) := by
        have := growslice_fits (need := n + m) (old := cap) (bytes := i.bytes) (by omega) hbytes; omega
      have hmm : ¬ (9223372036854775807 < (n : Int) + (m : Int)) := by omega
      have hgr := grown cap L (by omega) hs.drop
      refine ⟨_, _, ?_, hgr⟩
      (rcases hdi with ⟨e', rfl⟩ | rfl) <;>
      · simp [Builtin.append_, run_underlying ht, run_underlying hd, sizeOf, typeInfo, zeroValue, hi, hz, hlo, hroom, hmm, hfit, Question.forced, hold, hfd, newRow, grownCap]
        congr 2
        apply Array.ext'
        simp [List.append_assoc]

end
end Go.Sp
