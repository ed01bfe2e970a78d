/- The laws of single operations over owned memory: what the walks use. No program is named here. -/
import Derived.Test.YtndnojbpapjdoaaDoorRow
import Derived.Test.YtndnojbpapjdoaaDoorTxt
import Derived.Laws.BytesString
set_option linter.unusedSimpArgs false
set_option linter.unusedVariables false
set_option linter.unusedSectionVars false
namespace Go.Sp
open Go.RowKit

section
variable {P : Program} {w0 w : World} {L : List Asn} {e : TypeId} {k : Nat} {v : Value} {n : Nat} {cs : List Value}
  {o : Oper} {a : Act} {K : Act → World → Prop} {Q : Exit → Act → World → Prop}

/-- A slice type: its elements' type, their cells and bytes. -/
def SliceT (P : Program) (t e : TypeId) (k bytes : Nat) : Prop := P.underlying t = some (.slice e) ∧ ∃ i z, P.info? e = some i ∧ i.zero = some z ∧ i.size = k ∧ i.bytes = bytes ∧ z.cells.size = k
theorem SliceT.mk {t e : TypeId} {bytes : Nat} {z : Value} (ht : P.underlying t = some (.slice e)) (h : (P.info? e).map (fun i => (i.zero, i.size, i.bytes)) = some (some z, k, bytes)) (hz : z.cells.size = k) : SliceT P t e k bytes := by
  obtain ⟨i, hi, h0, h1, h2⟩ := info_parts h
  exact ⟨ht, i, z, hi, h0, h1, h2, hz⟩

theorem wp_append_row {d : Option Tmp} {s x : Operand} {t t2 ty : TypeId} {pos : String} {aft : Array Edge} {gd : Option (Nat × Bool)} {bytes : Nat} {xv : Value} {m : Nat} {news : List Value}
    (hT : SliceT P t e k bytes) (h : Sat w0 w (Row e k v n cs :: L)) (hv : a.eval s = v) (hx : a.eval x = xv) (hsrc : Src P w t2 k xv m news) (hlen : n + m ≤ maxLen) (hbytes : (n + m) * bytes ≤ 140737488355328)
    (hK : ∀ v' w', Sat w0 w' (Row e k v' (n + m) (cs ++ news) :: L) → K (a.put d v') w') : (Oper.mk d (.call { callee := .builtin .append, args := #[s, x], argTypes := #[t, t2] }) ty pos aft gd).wp P a w K Q := by
  obtain ⟨ht, i, z, hi, hz, hk, hby, hzs⟩ := hT
  obtain ⟨v', w', hr, hs⟩ := run_append_row t ty t2 i z bytes ht hi hz hk hby hzs hsrc hlen hbytes h
  unfold Oper.wp execOp
  simp only [resolve, invoke, builtin, Sem.run_bind, Sem.run_pure, Result.andThen_ok, List.map_toArray, List.map_cons, List.map_nil, hv, hx, hr]
  exact hK v' w' hs

theorem txt_append {ops : Array Oper} {rest : List Oper} {d : Option Tmp} {s x : Operand} {t t2 ty : TypeId} {pos : String} {aft : Array Edge} {bytes : Nat} {xv : Value} {m : Nat} {news : List Value}
    (hT : SliceT P t e k bytes) (h : Sat w0 w (Row e k v n cs :: L)) (hv : a.eval s = v) (hx : a.eval x = xv) (hsrc : Src P w t2 k xv m news) (hlen : n + m ≤ maxLen) (hbytes : (n + m) * bytes ≤ 140737488355328)
    (hK : ∀ v' w', Sat w0 w' (Row e k v' (n + m) (cs ++ news) :: L) → Txt.wpTxt P ops Q rest (a.put d v') w') : Txt.wpTxt P ops Q (Oper.mk d (.call { callee := .builtin .append, args := #[s, x], argTypes := #[t, t2] }) ty pos aft none :: rest) a w :=
  Txt.wpTxt_plain rfl rfl fun _ hh => wp_append_row hT h hv hx hsrc hlen hbytes fun v' w' hs => hh _ _ (hK v' w' hs)
theorem list_append {ops : Array Oper} {rest : List Oper} {d : Option Tmp} {s x : Operand} {t t2 ty : TypeId} {pos : String} {aft : Array Edge} {bytes : Nat} {xv : Value} {m : Nat} {news : List Value}
    (hT : SliceT P t e k bytes) (h : Sat w0 w (Row e k v n cs :: L)) (hv : a.eval s = v) (hx : a.eval x = xv) (hsrc : Src P w t2 k xv m news) (hlen : n + m ≤ maxLen) (hbytes : (n + m) * bytes ≤ 140737488355328)
    (hK : ∀ v' w', Sat w0 w' (Row e k v' (n + m) (cs ++ news) :: L) → wpList P ops Q rest (a.put d v') w') : wpList P ops Q (Oper.mk d (.call { callee := .builtin .append, args := #[s, x], argTypes := #[t, t2] }) ty pos aft none :: rest) a w :=
  wpList_plain rfl fun _ hh => wp_append_row hT h hv hx hsrc hlen hbytes fun v' w' hs => hh _ _ (hK v' w' hs)
end

/-- A list of bytes that a slice owns. -/
def Bytes (e : TypeId) (v : Value) (l : List UInt8) : Asn := Row e 1 v l.length (l.map B)

/-- Bytes that may be read. -/
def Reads (w : World) (v : Value) (l : List UInt8) : Prop :=
  ∃ a c, v = .slice a l.length c ∧ l.length ≤ c ∧ c ≤ maxLen ∧ (a = none → l = []) ∧ ∀ ad, a = some ad → ∀ j u, l[j]? = some u → w.cell? (ad.add j) = some (B u)

section
variable {P : Program} {w0 w w' : World} {L : List Asn} {e : TypeId} {v : Value} {l : List UInt8}
theorem Sat.bytes_reads (h : Sat w0 w (Bytes e v l :: L)) : Reads w v l := by
  obtain ⟨a, c, rfl, hl, h1, h2⟩ := h.row_len
  refine ⟨a, c, rfl, h1, h2, fun ha => ?_, fun ad had j u hu => h.row_cells rfl ad had j (B u) (by simp [hu])⟩
  obtain ⟨_, ⟨a', e, hn, hcs, _⟩ | ⟨g, off, cap, cur, e, _⟩⟩ := h.row_cases
  · exact List.eq_nil_of_length_eq_zero hn
  · subst ha; cases e
/-- What is read in a world is read in every world with the same cells. -/
theorem Reads.heap (h : Reads w v l) (hw : w'.heap = w.heap) : Reads w' v l := by
  obtain ⟨a, c, rfl, h1, h2, h3, h4⟩ := h
  exact ⟨a, c, rfl, h1, h2, h3, fun ad had j u hu => by rw [← h4 ad had j u hu]; simp [World.cell?, hw]⟩
/-- A new block turns nothing that is read. -/
theorem Reads.sat_alloc (h : Reads w v l) (o : Obj) : Reads (w.alloc o) v l := by
  obtain ⟨a, c, rfl, h1, h2, h3, h4⟩ := h
  refine ⟨a, c, rfl, h1, h2, h3, fun ad had j u hu => ?_⟩
  have hc := h4 ad had j u hu
  have hlt := block_lt_of_cell hc
  have : (w.alloc o).heap[(ad.add j).block]? = w.heap[(ad.add j).block]? := Below.heap_alloc _ _ _ hlt
  rw [← hc]; simp [World.cell?, this]
/-- A beginning of bytes, as an append takes it. -/
theorem Src.reads {t e : TypeId} (ht : P.underlying t = some (.slice e)) {a : Option Addr} {n c : Nat} (h : Reads w' (.slice a n c) l) (hw : w.heap = w'.heap) (m c' : Nat) (hm : m ≤ l.length) : Src P w t 1 (.slice a m c') m ((l.take m).map B) := by
  replace h := h.heap hw
  obtain ⟨a', c0, e, h1, h2, h3, h4⟩ := h
  cases e
  cases a with
  | none =>
    obtain rfl := h3 rfl
    obtain rfl : m = 0 := by simpa using hm
    exact Src.none ht Option.none c'
  | some ad =>
    refine Src.slice ht ad m c' _ (by simp; omega) (fun j u hu => ?_) (fun u hu => by obtain ⟨b, _, rfl⟩ := List.mem_map.1 hu; rfl)
    rw [List.getElem?_map, List.getElem?_take] at hu
    split at hu
    · cases hl : l[j]? with
      | none => rw [hl] at hu; cases hu
      | some b => rw [hl] at hu; cases hu; exact h4 ad rfl j b hl
    · cases hu
end

/-- What a slice expression with a lower bound gives. -/
structure Sub (k : Nat) (a : Option Addr) (n c i : Nat) (a' : Option Addr) (n' c' : Nat) : Prop where
  len : n' = n - i
  cap : c' = c - i
  addr : a' = if c = i then a else a.map (·.add (i * k))

theorem Reads.sub {w : World} {a a' : Option Addr} {n c i n' c' : Nat} {l : List UInt8} (h : Reads w (.slice a n c) l) (hsub : Sub 1 a n c i a' n' c') (hi : i ≤ n) : Reads w (.slice a' n' c') (l.drop i) := by
  obtain ⟨rfl, rfl, hs⟩ := hsub
  obtain ⟨a0, c0, e, h1, h2, h3, h4⟩ := h
  cases e
  refine ⟨a', c - i, by simp, by simp; omega, by omega, ?_, ?_⟩
  · intro ha
    subst ha
    split at hs
    · have := h3 hs.symm; simp [this]
    · cases a with
      | none => simp [h3 rfl]
      | some x => cases hs
  · intro ad had j u hu
    rw [List.getElem?_drop] at hu
    have hlt : i + j < l.length := (List.getElem?_eq_some_iff.1 hu).1
    subst had
    rw [if_neg (by omega)] at hs
    cases a with
    | none => cases hs
    | some x =>
      cases hs
      rw [← h4 x rfl (i + j) u hu]
      congr 1
      unfold Addr.add
      simp only [Nat.mul_one]
      by_cases hi0 : i = 0
      · subst hi0; simp
      · by_cases hj0 : j = 0
        · subst hj0; simp [hi0]
        · simp [hi0, hj0, Nat.add_assoc]
theorem Reads.take {w : World} {a : Option Addr} {n c m : Nat} {l : List UInt8} (h : Reads w (.slice a n c) l) (hm : m ≤ n) : Reads w (.slice a m c) (l.take m) := by
  obtain ⟨a0, c0, e, h1, h2, h3, h4⟩ := h
  cases e
  have hl : (l.take m).length = m := by simp; omega
  refine ⟨a, c, by rw [hl], by rw [hl]; omega, h2, fun ha => by simp [h3 ha], fun ad had j u hu => h4 ad had j u ?_⟩
  rw [List.getElem?_take] at hu
  split at hu
  · exact hu
  · cases hu

section
variable {P : Program} {w0 w : World} {L : List Asn} {e : TypeId} {k : Nat} {n c : Nat}
  {a : Act} {K : Act → World → Prop} {Q : Exit → Act → World → Prop} {d : Option Tmp} {t ty : TypeId} {pos : String} {aft : Array Edge} {gd : Option (Nat × Bool)}
theorem wp_slice_lo {x lo : Operand} {bytes : Nat} {ad : Option Addr} {q : IntKind} {i : Nat} (hT : SliceT P t e k bytes) (hx : a.eval x = .slice ad n c) (hl : a.eval lo = .int q i) (hi : i ≤ n)
    (hK : ∀ a' n' c', Sub k ad n c i a' n' c' → K (a.put d (.slice a' n' c')) w) : (Oper.mk d (.slice t x (some lo) none none) ty pos aft gd).wp P a w K Q := by
  obtain ⟨ht, inf, z, hinf, hz, hk, hby, hzs⟩ := hT
  unfold Oper.wp execOp
  have hr : (Instr.sliceAt t (.slice ad n c) (some (.int q i)) none none).run P w = .ok (.slice (if c = i then ad else ad.map (·.add (i * k))) (n - i) (c - i)) w := by
    subst hk
    simp [Instr.sliceAt, Instr.slice, run_underlying ht, Instr.sliceBounds, Instr.sliceBound, asIntOf, Nat.not_lt.2 hi, sizeOf, typeInfo, hinf]
  simp only [Option.map_some, Option.map_none, hx, hl, Sem.run_bind, hr, Result.andThen_ok]
  exact hK _ _ _ ⟨rfl, rfl, rfl⟩
end

section
variable {P : Program} {w : World} {e : TypeId} {a : Act} {K : Act → World → Prop} {Q : Exit → Act → World → Prop} {d : Option Tmp} {t u ty : TypeId} {pos : String} {aft : Array Edge} {gd : Option (Nat × Bool)} {l : List UInt8}

theorem run_loadCells_bytes (ad : Addr) (l : List UInt8) (h : ∀ j u, l[j]? = some u → w.cell? (ad.add j) = some (B u)) : (loadCells ad l.length).run P w = .ok (l.map B).toArray w := by
  have := run_loadCells_list (P := P) w ad (l.map B) (fun j v hv => by
    rw [List.getElem?_map] at hv
    cases hl : l[j]? with
    | none => rw [hl] at hv; cases hv
    | some b => rw [hl] at hv; cases hv; exact h j b hl)
  rw [List.length_map] at this
  exact this

theorem fold_bytes : ∀ (l : List UInt8) (s : ByteArray), (l.map fun b => (b.toNat : Int)).foldl (fun r n => r.push (UInt8.ofNat n.toNat)) s = ⟨s.data ++ l.toArray⟩
  | [], s => by simp
  | b :: l, s => by
    simp only [List.map_cons, List.foldl_cons, Int.toNat_natCast, UInt8.ofNat_toNat]
    rw [fold_bytes l]
    simp [ByteArray.push]

theorem run_string_of (hs : P.underlying t = some (.slice e)) (he : P.underlying e = some (.int .u8)) (hd : P.underlying u = some .string) {v : Value} (h : Reads w v l) : (convert t u v).run P w = .ok (.string ⟨l.toArray⟩) w := by
  obtain ⟨a, c, rfl, h1, h2, h3, h4⟩ := h
  rw [run_convert_bytes_string w t u e a _ c hs he hd]
  cases a with
  | none => obtain rfl := h3 rfl; rfl
  | some ad =>
    have hl := run_loadCells_bytes (P := P) ad l (h4 ad rfl)
    rw [run_bytesToString w ad l.length c (l.map fun b => (b.toNat : Int)) (by rw [hl, List.map_map]; rfl), fold_bytes]
    simp

/-- string(b). -/
theorem wp_string_of {x : Operand} {v : Value} (hs : P.underlying t = some (.slice e)) (he : P.underlying e = some (.int .u8)) (hd : P.underlying u = some .string) (hx : a.eval x = v) (h : Reads w v l)
    (hK : K (a.put d (.string ⟨l.toArray⟩)) w) : (Oper.mk d (.convert t u x) ty pos aft gd).wp P a w K Q := by
  unfold Oper.wp execOp
  simp only [hx, Sem.run_bind, run_string_of hs he hd h, Result.andThen_ok]
  exact hK
end

end Go.Sp
