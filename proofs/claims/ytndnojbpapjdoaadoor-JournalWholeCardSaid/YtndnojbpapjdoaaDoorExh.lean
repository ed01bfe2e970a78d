/- What is held in a region that draws its order; literals of slices; places in slices. No program is named here. -/
import Derived.Test.YtndnojbpapjdoaaDoorExe
import Derived.Test.YtndnojbpapjdoaaDoorTxh
set_option linter.unusedSimpArgs false
set_option linter.unusedVariables false
set_option linter.unusedSectionVars false
namespace Go.Sp
open Go.RowKit Go.Txh
section
variable {P : Program} {w0 w : World} {L M : List Asn} {a : Act} {K : Act → World → Prop} {Q : Exit → Act → World → Prop}
  {d : Option Tmp} {ty : TypeId} {pos : String} {aft : Array Edge} {gd : Option (Nat × Bool)} {I : World → Prop}

theorem cell_of_split {b j : Nat} {cs : Array Value} {e : TypeId} {f : Nat × Nat} {v : Value} (hS : Sat w0 w L) (hp : Split L (Blk b (.cells cs e f)) M) (hv : cs[j]? = some v) : w.cell? ⟨b, j, none⟩ = some v :=
  (cell_blk (hS.split hp).at j).trans hv
theorem fixed_load {t : TypeId} {x : Operand} {p : Addr} {v : Value} (hx : a.eval x = .pointer (some p)) (hag : ∀ w, (isAgg t).run P w = .ok false w) (hI : ∀ w, I w → w.cell? p = some v) :
    Fixed P Q I (Oper.mk d (.load t x) ty pos aft gd) a v := by
  intro a' ha' K w hw hK
  have hx' : a'.eval x = .pointer (some p) := (ha' x (by simp [Op.operands])).trans hx
  have hr : (loadVar t p).run P w = .ok v w := by simp [loadVar, hag, hI w hw]
  unfold Oper.wp execOp
  simp only [hx', Instr.loadAt, Instr.sureAddr, Sem.run_bind, Sem.run_pure, Result.andThen_ok, hr]
  exact hK
/-- A call that gives v and turns nothing, wherever I holds. -/
theorem fixed_call {f : FuncId} {args : Array Operand} {at_ : Array TypeId} {vs : Array Value} {v : Value} (hargs : args.map a.eval = vs) (hf : ∀ args w, (callFunc f args).run P w = .ok (.enter f args) w)
    (hI : ∀ w, I w → Calls P f vs w fun r w' => r = .returned v ∧ w = w') :
    Fixed P Q I (Oper.mk d (.call { callee := .value (.func f), args := args, argTypes := at_ }) ty pos aft gd) a v := by
  intro a' ha' K w hw hK
  have hargs' : args.map a'.eval = vs := by
    rw [← hargs]
    apply Array.map_congr_left
    intro x hx
    exact ha' x (by simp [Op.operands, Call.operands, hx])
  unfold Oper.wp execOp
  simp [go_sem, resolve, invoke, Deferred.ofValue, hargs', hf, Act.eval]
  refine Calls.mono (hI w hw) ?_
  rintro r w' ⟨rfl, rfl⟩
  exact hK

/-- A place in a slice that begins in a block. -/
theorem wp_index_slice {t e : TypeId} {x i : Operand} {b o n c sz j : Nat} {q : IntKind} {iv : Int} (hx : a.eval x = .slice (some ⟨b, o, none⟩) n c) (hi : a.eval i = .int q iv) (ht : ∀ w, (underlying t).run P w = .ok (.slice e) w) (hs : ∀ w, (sizeOf e).run P w = .ok sz w)
    (h0 : 0 ≤ iv) (h1 : iv < (n : Int)) (hj : o + iv.toNat * sz = j) (hK : K (a.put d (.pointer (some ⟨b, j, none⟩))) w) : (Oper.mk d (.indexAddr t x i) ty pos aft gd).wp P a w K Q := by
  subst hj
  unfold Oper.wp execOp
  have hr : (Instr.indexAt t (.slice (some ⟨b, o, none⟩) n c) (.int q iv)).run P w = .ok (.pointer (some ⟨b, o + iv.toNat * sz, none⟩)) w := by
    simp [Instr.indexAt, asIntOf, ht, hs, h0, h1, addr_add]
  simp only [hx, hi, Sem.run_bind, hr, Result.andThen_ok]
  exact hK
/-- A place in a slice, whatever it begins with. -/
theorem wp_index_any {t e : TypeId} {x i : Operand} {ad : Addr} {n c sz j : Nat} {q : IntKind} {iv : Int} (hx : a.eval x = .slice (some ad) n c) (hi : a.eval i = .int q iv) (ht : ∀ w, (underlying t).run P w = .ok (.slice e) w) (hs : ∀ w, (sizeOf e).run P w = .ok sz w)
    (h0 : 0 ≤ iv) (h1 : iv < (n : Int)) (hj : iv.toNat * sz = j) (hK : K (a.put d (.pointer (some (ad.add j)))) w) : (Oper.mk d (.indexAddr t x i) ty pos aft gd).wp P a w K Q := by
  subst hj
  unfold Oper.wp execOp
  have hr : (Instr.indexAt t (.slice (some ad) n c) (.int q iv)).run P w = .ok (.pointer (some (ad.add (iv.toNat * sz)))) w := by
    simp [Instr.indexAt, asIntOf, ht, hs, h0, h1]
  simp only [hx, hi, Sem.run_bind, hr, Result.andThen_ok]
  exact hK

/-- A slice's literal: all its cells. -/
theorem wp_slice_lit {t e : TypeId} {len sz : Nat} {z : Value} {parts : Array (Nat × Operand)} {pv : List (Nat × Value)} {cs : Array Value} (hS : Sat w0 w L) (ht : ∀ w, (underlying t).run P w = .ok (.slice e) w) (hs : ∀ w, (sizeOf e).run P w = .ok sz w) (hz : ∀ w, (zeroValue e).run P w = .ok z w)
    (hl : len * sz ≤ 1000) (hl0 : 0 < len * sz) (hpv : (parts.map fun (i, x) => (i, a.eval x)).toList = pv) (hf : Instr.fill (fun i => some (i * sz, sz)) ((Array.range (len * sz)).map (z.cells[· % z.cells.size]!)) pv = some cs)
    (hK : ∀ (w' : World) (b : Nat), Sat w0 w' (Blk b (.cells cs e) :: L) → K (a.put d (.slice (some ⟨b, 0, none⟩) len len)) w') : (Oper.mk d (.buildSlice t len parts) ty pos aft gd).wp P a w K Q := by
  subst hpv
  have hl' : ¬ (len * sz > 2 ^ 24) := by omega
  have hr : (Instr.buildSlice t len (parts.map fun (i, x) => (i, a.eval x))).run P w = .ok (.slice (some ⟨w.heap.size, 0, none⟩) len len) (w.alloc (.cells cs e)) := by
    have h0 : ¬ (len * sz = 0) := by omega
    simp only [Instr.buildSlice, Sem.run_bind, ht, hs, hz, Result.andThen_ok, hl', if_false, h0, Sem.run_pure, hf, newRow, newObj]
    rfl
  unfold Oper.wp execOp
  simp only [Sem.run_bind, hr, Result.andThen_ok]
  exact hK _ _ (hS.alloc _)

/-- Bytes behind bytes that are owned. -/
theorem wp_append_bytes {t t2 e e2 : TypeId} {s x : Operand} {v : Value} {l m : List UInt8} {xa : Option Addr} {n c : Nat} (hT : SliceT P t e 1 1) (hS : Sat w0 w L) (hx : a.eval s = v) (hp : Split L (Bytes e v l) M) (hy : a.eval x = .slice xa n c)
    (hr : Reads w (.slice xa n c) m) (ht2 : P.underlying t2 = some (.slice e2)) (hlen : l.length + m.length ≤ 140737488355328)
    (hK : ∀ (w' : World) (a' : Option Addr) (c' : Nat), (l ++ m).length ≤ c' → Sat w0 w' (Bytes e (.slice a' (l ++ m).length c') (l ++ m) :: M) → K (a.put d (.slice a' (l ++ m).length c')) w') :
    (Oper.mk d (.call { callee := .builtin .append, args := #[s, x], argTypes := #[t, t2] }) ty pos aft gd).wp P a w K Q := by
  have hrl : n = m.length := by obtain ⟨_, _, e, _⟩ := hr; cases e; rfl
  subst hrl
  have hsrc : Src P w t2 1 (.slice xa m.length c) m.length (m.map B) := by
    have := Src.reads (w := w) ht2 hr rfl m.length c (Nat.le_refl _)
    simpa using this
  refine wp_append_row hT (hS.split hp) hx hy hsrc (by unfold maxLen; omega) (by omega) ?_
  intro v' w' h
  have h' : Sat w0 w' (Bytes e v' (l ++ m) :: M) := by
    unfold Bytes
    simpa using h
  obtain ⟨a', c', rfl, _, hc1, hc2⟩ := h'.row_len
  exact hK w' a' c' hc1 h'
/-- A text behind bytes that are owned. -/
theorem wp_append_text {t t2 e : TypeId} {s x : Operand} {v : Value} {l m : List UInt8} (hT : SliceT P t e 1 1) (hS : Sat w0 w L) (hx : a.eval s = v) (hp : Split L (Bytes e v l) M) (hy : a.eval x = S m)
    (ht2 : P.underlying t2 = some .string) (hlen : l.length + m.length ≤ 140737488355328)
    (hK : ∀ (w' : World) (a' : Option Addr) (c' : Nat), (l ++ m).length ≤ c' → Sat w0 w' (Bytes e (.slice a' (l ++ m).length c') (l ++ m) :: M) → K (a.put d (.slice a' (l ++ m).length c')) w') :
    (Oper.mk d (.call { callee := .builtin .append, args := #[s, x], argTypes := #[t, t2] }) ty pos aft gd).wp P a w K Q := by
  have hsrc : Src P w t2 1 (S m) m.length (m.map B) := Src.string (P := P) (w := w) ht2 (⟨m.toArray⟩ : ByteArray)
  refine wp_append_row hT (hS.split hp) hx hy hsrc (by unfold maxLen; omega) (by omega) ?_
  intro v' w' h
  have h' : Sat w0 w' (Bytes e v' (l ++ m) :: M) := by
    unfold Bytes
    simpa using h
  obtain ⟨a', c', rfl, _, hc1, hc2⟩ := h'.row_len
  exact hK w' a' c' hc1 h'
/-- A block of bytes is bytes that are owned. -/
theorem Sat.bytes_of {b : Nat} {cs : Array Value} {e : TypeId} {l : List UInt8} {n c : Nat} (h : Sat w0 w (Blk b (.cells cs e) :: L)) (hn : n = l.length) (h1 : n ≤ c) (h2 : c ≤ cs.size) (h3 : c ≤ maxLen) (h4 : ∀ (j : Nat) (u : UInt8), l[j]? = some u → cs[j]? = some (B u)) :
    Sat w0 w (Bytes e (.slice (some ⟨b, 0, none⟩) n c) l :: L) := by
  subst hn
  refine h.row (by simp) h1 h3 (by omega) fun j u hu => ?_
  rw [List.getElem?_map, Option.map_eq_some_iff] at hu
  obtain ⟨x, hx, rfl⟩ := hu
  rw [Nat.zero_add]
  exact h4 j x hx

theorem madeCells_one {z : Value} (hz : z.cells = #[z]) (n j : Nat) (h : j < n) : (madeCells z.cells n)[j]? = some z := by
  unfold madeCells
  rw [hz, Array.getElem?_map, Array.getElem?_range]
  simp [h, Nat.mod_one]
/-- make of bytes. -/
theorem wp_make_bytes {t e : TypeId} {x y : Operand} {q q' : IntKind} {i j : Int} (n c : Nat) (hT : SliceT P t e 1 1) (hz : ∀ w, (zeroValue e).run P w = .ok (.int .u8 0) w) (hS : Sat w0 w L) (hx : a.eval x = .int q i) (hy : a.eval y = .int q' j) (hi : i = (n : Int)) (hj : j = (c : Int)) (h1 : n ≤ c) (h2 : c ≤ 140737488355328)
    (hK : ∀ (w' : World) (b : Nat), Sat w0 w' (Bytes e (.slice (some ⟨b, 0, none⟩) n c) (List.replicate n 0) :: L) → K (a.put d (.slice (some ⟨b, 0, none⟩) n c)) w') :
    (Oper.mk d (.makeSlice t x y) ty pos aft gd).wp P a w K Q := by
  subst hi hj
  obtain ⟨ht, inf, z, hi, hz0, hk, hby, hzs⟩ := hT
  have hze : z = .int .u8 0 := by
    have := hz w
    simp [zeroValue, typeInfo, hi, hz0] at this
    exact this
  subst hze
  have hr := run_make (P := P) w t e inf (.int .u8 0) ht hi hz0 q q' n c (by omega) (by omega) (by rw [hby]; omega) (by omega)
  rw [hk, Nat.mul_one] at hr
  simp only [Int.toNat_natCast] at hr
  unfold Oper.wp execOp
  simp only [hx, hy, Sem.run_bind, hr, Result.andThen_ok]
  refine hK _ _ ((hS.alloc _).bytes_of (by simp) h1 (by rw [size_madeCells]; exact Nat.le_refl _) (by unfold maxLen; omega) fun k u hu => ?_)
  rw [List.getElem?_replicate] at hu
  split at hu
  · cases hu
    exact madeCells_one rfl _ _ (by omega)
  · cases hu
/-- Bytes owned, opened: their block. -/
theorem Sat.bytes_block {e : TypeId} {v : Value} {l : List UInt8} (h : Sat w0 w (Bytes e v l :: L)) (hl : 0 < l.length) : ∃ g off cap cur, v = .slice (some ⟨g, off, none⟩) l.length cap ∧ l.length ≤ cap ∧ cap ≤ maxLen ∧ off + cap ≤ cur.size ∧ (∀ (j : Nat) (u : UInt8), l[j]? = some u → cur[off + j]? = some (B u)) ∧
    ∃ f, Soft cur.size f ∧ Sat w0 w (Blk g (.cells cur e f) :: L) := by
  obtain ⟨_, ⟨a, rfl, hn, _⟩ | ⟨g, off, cap, cur, hv, h1, h2, h3, h4, f, hf, hs⟩⟩ := h.row_cases
  · omega
  · refine ⟨g, off, cap, cur, hv, h1, h2, by omega, fun j u hu => h4 j (B u) (by simp [hu]), f, hf, hs⟩
theorem bytes_block_back {g off cap n : Nat} {cur : Array Value} {e : TypeId} {l : List UInt8} {f : Nat × Nat} (hf : Soft cur.size f) (hn : n = l.length) (h1 : l.length ≤ cap) (h2 : cap ≤ maxLen) (h3 : off + cap ≤ cur.size) (h4 : ∀ (j : Nat) (u : UInt8), l[j]? = some u → cur[off + j]? = some (B u)) :
    Ent (Blk g (.cells cur e f) :: L) (Bytes e (.slice (some ⟨g, off, none⟩) n cap) l :: L) := by
  subst hn
  refine Ent.head fun h hb => ⟨by simp, .inr ⟨g, off, cap, cur, rfl, h1, h2, by omega, fun j u hu => ?_, f, hf, hb⟩⟩
  rw [List.getElem?_map, Option.map_eq_some_iff] at hu
  obtain ⟨x, hx, rfl⟩ := hu
  exact h4 j x hx
/-- A literal of bytes. -/
theorem wp_bytes_lit {t e : TypeId} {len : Nat} {z : Value} {parts : Array (Nat × Operand)} {pv : List (Nat × Value)} (l : List UInt8) (hS : Sat w0 w L) (ht : ∀ w, (underlying t).run P w = .ok (.slice e) w) (hs : ∀ w, (sizeOf e).run P w = .ok 1 w) (hz : ∀ w, (zeroValue e).run P w = .ok z w)
    (hlen : len = l.length) (hl : len ≤ 1000) (hl0 : 0 < len) (hpv : (parts.map fun (i, x) => (i, a.eval x)).toList = pv) (hf : Instr.fill (fun i => some (i * 1, 1)) ((Array.range (len * 1)).map (z.cells[· % z.cells.size]!)) pv = some (l.map B).toArray)
    (hK : ∀ (w' : World) (b : Nat), Sat w0 w' (Bytes e (.slice (some ⟨b, 0, none⟩) len len) l :: L) → K (a.put d (.slice (some ⟨b, 0, none⟩) len len)) w') : (Oper.mk d (.buildSlice t len parts) ty pos aft gd).wp P a w K Q := by
  refine wp_slice_lit hS ht hs hz (by omega) (by omega) hpv hf ?_
  intro w' b h
  refine hK w' b (h.bytes_of hlen (Nat.le_refl _) (by simp [hlen]) (by unfold maxLen; omega) fun j u hu => ?_)
  simp [hu]
/-- Bytes that could be read ahead of all can be read still. -/
theorem Reads.base {v : Value} {l : List UInt8} (h : Reads w0 v l) (hS : Sat w0 w L) : Reads w v l := by
  obtain ⟨a, c, rfl, h1, h2, h3, h4⟩ := h
  exact ⟨a, c, rfl, h1, h2, h3, fun ad had j u hu => (hS.cell (block_lt_of_cell (h4 ad had j u hu))).trans (h4 ad had j u hu)⟩
/-- s[:h]. -/
theorem wp_slice_hi {t e : TypeId} {k bytes : Nat} {x hi : Operand} {ad : Option Addr} {n c : Nat} {q : IntKind} {i : Int} (m : Nat) (hT : SliceT P t e k bytes) (hx : a.eval x = .slice ad n c) (hh : a.eval hi = .int q i) (hi' : i = (m : Int)) (hm : m ≤ c)
    (hK : K (a.put d (.slice ad m c)) w) : (Oper.mk d (.slice t x none (some hi) none) ty pos aft gd).wp P a w K Q := by
  subst hi'
  obtain ⟨ht, inf, z, hinf, hz, hk, hby, hzs⟩ := hT
  have hr : (Instr.sliceAt t (.slice ad n c) none (some (.int q (m : Int))) none).run P w = .ok (.slice ad m c) w := by
    cases ad <;> simp [Instr.sliceAt, Instr.slice, run_underlying ht, Instr.sliceBounds, Instr.sliceBound, asIntOf, hm, sizeOf, typeInfo, hinf, Addr.add]
  unfold Oper.wp execOp
  simp only [Option.map_some, Option.map_none, hx, hh, Sem.run_bind, hr, Result.andThen_ok]
  exact hK
/-- s[l:h]. -/
theorem wp_slice_lh {t e : TypeId} {k bytes : Nat} {x lo hi : Operand} {ad : Option Addr} {n c : Nat} {q q' : IntKind} {li hi' : Int} (i j : Nat) (hT : SliceT P t e k bytes) (hx : a.eval x = .slice ad n c) (hl : a.eval lo = .int q li) (hh : a.eval hi = .int q' hi') (h1 : li = (i : Int)) (h2 : hi' = (j : Int)) (hij : i ≤ j) (hj : j ≤ c)
    (hK : ∀ a', Sub k ad j c i a' (j - i) (c - i) → K (a.put d (.slice a' (j - i) (c - i))) w) : (Oper.mk d (.slice t x (some lo) (some hi) none) ty pos aft gd).wp P a w K Q := by
  subst h1 h2
  obtain ⟨ht, inf, z, hinf, hz, hk, hby, hzs⟩ := hT
  have hr : (Instr.sliceAt t (.slice ad n c) (some (.int q (i : Int))) (some (.int q' (j : Int))) none).run P w = .ok (.slice (if c = i then ad else ad.map (·.add (i * k))) (j - i) (c - i)) w := by
    subst hk
    simp [Instr.sliceAt, Instr.slice, run_underlying ht, Instr.sliceBounds, Instr.sliceBound, asIntOf, hij, hj, sizeOf, typeInfo, hinf]
  unfold Oper.wp execOp
  simp only [Option.map_some, Option.map_none, hx, hl, hh, Sem.run_bind, hr, Result.andThen_ok]
  exact hK _ ⟨rfl, rfl, rfl⟩
/-- s[l:]. -/
theorem wp_slice_l {t e : TypeId} {k bytes : Nat} {x lo : Operand} {ad : Option Addr} {n c : Nat} {q : IntKind} {li : Int} (i : Nat) (hT : SliceT P t e k bytes) (hx : a.eval x = .slice ad n c) (hl : a.eval lo = .int q li) (h1 : li = (i : Int)) (hij : i ≤ n)
    (hK : ∀ a', Sub k ad n c i a' (n - i) (c - i) → K (a.put d (.slice a' (n - i) (c - i))) w) : (Oper.mk d (.slice t x (some lo) none none) ty pos aft gd).wp P a w K Q := by
  subst h1
  refine wp_slice_lo hT hx hl hij ?_
  rintro a' n' c' hs
  obtain ⟨rfl, rfl, _⟩ := id hs
  exact hK a' hs
end
end Go.Sp
