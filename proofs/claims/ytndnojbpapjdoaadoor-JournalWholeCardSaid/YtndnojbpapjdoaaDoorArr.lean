/- Arrays of bytes in memory: slices of them, copies into them, whole loads and stores. No program is named here. -/
import Derived.Test.YtndnojbpapjdoaaDoorWord
import Derived.Laws.IdiomStrings
import Derived.IntWalk
set_option linter.unusedSimpArgs false
set_option linter.unusedVariables false
set_option linter.unusedSectionVars false
namespace Go.Sp
open Go.RowKit

/-- Bytes put into a list, from o on. -/
def splice (l : List UInt8) (o : Nat) (m : List UInt8) : List UInt8 := l.take o ++ m ++ l.drop (o + m.length)
theorem length_splice {l m : List UInt8} {o : Nat} (h : o + m.length ≤ l.length) : (splice l o m).length = l.length := by
  simp [splice]; omega
theorem splice_cells (l m : List UInt8) (o : Nat) : setCells (l.map B).toArray o (m.map B) = ((splice l o m).map B).toArray := by
  simp [setCells, splice, List.map_take, List.map_drop]
theorem splice_zero (l m : List UInt8) : splice l 0 m = m ++ l.drop m.length := by simp [splice]
theorem splice_all (l m : List UInt8) (h : m.length = l.length) : splice l 0 m = m := by simp [splice, h]

section
variable {P : Program} {w0 w : World} {L M : List Asn} {a : Act} {K : Act → World → Prop} {Q : Exit → Act → World → Prop}
  {d : Option Tmp} {ty : TypeId} {pos : String} {aft : Array Edge} {gd : Option (Nat × Bool)}
/-- Bounds as whole numbers. -/
def bnd (n : Nat) : Option Value → Option Nat
  | none => some n
  | some (.int _ i) => if 0 ≤ i then some i.toNat else none
  | _ => none
theorem bnd_hi {o : Option Operand} {n j : Nat} (h : bnd n (o.map a.eval) = some j) : (match o with | some v => ∃ q, a.eval v = .int q (j : Int) | none => j = n) := by
  cases o with
  | none => simp only [Option.map_none, bnd, Option.some.injEq] at h; exact h.symm
  | some v =>
    simp only [Option.map_some, bnd] at h
    cases hv : a.eval v <;> rw [hv] at h <;> simp only [reduceCtorEq] at h
    split at h
    · cases h
      rename_i q i hi
      exact ⟨q, by rw [hv, Int.toNat_of_nonneg hi]⟩
    · cases h
/-- A slice of an array that lies in memory, its bounds worked out. -/
theorem wp_slice_arrB {t e : TypeId} {x : Operand} {lo hi : Option Operand} {b o sz n i j : Nat} (ht : ∀ w, (underlying t).run P w = .ok (.array n e) w) (hs : ∀ w, (sizeOf e).run P w = .ok sz w) (hx : a.eval x = .pointer (some ⟨b, o, none⟩))
    (hlo : bnd 0 (lo.map a.eval) = some i) (hhi : bnd n (hi.map a.eval) = some j) (h1 : i ≤ j) (h2 : j ≤ n) (h3 : i < n) (hK : K (a.put d (.slice (some ⟨b, o + i * sz, none⟩) (j - i) (n - i))) w) :
    (Oper.mk d (.slice t x lo hi none) ty pos aft gd).wp P a w K Q :=
  wp_slice_arr i j ht hs hx (by have := bnd_hi hlo; cases lo <;> exact this) (by have := bnd_hi hhi; cases hi <;> exact this) h1 h2 h3 hK
/-- copy of bytes into an array of bytes. -/
theorem wp_copy_bytes {dT sT elem : TypeId} {x y : Operand} {g o n1 c1 : Nat} {l m : List UInt8} {sv : Value} {e : TypeId} (hS : Sat w0 w L) (hx : a.eval x = .slice (some ⟨g, o, none⟩) n1 c1) (hp : Split L (Blk g (.cells (l.map B).toArray e (0, 0))) M) (hy : a.eval y = sv) (hr : Reads w sv m)
    (hu : P.underlying dT = some (.slice elem)) (hs : (P.info? elem).map (·.size) = some 1) (hn : o + n1 ≤ l.length)
    (hK : ∀ w', Sat w0 w' (Blk g (.cells ((splice l o (m.take n1)).map B).toArray e (0, 0)) :: M) → K (a.put d (.int .i64 ((Nat.min m.length n1 : Nat) : Int))) w') :
    (Oper.mk d (.call { callee := .builtin .copy, args := #[x, y], argTypes := #[dT, sT] }) ty pos aft gd).wp P a w K Q := by
  obtain ⟨ad, c2, rfl, hc, hc2, hnil, hcell⟩ := hr
  have hsp : (m.take n1).length ≤ n1 := List.length_take_le _ _
  cases ad with
  | none =>
    have hm : m = [] := hnil rfl
    subst hm
    have h0 : (Builtin.copy_ #[dT, sT] ty #[.slice (some ⟨g, o, none⟩) n1 c1, .slice none 0 c2]).run P w = .ok (goInt 0) w := by
      have hi : ∃ i, P.info? elem = some i := by cases h : P.info? elem with | none => rw [h] at hs; cases hs | some i => exact ⟨i, rfl⟩
      obtain ⟨i, hi⟩ := hi
      simp [Builtin.copy_, run_underlying hu, sizeOf, typeInfo, hi, Builtin.lenOf, run_firstCells_none, storeCells]
    have hk := hK w ?_
    · unfold Oper.wp execOp
      simp only [resolve, invoke, builtin, Sem.run_bind, Sem.run_pure, Result.andThen_ok, List.map_toArray, List.map_cons, List.map_nil, hx, hy, List.length_nil, h0]
      have hz : Nat.min ([] : List UInt8).length n1 = 0 := Nat.zero_min n1
      rw [hz] at hk
      exact hk
    · have := hS.split hp
      have he : splice l o (([] : List UInt8).take n1) = l := by simp [splice]
      rw [he]
      exact this
  | some ad =>
    have hlen : ((m.take n1).map B).length = Nat.min m.length n1 := by rw [List.length_map, List.length_take]; exact Nat.min_comm _ _
    refine wp_copy ((m.take n1).map B) hS hx hp hy hu hs (by rw [hlen]) ?_ (by simp; omega) (by intro v hv; obtain ⟨u, _, rfl⟩ := List.mem_map.1 hv; rfl) ?_
    · intro j v hv
      rw [List.getElem?_map, Option.map_eq_some_iff] at hv
      obtain ⟨u, hu, rfl⟩ := hv
      rw [List.getElem?_take] at hu
      split at hu
      · exact hcell ad rfl j u hu
      · cases hu
    · intro w' hS'
      rw [splice_cells] at hS'
      have := hK w' hS'
      rw [← hlen] at this
      exact this
/-- A whole array of bytes, loaded. -/
theorem wp_load_ba {t : TypeId} {x : Operand} {b n : Nat} {l : List UInt8} {e : TypeId} {f : Nat × Nat} (hS : Sat w0 w L) (hx : a.eval x = .pointer (some ⟨b, 0, none⟩)) (hp : Split L (Blk b (.cells (l.map B).toArray e f)) M) (hag : ∀ w, (isAgg t).run P w = .ok true w) (hs : ∀ w, (sizeOf t).run P w = .ok n w) (hn : l.length = n) (hK : K (a.put d (.agg (l.map B).toArray)) w) :
    (Oper.mk d (.load t x) ty pos aft gd).wp P a w K Q :=
  wp_load_all hS hx hp hag (fun w => by rw [hs w]; simp [hn]) hK
/-- A whole array of bytes, stored. -/
theorem wp_store_ba {t : TypeId} {x y : Operand} {b n : Nat} {cs : Array Value} {l : List UInt8} {e : TypeId} (hS : Sat w0 w L) (hx : a.eval x = .pointer (some ⟨b, 0, none⟩)) (hp : Split L (Blk b (.cells cs e (0, 0))) M) (hy : a.eval y = .agg (l.map B).toArray) (hs : ∀ w, (sizeOf t).run P w = .ok n w) (hn : l.length = n) (hc : cs.size = n)
    (hK : ∀ w', Sat w0 w' (Blk b (.cells (l.map B).toArray e (0, 0)) :: M) → K (a.put d undef) w') : (Oper.mk d (.store t x y) ty pos aft gd).wp P a w K Q :=
  wp_store_all hS hx hp hy (fun w => by rw [hs w]; simp [hn]) (by simp [hn, hc]) (one_map (fun _ => rfl) _) hK
/-- A new array of bytes. -/
theorem wp_alloc_ba {t : TypeId} {l : List UInt8} (hS : Sat w0 w L) (hz : ∀ w, (zeroValue t).run P w = .ok (.agg (l.map B).toArray) w)
    (hK : ∀ (w' : World) (b : Nat), Sat w0 w' (Blk b (.cells (l.map B).toArray t) :: L) → K (a.put d (.pointer (some ⟨b, 0, none⟩))) w') : (Oper.mk d (.alloc t) ty pos aft gd).wp P a w K Q :=
  wp_alloc hS hz hK
/-- The address of a byte in an array of bytes: loaded. -/
theorem wp_ba_load {t : TypeId} {x : Operand} {b j : Nat} {l : List UInt8} {u : UInt8} {e : TypeId} {f : Nat × Nat} (hS : Sat w0 w L) (hx : a.eval x = .pointer (some ⟨b, j, none⟩)) (hp : Split L (Blk b (.cells (l.map B).toArray e f)) M) (hu : l[j]? = some u) (hag : ∀ w, (isAgg t).run P w = .ok false w) (hK : K (a.put d (B u)) w) :
    (Oper.mk d (.load t x) ty pos aft gd).wp P a w K Q :=
  wp_load hS hx hp (by simp [hu]) hag hK
end
/-- A part of an array of bytes may be read. -/
theorem reads_ba {w0 w : World} {L M : List Asn} {b o n c : Nat} {l : List UInt8} {e : TypeId} {f : Nat × Nat} (hS : Sat w0 w L) (s : Split L (Blk b (.cells (l.map B).toArray e f)) M) (h1 : o + n ≤ l.length) (h2 : n ≤ c) (h3 : c ≤ maxLen) :
    Reads w (.slice (some ⟨b, o, none⟩) n c) ((l.drop o).take n) := by
  have hl : ((l.drop o).take n).length = n := by simp; omega
  refine ⟨some ⟨b, o, none⟩, c, by rw [hl], by omega, h3, (fun h => by cases h), fun ad had j u hu => ?_⟩
  cases had
  rw [addr_add, cell_blk (hS.split s).at]
  rw [List.getElem?_take] at hu
  split at hu
  · rw [List.getElem?_drop] at hu
    simp [hu]
  · cases hu
/-- The whole of it. -/
theorem reads_ba0 {w0 w : World} {L M : List Asn} {b n c : Nat} {l : List UInt8} {e : TypeId} {f : Nat × Nat} (hS : Sat w0 w L) (s : Split L (Blk b (.cells (l.map B).toArray e f)) M) (h1 : l.length = n) (h2 : n ≤ c) (h3 : c ≤ maxLen) :
    Reads w (.slice (some ⟨b, 0, none⟩) n c) l := by
  have := reads_ba (o := 0) (n := n) (c := c) hS s (by omega) h2 h3
  rwa [List.drop_zero, List.take_of_length_le (by omega)] at this
theorem under_ba {w0 : World} {L M : List Asn} {b o n c : Nat} {l : List UInt8} {e : TypeId} {f : Nat × Nat} (s : Split L (Blk b (.cells (l.map B).toArray e f)) M) (h1 : o + n ≤ l.length) (h2 : n ≤ c) (h3 : c ≤ maxLen) :
    Under w0 L (.slice (some ⟨b, o, none⟩) n c) ((l.drop o).take n) := fun _ hS => reads_ba hS s h1 h2 h3
section
variable {P : Program} {w0 w : World} {L M : List Asn} {a : Act} {K : Act → World → Prop} {Q : Exit → Act → World → Prop}
  {d : Option Tmp} {ty : TypeId} {pos : String} {aft : Array Edge} {gd : Option (Nat × Bool)}
/-- An array's slice from its start to its end. -/
theorem wp_arr_sl {t e : TypeId} {x : Operand} {b o sz n : Nat} (ht : ∀ w, (underlying t).run P w = .ok (.array n e) w) (hs : ∀ w, (sizeOf e).run P w = .ok sz w) (hx : a.eval x = .pointer (some ⟨b, o, none⟩)) (h0 : 0 < n)
    (hK : K (a.put d (.slice (some ⟨b, o, none⟩) n n)) w) : (Oper.mk d (.slice t x none none none) ty pos aft gd).wp P a w K Q :=
  wp_slice_arr 0 n ht hs hx rfl rfl (Nat.zero_le _) (Nat.le_refl _) h0 (by simpa using hK)
theorem wp_arr_hi {t e : TypeId} {x hi : Operand} {b o sz n m : Nat} {q : IntKind} {j : Int} (ht : ∀ w, (underlying t).run P w = .ok (.array n e) w) (hs : ∀ w, (sizeOf e).run P w = .ok sz w) (hx : a.eval x = .pointer (some ⟨b, o, none⟩)) (hj : a.eval hi = .int q j) (h1 : 0 ≤ j) (hm : j.toNat = m) (h2 : m ≤ n) (h0 : 0 < n)
    (hK : K (a.put d (.slice (some ⟨b, o, none⟩) m n)) w) : (Oper.mk d (.slice t x none (some hi) none) ty pos aft gd).wp P a w K Q :=
  wp_slice_arr 0 m ht hs hx rfl ⟨q, by rw [hj]; congr 1; omega⟩ (Nat.zero_le _) h2 h0 (by simpa using hK)
theorem wp_arr_lo {t e : TypeId} {x lo : Operand} {b o sz n i p m : Nat} {q : IntKind} {j : Int} (ht : ∀ w, (underlying t).run P w = .ok (.array n e) w) (hs : ∀ w, (sizeOf e).run P w = .ok sz w) (hx : a.eval x = .pointer (some ⟨b, o, none⟩)) (hj : a.eval lo = .int q j) (h1 : 0 ≤ j) (hi : j.toNat = i) (h2 : i < n) (hp : o + i * sz = p) (hm : n - i = m)
    (hK : K (a.put d (.slice (some ⟨b, p, none⟩) m m)) w) : (Oper.mk d (.slice t x (some lo) none none) ty pos aft gd).wp P a w K Q :=
  wp_slice_arr i n ht hs hx ⟨q, by rw [hj]; congr 1; omega⟩ rfl (by omega) (Nat.le_refl _) h2 (by rw [hp, hm]; exact hK)
theorem wp_arr_lh {t e : TypeId} {x lo hi : Operand} {b o sz n i k p m c : Nat} {q q' : IntKind} {j j' : Int} (ht : ∀ w, (underlying t).run P w = .ok (.array n e) w) (hs : ∀ w, (sizeOf e).run P w = .ok sz w) (hx : a.eval x = .pointer (some ⟨b, o, none⟩)) (hj : a.eval lo = .int q j) (hj' : a.eval hi = .int q' j') (h1 : 0 ≤ j) (h1' : 0 ≤ j') (hi0 : j.toNat = i) (hk : j'.toNat = k) (h2 : i < n) (h3 : i ≤ k) (h4 : k ≤ n) (hp : o + i * sz = p) (hm : k - i = m) (hc : n - i = c)
    (hK : K (a.put d (.slice (some ⟨b, p, none⟩) m c)) w) : (Oper.mk d (.slice t x (some lo) (some hi) none) ty pos aft gd).wp P a w K Q :=
  wp_slice_arr i k ht hs hx ⟨q, by rw [hj]; congr 1; omega⟩ ⟨q', by rw [hj']; congr 1; omega⟩ h3 h4 h2 (by rw [hp, hm, hc]; exact hK)
end
section
variable {P : Program} {w0 w : World} {L M : List Asn} {a : Act} {K : Act → World → Prop} {Q : Exit → Act → World → Prop}
  {d : Option Tmp} {ty : TypeId} {pos : String} {aft : Array Edge} {gd : Option (Nat × Bool)}
/-- A slice literal of one element, of one cell. -/
theorem wp_lit1 {t e : TypeId} {x : Operand} {v z : Value} (hS : Sat w0 w L) (ht : ∀ w, (underlying t).run P w = .ok (.slice e) w) (hs : ∀ w, (sizeOf e).run P w = .ok 1 w) (hz : ∀ w, (zeroValue e).run P w = .ok z w)
    (hv : a.eval x = v) (h1 : v.cells = #[v])
    (hK : ∀ (w' : World) (b : Nat), Sat w0 w' (Blk b (.cells #[v] e) :: L) → K (a.put d (.slice (some ⟨b, 0, none⟩) 1 1)) w') : (Oper.mk d (.buildSlice t 1 #[(0, x)]) ty pos aft gd).wp P a w K Q := by
  refine wp_slice_lit (cs := #[v]) (pv := [(0, v)]) hS ht hs hz (by decide) (by decide) (by subst hv; simp) ?_ hK
  simp only [Instr.fill, Nat.zero_mul, h1]
  simp [show Array.range 1 = #[0] from rfl]
theorem wp_lit2 {t e : TypeId} {x y : Operand} {v u z : Value} (hS : Sat w0 w L) (ht : ∀ w, (underlying t).run P w = .ok (.slice e) w) (hs : ∀ w, (sizeOf e).run P w = .ok 1 w) (hz : ∀ w, (zeroValue e).run P w = .ok z w)
    (hv : a.eval x = v) (h1 : v.cells = #[v]) (hu : a.eval y = u) (h2 : u.cells = #[u])
    (hK : ∀ (w' : World) (b : Nat), Sat w0 w' (Blk b (.cells #[v, u] e) :: L) → K (a.put d (.slice (some ⟨b, 0, none⟩) 2 2)) w') : (Oper.mk d (.buildSlice t 2 #[(0, x), (1, y)]) ty pos aft gd).wp P a w K Q := by
  refine wp_slice_lit (cs := #[v, u]) (pv := [(0, v), (1, u)]) hS ht hs hz (by decide) (by decide) (by subst hv hu; simp) ?_ hK
  simp only [Instr.fill, Nat.zero_mul, h1, h2]
  simp [show Array.range 2 = #[0, 1] from rfl]
end
theorem under_bx {w0 : World} {L M : List Asn} {b o n c : Nat} {l x : List UInt8} {e : TypeId} {f : Nat × Nat} (s : Split L (Blk b (.cells (l.map B).toArray e f)) M) (hx : (l.drop o).take n = x) (h1 : o + n ≤ l.length) (h2 : n ≤ c) (h3 : c ≤ 1000) :
    Under w0 L (.slice (some ⟨b, o, none⟩) n c) x := by
  subst hx
  exact under_ba s h1 h2 (by unfold maxLen; omega)

section
variable {P : Program} {w0 w : World} {L M : List Asn} {a : Act} {K : Act → World → Prop} {Q : Exit → Act → World → Prop}
  {d : Option Tmp} {ty : TypeId} {pos : String} {aft : Array Edge} {gd : Option (Nat × Bool)}
/-- A text's bytes, in a slice of their own. -/
theorem wp_to_bytes {t u e : TypeId} {x : Operand} {l : List UInt8} (hS : Sat w0 w L) (hx : a.eval x = S l) (hs : P.underlying t = some .string) (hd : P.underlying u = some (.slice e)) (he : P.underlying e = some (.int .u8)) (hl : l.length ≤ 140737488355328)
    (hK : ∀ (a' : Option Addr) (c : Nat) (w' : World), l.length ≤ c → Sat w0 w' (Bytes e (.slice a' l.length c) l :: L) → K (a.put d (.slice a' l.length c)) w') : (Oper.mk d (.convert t u x) ty pos aft gd).wp P a w K Q := by
  have hr := run_bytes_of_string (P := P) w t u e ⟨l.toArray⟩ hs hd he
  have hsz : (⟨l.toArray⟩ : ByteArray).size = l.length := rfl
  have hge := grownCap_ge w l.length 0 e
  have hcm := grownCap_le_maxLen w l.length 0 e (by unfold maxLen; omega)
  rw [hsz] at hr
  unfold Oper.wp execOp
  simp only [hx, Sem.run_bind, hr, Result.andThen_ok]
  refine hK _ _ _ hge ?_
  have hbs : (bytesRow ⟨l.toArray⟩ (grownCap w l.length 0 e)).size = grownCap w l.length 0 e := by
    simp only [bytesRow, Array.size_append, Array.size_map, Array.size_replicate, hsz]
    have h5 : (⟨l.toArray⟩ : ByteArray).data.size = l.length := rfl
    have h6 : l.toArray.size = l.length := rfl
    omega
  refine (hS.drew.alloc _).rowF (f := ((bytesRow ⟨l.toArray⟩ (grownCap w l.length 0 e)).size, (bytesRow ⟨l.toArray⟩ (grownCap w l.length 0 e)).size + 1)) (fun i hi => by simp; omega) (by simp) hge hcm (by rw [hbs]; omega) ?_
  intro j v hv
  rw [List.getElem?_map, Option.map_eq_some_iff] at hv
  obtain ⟨y, hy, rfl⟩ := hv
  have hj := (List.getElem?_eq_some_iff.1 hy).1
  rw [Nat.zero_add]
  simp only [bytesRow]
  rw [Array.getElem?_append_left (by simpa using hj)]
  simp [hy]
/-- One cell of an element of an owned row: the place worked out. -/
theorem wp_row_load1 {t e : TypeId} {x : Operand} {g o n c k q j : Nat} {cs : List Value} {v : Value} (hS : Sat w0 w L) (hx : a.eval x = .pointer (some ⟨g, q, none⟩)) (hp : Split L (Row e k (.slice (some ⟨g, o, none⟩) n c) n cs) M) (hq : q = o + j) (hv : cs[j]? = some v)
    (hag : ∀ w, (isAgg t).run P w = .ok false w) (hK : K (a.put d v) w) : (Oper.mk d (.load t x) ty pos aft gd).wp P a w K Q := wp_row_load hS hx hp hq hv hag hK
end
section
variable {P : Program} {w0 w : World} {L M : List Asn} {a : Act} {K : Act → World → Prop} {Q : Exit → Act → World → Prop}
  {d : Option Tmp} {ty : TypeId} {pos : String} {aft : Array Edge} {gd : Option (Nat × Bool)}
/-- A byte of owned bytes. -/
theorem bytes_cell {e : TypeId} {g o n c j : Nat} {l : List UInt8} {u : UInt8} (hS : Sat w0 w L) (hp : Split L (Bytes e (.slice (some ⟨g, o, none⟩) n c) l) M) (hj : l[j]? = some u) : w.cell? ⟨g, o + j, none⟩ = some (B u) := by
  have := (hS.split hp).row_cells rfl _ rfl j (B u) (by simp [hj])
  rwa [addr_add] at this
theorem bytes_cell0 {e : TypeId} {g o n c : Nat} {l : List UInt8} {u : UInt8} (hS : Sat w0 w L) (hp : Split L (Bytes e (.slice (some ⟨g, o, none⟩) n c) l) M) (hj : l[0]? = some u) : w.cell? ⟨g, o, none⟩ = some (B u) := bytes_cell hS hp hj
theorem wp_bytes_load {t e : TypeId} {x : Operand} {g o n c q j : Nat} {l : List UInt8} {u : UInt8} (hS : Sat w0 w L) (hx : a.eval x = .pointer (some ⟨g, q, none⟩)) (hp : Split L (Bytes e (.slice (some ⟨g, o, none⟩) n c) l) M) (hq : q = o + j) (hv : l[j]? = some u)
    (hag : ∀ w, (isAgg t).run P w = .ok false w) (hK : K (a.put d (B u)) w) : (Oper.mk d (.load t x) ty pos aft gd).wp P a w K Q := by
  subst hq
  exact wp_load_known hx (bytes_cell hS hp hv) hag hK
end
section
variable {P : Program} {w : World}
theorem wrap_i64n (n : Nat) (h : n < 9223372036854775808) : IntKind.i64.wrap (n : Int) = (n : Int) := IntWalk.i64_in _ (by omega)
/-- A byte, eight bits up. -/
theorem run_i_shl8 (t : TypeId) (x : UInt8) : (binOp .shl t (.int .i64 (x.toNat : Int)) (.int .u64 8)).run P w = .ok (.int .i64 ((256 * x.toNat : Nat) : Int)) w := by
  have h1 : ¬ ((8 : Int) < 0) := by omega
  have h2 := x.toNat_lt
  simp only [binOp, Op.shift, h1, if_false, IntKind.bits]
  show Result.ok (Value.int .i64 (IntKind.i64.wrap ((x.toNat : Int) * 2 ^ 8))) w = _
  have : (x.toNat : Int) * 2 ^ 8 = ((256 * x.toNat : Nat) : Int) := by omega
  rw [this, wrap_i64n _ (by omega)]
/-- Two bytes joined. -/
theorem run_i_or8 (t : TypeId) (x y : UInt8) : (binOp .or t (.int .i64 ((256 * x.toNat : Nat) : Int)) (.int .i64 (y.toNat : Int))).run P w = .ok (.int .i64 ((256 * x.toNat + y.toNat : Nat) : Int)) w := by
  have h1 := x.toNat_lt
  have h2 := y.toNat_lt
  have h3 : 256 * x.toNat ||| y.toNat = 256 * x.toNat + y.toNat := by
    have := Nat.two_pow_add_eq_or_of_lt (i := 8) (b := y.toNat) (by omega) x.toNat
    simpa [Nat.mul_comm] using this.symm
  have : IntKind.i64.wrap ((BitVec.ofInt IntKind.i64.bits ((256 * x.toNat : Nat) : Int) ||| BitVec.ofInt IntKind.i64.bits (y.toNat : Int)).toNat : Int) = ((256 * x.toNat + y.toNat : Nat) : Int) := by
    have e1 : (BitVec.ofInt IntKind.i64.bits ((256 * x.toNat : Nat) : Int)).toNat = 256 * x.toNat := ofInt_nat (k := 64) _ (by omega)
    have e2 : (BitVec.ofInt IntKind.i64.bits (y.toNat : Int)).toNat = y.toNat := ofInt_nat (k := 64) _ (by omega)
    rw [BitVec.toNat_or, e1, e2, h3, wrap_i64n _ (by omega)]
  simp only [binOp, Op.intBits, this]
  rfl
end
theorem row_cell0 {w0 w : World} {L M : List Asn} {e : TypeId} {k g o n c : Nat} {cs : List Value} {v : Value} (hS : Sat w0 w L) (hp : Split L (Row e k (.slice (some ⟨g, o, none⟩) n c) n cs) M) (hj : cs[0]? = some v) : w.cell? ⟨g, o, none⟩ = some v := row_cell hS hp hj
end Go.Sp
