/- Lists of bytes' lists that may be read for good. -/
import Derived.Test.YtndnojbpapjdoaaDoorJrX
set_option linter.unusedSimpArgs false
set_option linter.unusedVariables false
set_option linter.unusedSectionVars false
namespace Go.Sp
open Go.RowKit

/-- The slice value v holds the lists rs, in the world w. -/
def ReadsL (w : World) (v : Value) (rs : List (List UInt8)) : Prop :=
  ∃ (a : Option Addr) (c : Nat) (vs : List Value), v = .slice a rs.length c ∧ rs.length ≤ c ∧ c ≤ maxLen ∧ (a = none → rs = []) ∧ vs.length = rs.length ∧ (∀ ad, a = some ad → ∀ (j : Nat) (u : Value), vs[j]? = some u → w.cell? (ad.add j) = some u) ∧ ∀ p ∈ vs.zip rs, Reads w p.1 p.2
/-- The slice value v holds the lists rs, for good. -/
def RoL (w0 : World) (v : Value) (rs : List (List UInt8)) : Asn := fun h =>
  ∃ (a : Option Addr) (c : Nat) (vs : List Value), v = .slice a rs.length c ∧ rs.length ≤ c ∧ c ≤ maxLen ∧ (a = none → rs = []) ∧ vs.length = rs.length ∧ (∀ ad, a = some ad → ∀ (j : Nat) (u : Value), vs[j]? = some u → Ever w0 h (ad.add j) u) ∧ ∀ p ∈ vs.zip rs, Ro w0 p.1 p.2 h
/-- It can be read as long as the parts L stand. -/
def UnderL (w0 : World) (L : List Asn) (v : Value) (rs : List (List UInt8)) : Prop := ∀ w', Sat w0 w' L → ReadsL w' v rs

section
variable {w0 w : World} {L M : List Asn} {v : Value} {rs : List (List UInt8)}
theorem Sat.ro_empty (hS : Sat w0 w L) (a : Option Addr) (c : Nat) (hc : c ≤ maxLen) : Sat w0 w (Ro w0 (.slice a 0 c) [] :: L) :=
  (Sat.emp.2 hS).head fun g _ => ⟨a, c, rfl, Nat.zero_le _, hc, fun _ => rfl, fun _ _ j u hu => by cases hu⟩
theorem pers_rol (w0 : World) (v : Value) (rs : List (List UInt8)) : Pers (RoL w0 v rs) := by
  rintro h ⟨a, c, vs, e, h1, h2, h3, h4, h5, h6⟩
  exact ⟨a, c, vs, e, h1, h2, h3, h4, fun ad had j u hu => ever_cold (h5 ad had j u hu), fun p hp => pers_ro _ _ _ h (h6 p hp)⟩
theorem Sat.rol_reads (h : Sat w0 w (RoL w0 v rs :: L)) : ReadsL w v rs := by
  obtain ⟨hb, g, hg, h1, h2, hd, l1, l2, ⟨a, c, vs, e, k1, k2, k3, k4, k5, k6⟩, hl⟩ := id h
  refine ⟨a, c, vs, e, k1, k2, k3, k4, fun ad had j u hu => ?_, fun p hp => ?_⟩
  · rcases k5 ad had j u hu with k | ⟨b, o, cs, t, f, e', hb', hc⟩
    · exact (h.cell (block_lt_of_cell k)).trans k
    · rw [e', cell_blk (hg b _ (l1 b _ hb')).2]
      exact hc
  · have hs : Sat w0 w (Ro w0 p.1 p.2 :: L) := ⟨hb, g, hg, h1, h2, hd, l1, l2, k6 p hp, hl⟩
    exact hs.ro_reads
theorem Sat.rol_old (hS : Sat w0 w L) (hr : ReadsL w0 v rs) : Sat w0 w (RoL w0 v rs :: L) := by
  obtain ⟨a, c, vs, e, k1, k2, k3, k4, k5, k6⟩ := hr
  refine (Sat.emp.2 hS).head fun g _ => ⟨a, c, vs, e, k1, k2, k3, k4, fun ad had j u hu => .inl (k5 ad had j u hu), fun p hp => ?_⟩
  obtain ⟨a', c', e', q1, q2, q3, q4⟩ := k6 p hp
  exact ⟨a', c', e', q1, q2, q3, fun ad had j u hu => .inl (q4 ad had j u hu)⟩
/-- The places of a row, for good. -/
def RoV (w0 : World) (a : Option Addr) (vs : List Value) : Asn := fun h => (a = none → vs = []) ∧ ∀ ad, a = some ad → ∀ (j : Nat) (u : Value), vs[j]? = some u → Ever w0 h (ad.add j) u
theorem Sat.rov_cells {a : Option Addr} {vs : List Value} (h : Sat w0 w (RoV w0 a vs :: L)) : (a = none → vs = []) ∧ ∀ ad, a = some ad → ∀ (j : Nat) (u : Value), vs[j]? = some u → w.cell? (ad.add j) = some u := by
  obtain ⟨hb, g, hg, h1, h2, hd, l1, l2, ⟨k0, k5⟩, hl⟩ := id h
  refine ⟨k0, fun ad had j u hu => ?_⟩
  rcases k5 ad had j u hu with k | ⟨b, o, cs, t, f, e', hb', hc⟩
  · exact (h.cell (block_lt_of_cell k)).trans k
  · rw [e', cell_blk (hg b _ (l1 b _ hb')).2]
    exact hc
theorem under_rol (s : Split L (RoL w0 v rs) M) : UnderL w0 L v rs := fun _ h => (h.split s).rol_reads
theorem UnderL.ent {M : List Asn} (h : UnderL w0 L v rs) (he : Ent M L) : UnderL w0 M v rs := fun w' hw => h w' (hw.ent he)
/-- One place of the lists: its cell for good, and its bytes. -/
def RoLAt (w0 : World) (ad : Addr) (u : Value) (l : List UInt8) : Asn := fun h => Ever w0 h ad u ∧ Ro w0 u l h
theorem pers_rolAt (w0 : World) (ad : Addr) (u : Value) (l : List UInt8) : Pers (RoLAt w0 ad u l) := fun h ⟨a, b⟩ => ⟨ever_cold a, pers_ro _ _ _ h b⟩
theorem Sat.rolAt {a : Option Addr} {n c k : Nat} {l : List UInt8} (hS : Sat w0 w (RoL w0 (.slice a n c) rs :: L)) (hk : rs[k]? = some l) : ∃ ad u, a = some ad ∧ Sat w0 w (RoLAt w0 (ad.add k) u l :: RoL w0 (.slice a n c) rs :: L) := by
  have hS2 := hS.dup (pers_rol _ _ _)
  obtain ⟨hb, g, hg, h1, h2, hd, l1, l2, ⟨a', c', vs, e, k1, k2, k3, k4, k5, k6⟩, hl⟩ := id hS2
  cases e
  have hlt : k < rs.length := (List.getElem?_eq_some_iff.1 hk).1
  cases a with
  | none => rw [k3 rfl] at hk; cases hk
  | some ad =>
    obtain ⟨u, hu⟩ : ∃ u, vs[k]? = some u := ⟨vs[k]'(by omega), List.getElem?_eq_getElem _⟩
    have hm : (u, l) ∈ vs.zip rs := List.mem_of_getElem? (i := k) (by rw [List.getElem?_zip_eq_some]; exact ⟨hu, hk⟩)
    exact ⟨ad, u, rfl, ⟨hb, g, hg, h1, h2, hd, l1, l2, ⟨k5 ad rfl k u hu, k6 _ hm⟩, hl⟩⟩
theorem Sat.rolAt_cell {ad : Addr} {u : Value} {l : List UInt8} (h : Sat w0 w (RoLAt w0 ad u l :: L)) : w.cell? ad = some u := by
  obtain ⟨hb, g, hg, h1, h2, hd, l1, l2, ⟨k, _⟩, hl⟩ := id h
  rcases k with k | ⟨b, o, cs, t, f, e', hb', hc⟩
  · exact (h.cell (block_lt_of_cell k)).trans k
  · rw [e', cell_blk (hg b _ (l1 b _ hb')).2]
    exact hc
theorem Sat.rolAt_ro {ad : Addr} {u : Value} {l : List UInt8} (h : Sat w0 w (RoLAt w0 ad u l :: L)) : Sat w0 w (Ro w0 u l :: L) := h.head fun _ hg => hg.2
theorem under_rolAt {ad : Addr} {u : Value} {l : List UInt8} (s : Split L (RoLAt w0 ad u l) M) : Under w0 L u l := fun _ h => (h.split s).rolAt_ro.ro_reads
theorem Sat.rol_len (h : Sat w0 w (RoL w0 v rs :: L)) : ∃ a c, v = .slice a rs.length c ∧ rs.length ≤ c ∧ c ≤ maxLen ∧ ∀ k, k < rs.length → ∃ ad, a = some ad := by
  obtain ⟨hb, g, hg, h1, h2, hd, l1, l2, ⟨a, c, vs, e, k1, k2, k3, k4, k5, k6⟩, hl⟩ := id h
  refine ⟨a, c, e, k1, k2, fun k hk => ?_⟩
  cases a with
  | none => rw [k3 rfl] at hk; simp at hk
  | some ad => exact ⟨ad, rfl⟩
end

section
variable {P : Program} {w0 w : World} {L M : List Asn} {a : Act} {K : Act → World → Prop} {Q : Exit → Act → World → Prop}
  {d : Option Tmp} {ty : TypeId} {pos : String} {aft : Array Edge} {gd : Option (Nat × Bool)}
/-- A place of the lists, loaded. -/
theorem wp_rol_load {t : TypeId} {x : Operand} {ad : Addr} {u : Value} {l : List UInt8} (hS : Sat w0 w L) (hx : a.eval x = .pointer (some ad)) (hp : Split L (RoLAt w0 ad u l) M)
    (hag : ∀ w, (isAgg t).run P w = .ok false w) (hK : K (a.put d u) w) : (Oper.mk d (.load t x) ty pos aft gd).wp P a w K Q := by
  have hc := (hS.split hp).rolAt_cell
  have hr : (loadVar t ad).run P w = .ok u w := by simp [loadVar, hag, hc]
  unfold Oper.wp execOp
  simp only [hx, Instr.loadAt, Instr.sureAddr, Sem.run_bind, Sem.run_pure, Result.andThen_ok, hr]
  exact hK
/-- A list of nothing, written down. -/
theorem wp_lit_empty {t e : TypeId} {sz : Nat} (hS : Sat w0 w L) (ht : ∀ w, (underlying t).run P w = .ok (.slice e) w) (hs : ∀ w, (sizeOf e).run P w = .ok sz w)
    (hK : ∀ (w' : World) (b : Nat), Sat w0 w' (Ro w0 (.slice (some ⟨b, 0, none⟩) 0 0) [] :: L) → K (a.put d (.slice (some ⟨b, 0, none⟩) 0 0)) w') : (Oper.mk d (.buildSlice t 0 #[]) ty pos aft gd).wp P a w K Q := by
  have hr : (Instr.buildSlice t 0 (#[] : Array (Nat × Value))).run P w = .ok (.slice (some ⟨w.heap.size, 0, none⟩) 0 0) (w.alloc (.cells #[] e)) := by
    have h9 : ∀ f : Nat → Value, Array.map f (Array.range 0) = #[] := fun f => Array.eq_empty_of_size_eq_zero (by simp)
    simp [Instr.buildSlice, ht, hs, Instr.fill, newRow, newObj, h9]
    rfl
  unfold Oper.wp execOp
  simp only [Array.map_empty, Sem.run_bind, hr, Result.andThen_ok]
  exact hK _ _ (((hS.alloc _).drop).ro_empty _ 0 (Nat.zero_le _))
theorem wp_lit_row {t e e' : TypeId} {sz : Nat} (hS : Sat w0 w L) (ht : ∀ w, (underlying t).run P w = .ok (.slice e) w) (hs : ∀ w, (sizeOf e).run P w = .ok sz w)
    (hK : ∀ (w' : World) (b : Nat), Sat w0 w' (Row e' 1 (.slice (some ⟨b, 0, none⟩) 0 0) 0 [] :: L) → K (a.put d (.slice (some ⟨b, 0, none⟩) 0 0)) w') : (Oper.mk d (.buildSlice t 0 #[]) ty pos aft gd).wp P a w K Q := by
  have hr : (Instr.buildSlice t 0 (#[] : Array (Nat × Value))).run P w = .ok (.slice (some ⟨w.heap.size, 0, none⟩) 0 0) (w.alloc (.cells #[] e)) := by
    have h9 : ∀ f : Nat → Value, Array.map f (Array.range 0) = #[] := fun f => Array.eq_empty_of_size_eq_zero (by simp)
    simp [Instr.buildSlice, ht, hs, Instr.fill, newRow, newObj, h9]
    rfl
  unfold Oper.wp execOp
  simp only [Array.map_empty, Sem.run_bind, hr, Result.andThen_ok]
  exact hK _ _ (((hS.alloc _).drop).row_nil _ _ _)
/-- A literal's bytes, as '[]byte("..")' has them: the row is marked, and is read and written as it was. -/
theorem wp_lit_conv {t e e' : TypeId} {x : Operand} {g n : Nat} {l : List UInt8} (hS : Sat w0 w L) (hx : a.eval x = .slice (some ⟨g, 0, none⟩) n n) (hp : Split L (Blk g (.cells (l.map B).toArray e')) M) (hn : n = l.length) (ht : P.underlying t = some (.slice e)) (he : P.underlying e = some (.int .u8)) (hl : n ≤ 1000)
    (hK : ∀ w' : World, Sat w0 w' (Bytes e' (.slice (some ⟨g, 0, none⟩) n n) l :: M) → K (a.put d (.slice (some ⟨g, 0, none⟩) n n)) w') : (Oper.mk d (.convert t t x) ty pos aft gd).wp P a w K Q := by
  subst hn
  have hb := hS.split hp
  have hat := hb.at
  have hsz : ((l.map B).toArray).size = l.length := by simp
  have hsh : w.shape? g = some (e', l.length) := by
    unfold World.shape?
    rw [hat]
    simp
  obtain ⟨w2, hw2⟩ : ∃ w2, w2 = w.freeze ⟨g, l.length, none⟩ 1 := ⟨_, rfl⟩
  have hr : (convert t t (.slice (some ⟨g, 0, none⟩) l.length l.length)).run P w = .ok (.slice (some ⟨g, 0, none⟩) l.length l.length) w2 := by
    simp [convert, run_underlying ht, run_underlying he, markStringish, hsh, hw2]
  unfold Oper.wp execOp
  simp only [hx, Sem.run_bind, hr, Result.andThen_ok]
  refine hK _ ?_
  have hlt : g < w.heap.size := (Array.getElem?_eq_some_iff.1 hat).1
  have h2 : Sat w0 w2 (Blk g (.cells (l.map B).toArray e' (l.length, l.length + 1)) :: M) := by
    refine hb.upd (by rw [hw2]; unfold World.freeze; rw [if_neg (by decide)]) (by rw [hw2]; unfold World.freeze; rw [if_neg (by decide)]) (by rw [hw2]; unfold World.freeze; rw [if_neg (by decide)]) (by rw [hw2]; unfold World.freeze; rw [if_neg (by decide)]; simp) ?_ ?_
    · rw [hw2]
      unfold World.freeze
      rw [if_neg (by decide)]
      simp only [Array.getElem?_modify, if_true, hat, Option.map_some]
      simp
    · intro k hk hne
      rw [hw2]
      unfold World.freeze
      rw [if_neg (by decide)]
      simp only [Array.getElem?_modify]
      rw [if_neg (by omega)]
  refine h2.rowF (fun i hi => by rw [hsz] at hi; simp; omega) (by simp) (Nat.le_refl _) (by unfold maxLen; omega) (by rw [hsz]; omega) fun j u hu => ?_
  rw [Nat.zero_add]
  simpa using hu
/-- Its bytes as a string. -/
theorem wp_rol_string {t u e : TypeId} {x : Operand} {ad : Addr} {v : Value} {l : List UInt8} (hS : Sat w0 w L) (hx : a.eval x = v) (hp : Split L (RoLAt w0 ad v l) M) (hs : P.underlying t = some (.slice e)) (he : P.underlying e = some (.int .u8)) (hd : P.underlying u = some .string)
    (hK : K (a.put d (S l)) w) : (Oper.mk d (.convert t u x) ty pos aft gd).wp P a w K Q := wp_string hx (hS.split hp).rolAt_ro.ro_reads hs he hd hK
theorem wp_strne_other {t t2 : TypeId} {x y : Operand} {l m : List UInt8} (hx : a.eval x = S l) (hy : a.eval y = S m) (h : l ≠ m)
    (hK : K (a.put d (.bool true)) w) : (Oper.mk d (.binOp .neq t x y t2) ty pos aft gd).wp P a w K Q := by
  refine wp_strne hx hy ?_
  rw [show (!(l == m)) = true by simp [h]]
  exact hK
end
end Go.Sp
namespace Go.Proofs.YtndnojbpapjdoaaDoor
open Go.Sp Go.RowKit Go.Fld Go.Sha Go.Dr Go.Jr
section
variable {w0 w : World} {L M : List Asn} {v : Value} {rs : List (List UInt8)}
/-- Owned lists are frozen. -/
theorem _root_.Go.Sp.Sat.rol (hS : Sat w0 w (Recs w0 v rs :: L)) : Sat w0 w (RoL w0 v rs :: L) := by
  obtain ⟨vs, hvl, h1⟩ := recs_open hS
  obtain ⟨hl, ⟨a, rfl, h0, hn, hs⟩ | ⟨g, off, cap, cur, rfl, c1, c2, c3, c4, f, hf, hs⟩⟩ := h1.row_cases
  · have hr0 : rs = [] := List.eq_nil_of_length_eq_zero h0
    subst hr0
    exact (Sat.emp.2 hs.drop).head fun g _ => ⟨a, 0, vs, rfl, Nat.le_refl _, Nat.zero_le _, fun _ => rfl, hvl, (fun ad _ j u hu => by rw [hn] at hu; cases hu), fun p hp => by simp at hp⟩
  · have h2 : Sat w0 w (Both (Fz g (.cells cur 22 f)) (RoAll w0 (vs.zip rs)) :: L) := Sat.both.2 hs.freeze
    refine h2.head fun h hb => ?_
    obtain ⟨k1, k2, hd, l1, l2, ha, k3, k4, hd', l3, l4, hb, _⟩ := hb
    refine ⟨some ⟨g, off, none⟩, cap, vs, rfl, c1, c2, (fun e => by cases e), hvl, fun ad had j u hu => ?_, fun p hp => ro_mono (hb p hp) (l3.trans l2)⟩
    cases had
    exact .inr ⟨g, off + j, cur, _, f, addr_add _ _ _, l1 _ _ ha, c4 j u hu⟩
/-- Lists of lists, copied: where an append takes them from. -/
theorem srcRow {e : TypeId} {a : Option Addr} {n c : Nat} {vs : List Value} (hS : Sat w0 w L) (hp : Split L (Row e 1 (.slice a n c) n vs) M) (h1 : ∀ u ∈ vs, u.oneCell' = true) : Src Tryd.prog w 60 1 (.slice a n c) n vs := by
  have h := hS.split hp
  obtain ⟨hl, ⟨a', hv, h0, hcs, _⟩ | ⟨g, off, cap, cur, hv, _⟩⟩ := h.row_cases
  · cases hv
    subst hcs
    exact Src.none Tryd.underlying60 _ _
  · cases hv
    exact Src.slice Tryd.underlying60 _ _ _ _ hl (fun j u hu => h.row_cells rfl _ rfl j u hu) h1
theorem roAll_one {vs : List Value} (hS : Sat w0 w (RoAll w0 (vs.zip rs) :: L)) (hl : vs.length = rs.length) : ∀ u ∈ vs, u.oneCell' = true := by
  intro u hu
  obtain ⟨k, hk⟩ := List.getElem?_of_mem hu
  have hlt : k < rs.length := by have := (List.getElem?_eq_some_iff.1 hk).1; omega
  have hm : (u, rs[k]) ∈ vs.zip rs := List.mem_of_getElem? (i := k) (by rw [List.getElem?_zip_eq_some]; exact ⟨hk, List.getElem?_eq_getElem hlt⟩)
  obtain ⟨a, c, rfl, _⟩ := roAll_get hS hm
  rfl
theorem srcRoV {a : Option Addr} {n c : Nat} {vs : List Value} (hS : Sat w0 w L) (hp : Split L (RoV w0 a vs) M) (hn : vs.length = n) (h1 : ∀ u ∈ vs, u.oneCell' = true) : Src Tryd.prog w 60 1 (.slice a n c) n vs := by
  subst hn
  obtain ⟨h0, h⟩ := (hS.split hp).rov_cells
  cases a with
  | none =>
    have := h0 rfl
    subst this
    exact Src.none Tryd.underlying60 _ _
  | some ad => exact Src.slice Tryd.underlying60 _ _ _ _ (by simp) (fun j u hu => h ad rfl j u hu) h1
theorem rol_open {a : Option Addr} {n c : Nat} (hS : Sat w0 w (RoL w0 (.slice a n c) rs :: L)) : ∃ vs : List Value, vs.length = rs.length ∧ (∀ u ∈ vs, u.oneCell' = true) ∧ Sat w0 w (RoV w0 a vs :: RoAll w0 (vs.zip rs) :: RoL w0 (.slice a n c) rs :: L) := by
  have hS2 := (hS.dup (pers_rol _ _ _)).dup (pers_rol _ _ _)
  obtain ⟨hb, g, hg, h1, h2, hd, l1, l2, ⟨a', c', vs, e, k1, k2, k3, k4, k5, k6⟩, h3, h4, hd', l3, l4, hx, hl⟩ := id hS2
  cases e
  have hS3 : Sat w0 w (RoV w0 a vs :: RoAll w0 (vs.zip rs) :: RoL w0 (.slice a rs.length c) rs :: L) := by
    have q1 : Sat w0 w (Both (RoV w0 a vs) (RoAll w0 (vs.zip rs)) :: RoL w0 (.slice a rs.length c) rs :: L) := by
      refine ⟨hb, g, hg, h1, h4, hd.le (Le.refl _) l4, l1, l4.trans l2, ?_, hl⟩
      refine ⟨cold h1, h1, cold_apart _ _, cold_le _, Le.refl _, ⟨fun e => List.eq_nil_of_length_eq_zero (by rw [k4, k3 e]; rfl), fun ad had j u hu => ever_cold (k5 ad had j u hu)⟩, h1, noPH, apart_no _, Le.refl _, no_le _, fun p hp => k6 p hp, trivial⟩
    exact Sat.both.1 q1
  exact ⟨vs, k4, roAll_one hS3.drop k4, hS3⟩
end
end Go.Proofs.YtndnojbpapjdoaaDoor
