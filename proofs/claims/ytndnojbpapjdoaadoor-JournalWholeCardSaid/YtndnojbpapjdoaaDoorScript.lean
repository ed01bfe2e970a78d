/- A script of calls, as a law is handed it: a slice of records of three numbers and a []byte. No program is named here. -/
import Derived.Test.YtndnojbpapjdoaaDoorFrame
import Derived.Deep.Slices
set_option linter.unusedSimpArgs false
set_option linter.unusedVariables false
set_option linter.unusedSectionVars false
namespace Go.Sp
open Go.ChangeShapes Go.WideShapes Go.ChangeAt Go.RowKit Go.Deep

structure SOp where
  kind : Int
  fin : Int
  n : Int
  bytes : List UInt8

/-- One record of a script, in memory. -/
structure OpAt (w : World) (ad : Addr) (o : SOp) (bv : Value) : Prop where
  kind : w.cell? ad = some (.int .i64 o.kind)
  fin : w.cell? (ad.add 1) = some (.int .i64 o.fin)
  n : w.cell? (ad.add 2) = some (.int .i64 o.n)
  bytes : w.cell? (ad.add 3) = some bv
  reads : Reads w bv o.bytes
def Script (w : World) (v : Value) (ops : List SOp) : Prop :=
  ∃ a c, v = .slice a ops.length c ∧ ops.length ≤ c ∧ c ≤ maxLen ∧ ∀ j o, ops[j]? = some o → ∃ ad bv, a = some ad ∧ OpAt w (ad.add (j * 4)) o bv

theorem list_of_all {α : Type} {p : Nat → α → Prop} : ∀ n : Nat, (∀ i, i < n → ∃ a, p i a) → ∃ l : List α, l.length = n ∧ ∀ i a, l[i]? = some a → p i a
  | 0, _ => ⟨[], rfl, fun _ _ h => by cases h⟩
  | n + 1, h => by
    obtain ⟨l, hl, hp⟩ := list_of_all n fun i hi => h i (by omega)
    obtain ⟨a, ha⟩ := h n (by omega)
    refine ⟨l ++ [a], by simp [hl], fun i b hb => ?_⟩
    by_cases hi : i < n
    · exact hp i b (by rwa [List.getElem?_append_left (by omega)] at hb)
    · rw [List.getElem?_append_right (by omega)] at hb
      obtain rfl : i = n := by
        rcases Nat.lt_or_ge (i - l.length) 1 with h1 | h1
        · omega
        · rw [List.getElem?_eq_none (by simpa using h1)] at hb
          cases hb
      rw [hl, Nat.sub_self] at hb
      cases hb
      exact ha

theorem add_zero' (a : Addr) : a.add 0 = a := by simp [Addr.add]

theorem open_script {H : Type} {enc : TypeId × Value → H} {P : Program} {r : Reach} {b0 : Nat} {t e tk tf tn tb te : TypeId} {fs : Array Field} {W : World} {v : Value} {d : DataW H} {ps : List MemPlace}
    (ht : P.underlying t = some (.slice e)) (he : P.underlying e = some (.struct fs)) (hfs : fs.map (fun f => (f.type, f.offset)) = #[(tk, 0), (tf, 1), (tn, 2), (tb, 3)]) (hC : P.cellsOf e = 4)
    (hk : P.underlying tk = some (.int .i64)) (hf : P.underlying tf = some (.int .i64)) (hn : P.underlying tn = some (.int .i64)) (hb : P.underlying tb = some (.slice te)) (hu : P.underlying te = some (.int .u8))
    (ck : P.cellsOf tk = 1) (cf : P.cellsOf tf = 1) (cn : P.cellsOf tn = 1) (cb : P.cellsOf tb = 1) (cu : P.cellsOf te = 1)
    (hval : Value.okWide P W r b0 t v) (h : DataW.Trod enc P W 0 (fun _ => true) true t v d ps) : ∃ ops, Script W v ops := by
  obtain ⟨a0, len, cap, rfl⟩ := okWide_slice ht hval
  obtain ⟨fuel, hfu⟩ := h
  rcases open_slice ht hfu with ⟨hcs, _⟩ | ⟨a, len', cap', m, n, D, Pl, hcs, _, hl, hm, hmm, _, hi⟩
  · simp only [Value.cells, List.cons.injEq, and_true] at hcs
    obtain ⟨rfl, rfl, rfl⟩ : a0 = none ∧ len = 0 ∧ cap = 0 := by simpa using hcs
    exact ⟨[], none, 0, rfl, Nat.le_refl _, Nat.zero_le _, fun _ _ h => by cases h⟩
  · obtain ⟨rfl, rfl, rfl⟩ : a0 = some a ∧ len = len' ∧ cap = cap' := by simpa [Value.cells] using hcs
    simp only [if_true] at hmm
    subst hmm
    obtain ⟨ops, hlen, hops⟩ := list_of_all (p := fun i o => ∃ bv, OpAt W (a.add (i * 4)) o bv) len fun i hil => by
      obtain ⟨cs', hc, htr⟩ := hi i (by omega)
      rw [hC] at hc
      obtain ⟨xs, n', _, _, hlen4, hxs, hfld⟩ := DataW.trod_struct he htr
      obtain ⟨_, hcl, hat⟩ := World.cells?_some hc
      have hsz : fs.size = 4 := by simpa using congrArg Array.size hfs
      have fld : ∀ j (hj : j < 4) tt, (#[(tk, 0), (tf, 1), (tn, 2), (tb, 3)] : Array (TypeId × Nat))[j]? = some (tt, j) → ∃ f, fs[j]? = some f ∧ f.type = tt ∧ f.offset = j := by
        intro j hj tt h
        rw [← hfs] at h
        simp only [Array.getElem?_map, Option.map_eq_some_iff] at h
        obtain ⟨f, h1, h2⟩ := h
        cases h2
        exact ⟨f, h1, rfl, rfl⟩
      have hd : ∀ j, j < 4 → ∃ u, cs'[j]? = some u ∧ (cs'.drop j).take 1 = [u] := fun j hj => by
        refine ⟨cs'[j]'(by omega), List.getElem?_eq_getElem (by omega), ?_⟩
        rw [List.drop_eq_getElem_cons (by omega)]
        rfl
      have hx : ∀ j, j < 4 → ∃ x, xs[j]? = some x := fun j hj => ⟨xs[j]'(by omega), List.getElem?_eq_getElem (by omega)⟩
      obtain ⟨f0, g0, y0, z0⟩ := fld 0 (by omega) tk rfl
      obtain ⟨f1, g1, y1, z1⟩ := fld 1 (by omega) tf rfl
      obtain ⟨f2, g2, y2, z2⟩ := fld 2 (by omega) tn rfl
      obtain ⟨f3, g3, y3, z3⟩ := fld 3 (by omega) tb rfl
      obtain ⟨u0, e0, k0⟩ := hd 0 (by omega)
      obtain ⟨u1, e1, k1⟩ := hd 1 (by omega)
      obtain ⟨u2, e2, k2⟩ := hd 2 (by omega)
      obtain ⟨u3, e3, k3⟩ := hd 3 (by omega)
      obtain ⟨x0, q0⟩ := hx 0 (by omega)
      obtain ⟨x1, q1⟩ := hx 1 (by omega)
      obtain ⟨x2, q2⟩ := hx 2 (by omega)
      obtain ⟨x3, q3⟩ := hx 3 (by omega)
      have t0 := hfld 0 f0 g0
      have t1 := hfld 1 f1 g1
      have t2 := hfld 2 f2 g2
      have t3 := hfld 3 f3 g3
      rw [y0, z0, ck, k0, q0] at t0
      rw [y1, z1, cf, k1, q1] at t1
      rw [y2, z2, cn, k2, q2] at t2
      rw [y3, z3, cb, k3, q3] at t3
      obtain ⟨i0, v0, _, _⟩ := DataW.trod_int hk t0
      obtain ⟨i1, v1, _, _⟩ := DataW.trod_int hf t1
      obtain ⟨i2, v2, _, _⟩ := DataW.trod_int hn t2
      obtain ⟨l, hlr⟩ := reads_of_trod hb hu cu t3
      simp only [List.cons.injEq, and_true] at v0 v1 v2
      subst v0 v1 v2
      refine ⟨⟨i0, i1, i2, l⟩, u3, ?_, ?_, ?_, ?_, hlr⟩
      · have := hat 0 (by omega); rw [e0, add_zero'] at this; exact this
      · exact (hat 1 (by omega)).trans e1
      · exact (hat 2 (by omega)).trans e2
      · exact (hat 3 (by omega)).trans e3
    refine ⟨ops, some a, m, by rw [hlen], by omega, hm, fun j o ho => ?_⟩
    obtain ⟨bv, hbv⟩ := hops j o ho
    exact ⟨a, bv, rfl, hbv⟩

theorem OpAt.old {w0 w : World} {L : List Asn} {ad : Addr} {o : SOp} {bv : Value} (h : OpAt w0 ad o bv) (hS : Sat w0 w L) : OpAt w ad o bv := by
  have oc : ∀ {p : Addr} {v : Value}, w0.cell? p = some v → w.cell? p = some v := fun hc => (hS.cell (block_lt_of_cell hc)).trans hc
  obtain ⟨a, c, rfl, h1, h2, h3, h4⟩ := h.reads
  exact ⟨oc h.kind, oc h.fin, oc h.n, oc h.bytes, a, c, rfl, h1, h2, h3, fun ad had j u hu => oc (h4 ad had j u hu)⟩
theorem OpAt.cells {w : World} {ad : Addr} {o : SOp} {bv : Value} (h : OpAt w ad o bv) : ∀ (j : Nat) (u : Value), ([.int .i64 o.kind, .int .i64 o.fin, .int .i64 o.n, bv] : List Value)[j]? = some u → w.cell? (ad.add j) = some u := by
  intro j u hu
  match j, hu with
  | 0, hu => cases hu; rw [add_zero']; exact h.kind
  | 1, hu => cases hu; exact h.fin
  | 2, hu => cases hu; exact h.n
  | 3, hu => cases hu; exact h.bytes
end Go.Sp
