/- A script of a journal's calls, as a law is handed it. No program is named here. -/
import Derived.Test.YtndnojbpapjdoaaDoorOpn
set_option linter.unusedSimpArgs false
set_option linter.unusedVariables false
set_option linter.unusedSectionVars false
namespace Go.Sp
open Go.ChangeShapes Go.WideShapes Go.ChangeAt Go.RowKit Go.Deep

structure JOp where
  kind : Int
  bytes : List UInt8
  n : Int
  at_ : Int
  n0 : Int
  n1 : Int
  n2 : Int
  n3 : Int
def JOp.cells (o : JOp) (bv : Value) : List Value := [.int .i64 o.kind, bv, .int .i64 o.n, .int .i64 o.at_, .int .i64 o.n0, .int .i64 o.n1, .int .i64 o.n2, .int .i64 o.n3]
/-- One record of a script, in memory. -/
structure JOpAt (w : World) (ad : Addr) (o : JOp) (bv : Value) : Prop where
  cells : ∀ (j : Nat) (u : Value), (o.cells bv)[j]? = some u → w.cell? (ad.add j) = some u
  reads : Reads w bv o.bytes
def JScript (w : World) (v : Value) (ops : List JOp) : Prop :=
  ∃ a c, v = .slice a ops.length c ∧ ops.length ≤ c ∧ c ≤ maxLen ∧ ∀ j o, ops[j]? = some o → ∃ ad bv, a = some ad ∧ JOpAt w (ad.add (j * 8)) o bv
section
variable {H : Type} {enc : TypeId × Value → H} {P : Program} {W : World}
theorem ints_of_array {t e : TypeId} {fuel n : Nat} {cs : List Value} {x : DataW H × List MemPlace} (ht : P.underlying t = some (.array n e)) (he : P.underlying e = some (.int .i64)) (hc : P.cellsOf e = 1)
    (h : DataW.trod enc P W 0 (fun _ => true) true fuel t cs = some x) : ∀ i, i < n → ∃ z, cs[i]? = some (.int .i64 z) := by
  obtain ⟨xs, m, _, hx, hcl, hxl, hi⟩ := DataW.trod_array ht h
  intro i hin
  have h1 := hi i hin
  rw [hc, Nat.mul_one] at h1
  obtain ⟨y, hy⟩ : ∃ y, xs[i]? = some y := ⟨xs[i]'(by omega), List.getElem?_eq_getElem _⟩
  rw [hy] at h1
  obtain ⟨z, hcs, _, _⟩ := DataW.trod_int he h1
  refine ⟨z, ?_⟩
  have h4 : (cs.drop i)[0]? = some (.int .i64 z) := by
    have h5 : ((cs.drop i).take 1)[0]? = some (.int .i64 z) := by rw [hcs]; rfl
    rw [List.getElem?_take] at h5
    simpa using h5
  rw [List.getElem?_drop] at h4
  simpa using h4
theorem open_jscript {r : Reach} {b0 : Nat} {t e tk tb tn ta tN te : TypeId} {fs : Array Field} {v : Value} {d : DataW H} {ps : List MemPlace}
    (ht : P.underlying t = some (.slice e)) (he : P.underlying e = some (.struct fs)) (hfs : fs.map (fun f => (f.type, f.offset)) = #[(tk, 0), (tb, 1), (tn, 2), (ta, 3), (tN, 4)]) (hC : P.cellsOf e = 8)
    (hk : P.underlying tk = some (.int .i64)) (hb : P.underlying tb = some (.slice te)) (hu : P.underlying te = some (.int .u8)) (hn : P.underlying tn = some (.int .i64)) (ha : P.underlying ta = some (.int .i64)) (hN : P.underlying tN = some (.array 4 tk))
    (ck : P.cellsOf tk = 1) (cb : P.cellsOf tb = 1) (cn : P.cellsOf tn = 1) (ca : P.cellsOf ta = 1) (cN : P.cellsOf tN = 4) (cu : P.cellsOf te = 1) (bu : P.bytesOf te = 1)
    (hval : Value.okWide P W r b0 t v) (h : DataW.Trod enc P W 0 (fun _ => true) true t v d ps) (hz : Sized P t d) : ∃ ops, JScript W v ops ∧ ∀ o ∈ ops, o.bytes.length ≤ reachBytes := by
  obtain ⟨a0, len, cap, rfl⟩ := okWide_slice ht hval
  obtain ⟨fuel, hfu⟩ := h
  rcases open_slice ht hfu with ⟨hcs, _⟩ | ⟨a, len', cap', m, n, D, Pl, hcs, _, hl, hm, hmm, hd, hi⟩
  · simp only [Value.cells, List.cons.injEq, and_true] at hcs
    obtain ⟨rfl, rfl, rfl⟩ : a0 = none ∧ len = 0 ∧ cap = 0 := by simpa using hcs
    exact ⟨[], ⟨none, 0, rfl, Nat.le_refl _, Nat.zero_le _, (fun _ _ h => by cases h)⟩, (fun _ h => by cases h)⟩
  · obtain ⟨rfl, rfl, rfl⟩ : a0 = some a ∧ len = len' ∧ cap = cap' := by simpa [Value.cells] using hcs
    simp only [if_true] at hmm
    subst hmm
    simp only [Prod.mk.injEq] at hd
    rw [hd.1] at hz
    have hz1 := (sized_slice ht hz).2
    obtain ⟨ops, hlen, hops⟩ := list_of_all (p := fun i o => (∃ bv, JOpAt W (a.add (i * 8)) o bv) ∧ o.bytes.length ≤ reachBytes) len fun i hil => by
      obtain ⟨cs', hc, htr⟩ := hi i (by omega)
      have hzi : Sized P e (D i) := hz1 _ (List.mem_map_of_mem (List.mem_range.2 hil))
      rw [hC] at hc
      obtain ⟨xs, n', _, hDi, hlen8, hxs, hfld⟩ := DataW.trod_struct he htr
      simp only [Prod.mk.injEq] at hDi
      rw [hDi.1] at hzi
      obtain ⟨_, hcl, hat⟩ := World.cells?_some hc
      have hsz : fs.size = 5 := by simpa using congrArg Array.size hfs
      have fld : ∀ j (hj : j < 5) tt, (#[(tk, 0), (tb, 1), (tn, 2), (ta, 3), (tN, 4)] : Array (TypeId × Nat))[j]? = some (tt, j) → ∃ f, fs[j]? = some f ∧ f.type = tt ∧ f.offset = j := by
        intro j hj tt h
        rw [← hfs] at h
        simp only [Array.getElem?_map, Option.map_eq_some_iff] at h
        obtain ⟨f, h1, h2⟩ := h
        cases h2
        exact ⟨f, h1, rfl, rfl⟩
      have hd : ∀ j, j < 8 → ∃ u, cs'[j]? = some u ∧ (cs'.drop j).take 1 = [u] := fun j hj => by
        refine ⟨cs'[j]'(by omega), List.getElem?_eq_getElem (by omega), ?_⟩
        rw [List.drop_eq_getElem_cons (by omega)]
        rfl
      have hx : ∀ j, j < 5 → ∃ x, xs[j]? = some x := fun j hj => ⟨xs[j]'(by omega), List.getElem?_eq_getElem (by omega)⟩
      obtain ⟨f0, g0, y0, z0⟩ := fld 0 (by omega) tk rfl
      obtain ⟨f1, g1, y1, z1⟩ := fld 1 (by omega) tb rfl
      obtain ⟨f2, g2, y2, z2⟩ := fld 2 (by omega) tn rfl
      obtain ⟨f3, g3, y3, z3⟩ := fld 3 (by omega) ta rfl
      obtain ⟨f4, g4, y4, z4⟩ := fld 4 (by omega) tN rfl
      obtain ⟨u0, e0, k0⟩ := hd 0 (by omega)
      obtain ⟨u1, e1, k1⟩ := hd 1 (by omega)
      obtain ⟨u2, e2, k2⟩ := hd 2 (by omega)
      obtain ⟨u3, e3, k3⟩ := hd 3 (by omega)
      obtain ⟨x0, q0⟩ := hx 0 (by omega)
      obtain ⟨x1, q1⟩ := hx 1 (by omega)
      obtain ⟨x2, q2⟩ := hx 2 (by omega)
      obtain ⟨x3, q3⟩ := hx 3 (by omega)
      obtain ⟨x4, q4⟩ := hx 4 (by omega)
      have t0 := hfld 0 f0 g0
      have t1 := hfld 1 f1 g1
      have t2 := hfld 2 f2 g2
      have t3 := hfld 3 f3 g3
      have t4 := hfld 4 f4 g4
      have hz1' : Sized P tb x1.1 := by
        rw [← y1]
        exact sized_struct he hzi 1 f1 x1.1 g1 (by simp [q1])
      rw [y0, z0, ck, k0, q0] at t0
      rw [y1, z1, cb, k1, q1] at t1
      rw [y2, z2, cn, k2, q2] at t2
      rw [y3, z3, ca, k3, q3] at t3
      rw [y4, z4, cN, q4] at t4
      obtain ⟨i0, v0, _, _⟩ := DataW.trod_int hk t0
      obtain ⟨i2, v2, _, _⟩ := DataW.trod_int hn t2
      obtain ⟨i3, v3, _, _⟩ := DataW.trod_int ha t3
      obtain ⟨l, hlr⟩ := reads_of_trod hb hu cu t1
      have hints := ints_of_array hN hk ck t4
      obtain ⟨w0, hw0⟩ := hints 0 (by omega)
      obtain ⟨w1, hw1⟩ := hints 1 (by omega)
      obtain ⟨w2, hw2⟩ := hints 2 (by omega)
      obtain ⟨w3, hw3⟩ := hints 3 (by omega)
      have dr : ∀ i z, ((cs'.drop 4).take 4)[i]? = some (Value.int .i64 z) → cs'[4 + i]? = some (.int .i64 z) := fun i z h => by
        rw [List.getElem?_take] at h
        split at h
        · rwa [List.getElem?_drop] at h
        · cases h
      have hle : l.length ≤ reachBytes := by
        obtain ⟨a3, c3, hv3, _⟩ := hlr
        exact len_of_trod hb bu t1 hv3 hz1'
      simp only [List.cons.injEq, and_true] at v0 v2 v3
      subst v0 v2 v3
      refine ⟨⟨i0, l, i2, i3, w0, w1, w2, w3⟩, ⟨u1, fun j u hu => ?_, hlr⟩, hle⟩
      have hj : j < 8 := by have := (List.getElem?_eq_some_iff.1 hu).1; simpa [JOp.cells] using this
      refine (hat j hj).trans ?_
      rcases j with _ | _ | _ | _ | _ | _ | _ | _ | j
      · cases hu; exact e0
      · cases hu; exact e1
      · cases hu; exact e2
      · cases hu; exact e3
      · cases hu; exact dr 0 _ hw0
      · cases hu; exact dr 1 _ hw1
      · cases hu; exact dr 2 _ hw2
      · cases hu; exact dr 3 _ hw3
      · omega
    refine ⟨ops, ⟨some a, m, by rw [hlen], by omega, hm, fun j o ho => ?_⟩, fun o ho => ?_⟩
    · obtain ⟨bv, hbv⟩ := (hops j o ho).1
      exact ⟨a, bv, rfl, hbv⟩
    · obtain ⟨j, hj⟩ := List.getElem?_of_mem ho
      exact (hops j o hj).2
end
theorem and_small (x : Int) (m : Nat) (hm : m = 1 ∨ m = 15) : ∃ k : Nat, bits BinOp.and IntKind.i64 x (m : Int) = (k : Int) ∧ k ≤ m := by
  refine ⟨(BitVec.ofInt IntKind.i64.bits x).toNat % (m + 1), ?_, by rcases hm with rfl | rfl <;> omega⟩
  have h1 : (BitVec.ofInt IntKind.i64.bits x &&& BitVec.ofInt IntKind.i64.bits (m : Int)).toNat = (BitVec.ofInt IntKind.i64.bits x).toNat % (m + 1) := by
    rw [BitVec.toNat_and]
    rcases hm with rfl | rfl
    · exact Nat.and_one_is_mod _
    · exact Nat.and_two_pow_sub_one_eq_mod _ 4
  unfold bits
  simp only [h1]
  generalize (BitVec.ofInt IntKind.i64.bits x).toNat = y
  have h2 : y % (m + 1) ≤ 15 := by rcases hm with rfl | rfl <;> omega
  have h3 : ∀ z : Nat, z < 16 → IntKind.i64.wrap (z : Int) = (z : Int) := by decide
  exact h3 _ (by omega)
end Go.Sp
