/- What a law is handed is no greater than memory: how long its slices may be. No program is named here. -/
import Derived.Test.YtndnojbpapjdoaaDoorScript
set_option linter.unusedSimpArgs false
set_option linter.unusedVariables false
set_option linter.unusedSectionVars false
namespace Go.Sp
open Go.ChangeShapes Go.WideShapes Go.ChangeAt Go.RowKit Go.Deep

section
variable {H : Type} {enc : TypeId × Value → H} {P : Program} {W : World}
/-- All that the datum reaches is within memory. -/
def Sized (P : Program) (t : TypeId) (d : DataW H) : Prop := ∀ n ∈ d.weights P t, n ≤ reachBytes
theorem sized_slice {t e : TypeId} {el sp : List (DataW H)} (ht : P.underlying t = some (.slice e)) (h : Sized P t (.slice el sp)) : (el.length + sp.length) * P.bytesOf e ≤ reachBytes ∧ ∀ d ∈ el, Sized P e d := by
  unfold Sized at h
  simp only [DataW.weights, ht] at h
  refine ⟨h _ (List.mem_cons_self ..), ?_⟩
  have h2 : ∀ n ∈ DataW.weightsAll P e el, n ≤ reachBytes := fun n hn => h n (List.mem_cons_of_mem _ (List.mem_append_left _ hn))
  clear h
  induction el with
  | nil => intro d hd; cases hd
  | cons x xs ih =>
    simp only [DataW.weightsAll, List.mem_append] at h2
    intro d hd
    rcases List.mem_cons.1 hd with rfl | hd
    · exact fun n hn => h2 n (.inl hn)
    · exact ih (fun n hn => h2 n (.inr hn)) d hd
theorem sized_each : ∀ {ts : List TypeId} {ds : List (DataW H)}, (∀ n ∈ DataW.weightsEach P ts ds, n ≤ reachBytes) → ∀ (i : Nat) (t : TypeId) (d : DataW H), ts[i]? = some t → ds[i]? = some d → Sized P t d
  | [], _, _, i, t, d, ht, _ => by cases ht
  | _ :: _, [], _, i, t, d, _, hd => by cases hd
  | t0 :: ts, d0 :: ds, h, i, t, d, ht, hd => by
    simp only [DataW.weightsEach, List.mem_append] at h
    cases i with
    | zero => cases ht; cases hd; exact fun n hn => h n (.inl hn)
    | succ i => exact sized_each (fun n hn => h n (.inr hn)) i t d ht hd
theorem sized_struct {t : TypeId} {fs : Array Field} {parts : List (DataW H)} (ht : P.underlying t = some (.struct fs)) (h : Sized P t (.agg parts)) (i : Nat) (f : Field) (d : DataW H) (hf : fs[i]? = some f) (hd : parts[i]? = some d) : Sized P f.type d := by
  unfold Sized at h
  simp only [DataW.weights, ht] at h
  exact sized_each h i f.type d (by simp [hf]) hd
theorem sized_all {ts : List TypeId} {ds : List (DataW H)} (h : (DataW.weightsEach P ts ds).all (· ≤ reachBytes) = true) (i : Nat) (t : TypeId) (d : DataW H) (ht : ts[i]? = some t) (hd : ds[i]? = some d) : Sized P t d :=
  sized_each (fun n hn => by simpa using List.all_eq_true.1 h n hn) i t d ht hd

theorem len_of_trod {t e : TypeId} {fuel : Nat} {v : Value} {x : DataW H × List MemPlace} {a : Option Addr} {len cap : Nat} (ht : P.underlying t = some (.slice e)) (hbe : P.bytesOf e = 1)
    (h : DataW.trod enc P W 0 (fun _ => true) true fuel t [v] = some x) (hv : v = .slice a len cap) (hz : Sized P t x.1) : len ≤ reachBytes := by
  rcases open_slice ht h with ⟨hcs, _⟩ | ⟨a', len', cap', m, n, D, Pl, hcs, _, hl, hm, hmm, hx, hi⟩
  · subst hv
    simp only [List.cons.injEq, and_true] at hcs
    cases hcs
    exact Nat.zero_le _
  · subst hv
    simp only [List.cons.injEq, and_true] at hcs
    cases hcs
    rw [hx] at hz
    have := (sized_slice ht hz).1
    rw [hbe] at this
    simp at this
    omega

theorem open_script_sized {r : Reach} {b0 : Nat} {t e tk tf tn tb te : TypeId} {fs : Array Field} {v : Value} {d : DataW H} {ps : List MemPlace}
    (ht : P.underlying t = some (.slice e)) (he : P.underlying e = some (.struct fs)) (hfs : fs.map (fun f => (f.type, f.offset)) = #[(tk, 0), (tf, 1), (tn, 2), (tb, 3)]) (hC : P.cellsOf e = 4)
    (hk : P.underlying tk = some (.int .i64)) (hf : P.underlying tf = some (.int .i64)) (hn : P.underlying tn = some (.int .i64)) (hb : P.underlying tb = some (.slice te)) (hu : P.underlying te = some (.int .u8))
    (ck : P.cellsOf tk = 1) (cf : P.cellsOf tf = 1) (cn : P.cellsOf tn = 1) (cb : P.cellsOf tb = 1) (cu : P.cellsOf te = 1) (bu : P.bytesOf te = 1)
    (hval : Value.okWide P W r b0 t v) (h : DataW.Trod enc P W 0 (fun _ => true) true t v d ps) (hz : Sized P t d) : ∃ ops, Script W v ops ∧ ∀ o ∈ ops, o.bytes.length ≤ reachBytes := by
  obtain ⟨a0, len, cap, rfl⟩ := okWide_slice ht hval
  obtain ⟨fuel, hfu⟩ := h
  rcases open_slice ht hfu with ⟨hcs, _⟩ | ⟨a, len', cap', m, n, D, Pl, hcs, _, hl, hm, hmm, hd, hi⟩
  · simp only [Value.cells, List.cons.injEq, and_true] at hcs
    obtain ⟨rfl, rfl, rfl⟩ : a0 = none ∧ len = 0 ∧ cap = 0 := by simpa using hcs
    exact ⟨[], ⟨none, 0, rfl, Nat.le_refl _, Nat.zero_le _, (fun _ _ h => by cases h)⟩, (fun _ h => by cases h)⟩
  · obtain ⟨rfl, rfl, rfl⟩ : a0 = some a ∧ len = len' ∧ cap = cap' := by simpa [Value.cells] using hcs
    simp only [if_true] at hmm
    subst hmm
    simp only [Prod.mk.injEq] at hd
    rw [hd.1] at hz
    have hz1 := (sized_slice ht hz).2
    obtain ⟨ops, hlen, hops⟩ := list_of_all (p := fun i o => (∃ bv, OpAt W (a.add (i * 4)) o bv) ∧ o.bytes.length ≤ reachBytes) len fun i hil => by
      obtain ⟨cs', hc, htr⟩ := hi i (by omega)
      have hzi : Sized P e (D i) := hz1 _ (List.mem_map_of_mem (List.mem_range.2 hil))
      rw [hC] at hc
      obtain ⟨xs, n', _, hDi, hlen4, hxs, hfld⟩ := DataW.trod_struct he htr
      simp only [Prod.mk.injEq] at hDi
      rw [hDi.1] at hzi
      obtain ⟨_, hcl, hat⟩ := World.cells?_some hc
      have hsz : fs.size = 4 := by simpa using congrArg Array.size hfs
      have fld : ∀ j (hj : j < 4) tt, (#[(tk, 0), (tf, 1), (tn, 2), (tb, 3)] : Array (TypeId × Nat))[j]? = some (tt, j) → ∃ f, fs[j]? = some f ∧ f.type = tt ∧ f.offset = j := by
        intro j hj tt h
        rw [← hfs] at h
        simp only [Array.getElem?_map, Option.map_eq_some_iff] at h
        obtain ⟨f, h1, h2⟩ := h
        cases h2
        exact ⟨f, h1, rfl, rfl⟩
      have hd : ∀ j, j < 4 → ∃ u, cs'[j]? = some u ∧ (cs'.drop j).take 1 = [u] := fun j hj => by
        refine ⟨cs'[j]'(by omega), List.getElem?_eq_getElem (by omega), ?_⟩
        rw [List.drop_eq_getElem_cons (by omega)]
        rfl
      have hx : ∀ j, j < 4 → ∃ x, xs[j]? = some x := fun j hj => ⟨xs[j]'(by omega), List.getElem?_eq_getElem (by omega)⟩
      obtain ⟨f0, g0, y0, z0⟩ := fld 0 (by omega) tk rfl
      obtain ⟨f1, g1, y1, z1⟩ := fld 1 (by omega) tf rfl
      obtain ⟨f2, g2, y2, z2⟩ := fld 2 (by omega) tn rfl
      obtain ⟨f3, g3, y3, z3⟩ := fld 3 (by omega) tb rfl
      obtain ⟨u0, e0, k0⟩ := hd 0 (by omega)
      obtain ⟨u1, e1, k1⟩ := hd 1 (by omega)
      obtain ⟨u2, e2, k2⟩ := hd 2 (by omega)
      obtain ⟨u3, e3, k3⟩ := hd 3 (by omega)
      obtain ⟨x0, q0⟩ := hx 0 (by omega)
      obtain ⟨x1, q1⟩ := hx 1 (by omega)
      obtain ⟨x2, q2⟩ := hx 2 (by omega)
      obtain ⟨x3, q3⟩ := hx 3 (by omega)
      have t0 := hfld 0 f0 g0
      have t1 := hfld 1 f1 g1
      have t2 := hfld 2 f2 g2
      have t3 := hfld 3 f3 g3
      have hz3 : Sized P tb x3.1 := by
        rw [← y3]
        exact sized_struct he hzi 3 f3 x3.1 g3 (by simp [q3])
      rw [y0, z0, ck, k0, q0] at t0
      rw [y1, z1, cf, k1, q1] at t1
      rw [y2, z2, cn, k2, q2] at t2
      rw [y3, z3, cb, k3, q3] at t3
      obtain ⟨i0, v0, _, _⟩ := DataW.trod_int hk t0
      obtain ⟨i1, v1, _, _⟩ := DataW.trod_int hf t1
      obtain ⟨i2, v2, _, _⟩ := DataW.trod_int hn t2
      obtain ⟨l, hlr⟩ := reads_of_trod hb hu cu t3
      have hle : l.length ≤ reachBytes := by
        obtain ⟨a3, c3, hv3, _⟩ := hlr
        exact len_of_trod hb bu t3 hv3 hz3
      simp only [List.cons.injEq, and_true] at v0 v1 v2
      subst v0 v1 v2
      refine ⟨⟨i0, i1, i2, l⟩, ⟨u3, ?_, ?_, ?_, ?_, hlr⟩, hle⟩
      · have := hat 0 (by omega); rw [e0, add_zero'] at this; exact this
      · exact (hat 1 (by omega)).trans e1
      · exact (hat 2 (by omega)).trans e2
      · exact (hat 3 (by omega)).trans e3
    refine ⟨ops, ⟨some a, m, by rw [hlen], by omega, hm, fun j o ho => ?_⟩, fun o ho => ?_⟩
    · obtain ⟨bv, hbv⟩ := (hops j o ho).1
      exact ⟨a, bv, rfl, hbv⟩
    · obtain ⟨j, hj⟩ := List.getElem?_of_mem ho
      exact (hops j o hj).2

/-- A package variable that holds an error of errors.New. -/
structure Sentinel (P : Program) (W : World) (tp : TypeId) (n : String) (a : Addr) : Prop where
  at_ : ∀ g, P.globalNamed n = some g → W.cell? ⟨g, 0, none⟩ = some (.iface tp (.pointer (some a)))
  blk : ∃ c t, W.heap[a.block]? = some (.cells c t (0, 0))
/-- The datum of an error of errors.New. -/
def errD (text : List UInt8) : DataW Unit := .iface "*errors.errorString" (.ptr (.agg [.lit (.string text)]))

theorem laid_sentinels {tp te ts ti : TypeId} {ms : Array (String × TypeId)} {f : Field} (hi : P.underlying ti = some (.interface ms)) (hrow : ∀ u, P.typeName? 3 u = some "*errors.errorString" → u = tp)
    (hp : P.underlying tp = some (.pointer te)) (he : P.underlying te = some (.struct #[f])) (hft : f.type = ts) (hfo : f.offset = 0) (hs : P.underlying ts = some .string) (hc : P.cellsOf te = 1) (hcs : P.cellsOf ts = 1) :
    ∀ (l : List (String × DataW Unit)) (ps : List MemPlace), DataW.LaidVars P W l ps → ps.Nodup →
      (∀ b off, MemPlace.cell b off ∈ ps → (∃ c t, W.heap[b]? = some (.cells c t (0, 0))) ∧ ∀ u v, W.cell? ⟨b, off, none⟩ = some (.iface u v) → Value.okWide P W .any 0 u v) →
      ((l.all fun x => (P.globalNamed x.1).any fun g => (P.globals[g]?).map (·.type) == some ti || !(match x.2 with | .iface n _ => n == "*errors.errorString" | _ => false)) = true) →
      ∃ A : String → Addr, (∀ n text, (n, errD text) ∈ l → Sentinel P W tp n (A n) ∧ MemPlace.cell (A n).block (A n).off ∈ ps) ∧
        ∀ n m t1 t2, (n, errD t1) ∈ l → (m, errD t2) ∈ l → n ≠ m → A n ≠ A m
  | [], ps, _, _, _, _ => ⟨fun _ => ⟨0, 0, none⟩, (fun _ _ h => by cases h), (fun _ _ _ _ h => by cases h)⟩
  | (n0, d0) :: l, ps, h, hnd, hr, hty => by
    obtain ⟨g, t, cs, fuel, p, q, hg, hgt, hv, hd, hrest, rfl⟩ := h
    simp only [List.all_cons, Bool.and_eq_true] at hty
    obtain ⟨A, hA, hAp⟩ := laid_sentinels hi hrow hp he hft hfo hs hc hcs l q hrest (List.Nodup.sublist (List.sublist_append_right _ _) hnd) (fun b off hm => hr b off (List.mem_append_right _ hm)) hty.2
    by_cases herr : ∃ text, d0 = errD text
    case neg =>
      refine ⟨A, fun n text hm => ?_, fun n m t1 t2 hn hm hne => ?_⟩
      · rcases List.mem_cons.1 hm with e | e
        · cases e; exact (herr ⟨_, rfl⟩).elim
        · exact ⟨(hA n text e).1, List.mem_append_right _ (hA n text e).2⟩
      · rcases List.mem_cons.1 hn with e | e
        · cases e; exact (herr ⟨_, rfl⟩).elim
        · rcases List.mem_cons.1 hm with e' | e'
          · cases e'; exact (herr ⟨_, rfl⟩).elim
          · exact hAp n m t1 t2 e e' hne
    obtain ⟨text, rfl⟩ := herr
    have ht : t = ti := by
      have h1 := hty.1
      rw [hg] at h1
      simp only [Option.any_some, hgt, Bool.or_eq_true, beq_iff_eq, errD, BEq.rfl, Bool.not_true, Bool.false_eq_true, or_false, Option.some.injEq] at h1
      exact h1
    subst ht
    obtain ⟨l0⟩ := cs
    have ok0 : ∀ u v, l0 = [.iface u v] → Value.okWide P W .any 0 u v := fun u v e => by
      subst e
      exact (hr g 0 (by simp [MemPlace.row])).2 u v (by simpa using World.var?_cell hg hv 0)
    obtain ⟨a0, s0, rfl, hc0, hs0, hz0, rfl⟩ := errorString_of_trod hi hrow hp he hft hfo hs hc hcs hd ok0
    have hin : MemPlace.cell a0.block a0.off ∈ MemPlace.row (⟨g, 0, none⟩ : Addr) 1 ++ MemPlace.row a0 1 ++ q := by simp [MemPlace.row]
    have hs0 : Sentinel P W tp n0 a0 := by
      refine ⟨fun g' hg' => ?_, (hr a0.block a0.off hin).1⟩
      obtain rfl := Option.some.inj (hg.symm.trans hg')
      simpa using World.var?_cell hg hv 0
    have hfresh : ∀ m text, (m, errD text) ∈ l → a0 ≠ A m := fun m text hm e => by
      have h1 := (hA m text hm).2
      rw [← e] at h1
      have := (List.nodup_append.1 hnd).2.2 (MemPlace.cell a0.block a0.off) (by simp [MemPlace.row]) _ h1
      exact this rfl
    have hnot : ∀ text, (n0, errD text) ∉ l := fun text hm => by
      have h1 := (hA n0 text hm).1.at_ g hg
      have h2 := hs0.at_ g hg
      rw [h1] at h2
      simp only [Option.some.injEq, Value.iface.injEq, Value.pointer.injEq, true_and] at h2
      exact hfresh n0 text hm h2.symm
    refine ⟨fun m => if m = n0 then a0 else A m, fun n tx hm => ?_, fun n m t1 t2 hn hm hne => ?_⟩
    · rcases List.mem_cons.1 hm with e | e
      · cases e
        simp only [if_true]
        exact ⟨hs0, by simpa using hin⟩
      · have : n ≠ n0 := by rintro rfl; exact hnot tx e
        simp only [if_neg this]
        exact ⟨(hA n tx e).1, List.mem_append_right _ (hA n tx e).2⟩
    · rcases List.mem_cons.1 hn with e | e <;> rcases List.mem_cons.1 hm with e' | e'
      · cases e; cases e'; exact (hne rfl).elim
      · cases e
        simp only [if_true, if_neg (Ne.symm hne)]
        exact hfresh m t2 e'
      · cases e'
        simp only [if_true, if_neg hne]
        exact fun h => hfresh n t1 e h.symm
      · have h1 : n ≠ n0 := by rintro rfl; exact hnot t1 e
        have h2 : m ≠ n0 := by rintro rfl; exact hnot t2 e'
        simp only [if_neg h1, if_neg h2]
        exact hAp n m t1 t2 e e' hne
end
end Go.Sp
