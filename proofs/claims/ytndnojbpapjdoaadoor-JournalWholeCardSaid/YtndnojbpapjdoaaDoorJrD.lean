/- Package journal walked: blocks and heads read. -/
import Derived.Test.YtndnojbpapjdoaaDoorJrC
import Derived.Test.YtndnojbpapjdoaaDoorSpc
set_option linter.unusedSimpArgs false
set_option linter.unusedVariables false
set_option linter.unusedSectionVars false
namespace Go.Proofs.YtndnojbpapjdoaaDoor
open Go.Sp Go.RowKit Go.Fld Go.Sha Go.Dr Go.Jr

theorem ret_bool {a b : Bool} (h : a = b) : Ending.returned (.bool a) = .returned (.bool b) := by rw [h]
theorem ret_i64 {a b : Int} (h : a = b) : Ending.returned (.int .i64 a) = .returned (.int .i64 b) := by rw [h]
theorem need_any (n : Nat) (hn : n ≤ 1000000000) (w : World) : Calls Tryd.prog 61 #[.int .i64 (n : Int)] w fun r w' => r = .returned (.int .i64 (Jr.need n : Nat)) ∧ w = w' := by
  have hN := Lib.hid (show ((Jr.need n : Nat) : Int) = ((n : Int) + 2 + 46 - 1) / 46 by unfold Jr.need; omega)
  have hn' : (n : Int) ≤ 1000000000 := by omega
  go_enter Tryd.func61, Tryd.ntmps61
  go_wp2_with (fail)
  go_ret
  exact ⟨by rw [hN.out]; rfl, rfl⟩
theorem half_any (b : Nat) (d : Dr.Drum) (hn : 2 ≤ d.n) (hk : d.n ≤ 4096) (w0 w : World) (L : List Asn) (hS : Sat w0 w (isDrum b d :: L)) : Calls Tryd.prog 62 #[.pointer (some ⟨b, 0, none⟩)] w fun r w' => r = .returned (.int .i64 (Jr.half d.n : Nat)) ∧ w = w' := by
  have hN := Lib.hid (show ((Jr.half d.n : Nat) : Int) = ((d.n : Int) - 2) / 2 by unfold Jr.half; omega)
  have hn' : (2 : Int) ≤ (d.n : Int) := by omega
  have hk' : (d.n : Int) ≤ 4096 := by omega
  go_enter Tryd.func62, Tryd.ntmps62
  go_wp2_with ((go_at_call 67; ((with_reducible refine' (blocks_any b d w0 _ L hS).mono ?_); rintro r4 w4 ⟨rfl, rfl⟩)))
  go_ret
  exact ⟨by rw [hN.out]; rfl, rfl⟩
def HeadV (h : Head) : Value := .agg #[.int .i64 h.serial, .int .i64 h.gen, .int .i64 h.epoch, .int .i64 h.area]
theorem above_any (h : Head) (w0 w : World) (L : List Asn) (hS : Sat w0 w L) : Calls Tryd.prog 59 #[HeadV h] w fun r w' => r = .returned (.bool (above h)) ∧ Sat w0 w' L := by
  have hN := Lib.hid (show above h = decide ((4294967295 : Int) < max (max (h.serial : Int) (h.gen : Int)) (h.epoch : Int)) by unfold above; rw [decide_eq_decide]; omega)
  unfold HeadV
  go_enter Tryd.func59, Tryd.ntmps59
  go_wp2_with (((((with_reducible refine wpList_plain ?_ ?_); (focus rfl); intro K hK)); first | ((with_reducible refine' wp_load hS ?_ ?_ ?_ ?_ ?_); rotate_left 7; (focus rfl); (focus ((repeat (with_reducible exact Split.here)); done)); (focus (((simp only [List.getElem?_toArray, List.getElem?_cons_zero, List.getElem?_cons_succ]); rfl))); (focus (intro _; (simp; done))); (refine hK _ _ ?_; clear hK K)) | ((with_reducible refine' wp_box hS ?_ ?_); rotate_left 1; (focus (conv => lhs; whnf)); intro w' b'; clear hS; intro hS; (try simp only [Value.cells] at hS); (refine hK _ _ ?_; clear hK K))))
  all_goals
    go_ret
    refine ⟨ret_bool (by rw [hN.out, decide_eq_decide]; omega), by (refine Sat.ent hS ?_; repeat (first | (with_reducible exact Ent.refl _) | (with_reducible apply Ent.skip)))⟩
theorem jask_any (E : Nat → Addr) (b : Nat) (d : Dr.Drum) (w0 w : World) (L : List Asn) (hE : DrErrs E w0) (hS : Sat w0 w (isDrum b d :: L)) : Calls Tryd.prog 56 #[.pointer (some ⟨b, 0, none⟩)] w fun r w' => r = .returned (erv E (Jr.ask d)) ∧ w = w' := by
  have hg1 := hE.range
  have hg6 := hE.power
  obtain ⟨k, hk⟩ : ∃ k, k = Jr.ask d := ⟨_, rfl⟩
  rw [← hk]
  unfold Jr.ask at hk
  have ho := off_any b d w0
  have hb := blocks_any b d w0
  obtain ⟨n, hn⟩ : ∃ n, n = d.n := ⟨_, rfl⟩
  obtain ⟨o, hoff⟩ : ∃ o, o = d.off := ⟨_, rfl⟩
  rw [← hn] at hb hk
  rw [← hoff] at ho hk
  have Ho := Lib.hid ho
  have Hb := Lib.hid hb
  clear ho hb hn hoff
  cases o
  case true =>
    rw [if_pos rfl] at hk
    subst hk
    go_enter Tryd.func56, Tryd.ntmps56
    go_wp2_with (first | (go_at_call 66; ((with_reducible refine' (Ho.out _ L hS).mono ?_); rintro r4 w4 ⟨rfl, rfl⟩)) | ((((with_reducible refine wpList_plain ?_ ?_); (focus rfl); intro K hK)); ((with_reducible refine' wp_load_old hS ?_ ?_ ?_ ?_); rotate_left 2; (focus rfl); (focus (with_reducible assumption)); (focus (intro _; (simp; done))); (refine hK _ _ ?_; clear hK K))))
    go_ret
    exact ⟨rfl, rfl⟩
  case false =>
    rw [if_neg (by simp)] at hk
    by_cases h10 : n < 10
    case pos =>
      rw [if_pos h10] at hk
      subst hk
      have h10' : (n : Int) < 10 := by omega
      go_enter Tryd.func56, Tryd.ntmps56
      go_wp2_with (first | (go_at_call 66; ((with_reducible refine' (Ho.out _ L hS).mono ?_); rintro r4 w4 ⟨rfl, rfl⟩)) | (go_at_call 67; ((with_reducible refine' (Hb.out _ L hS).mono ?_); rintro r4 w4 ⟨rfl, rfl⟩)) | ((((with_reducible refine wpList_plain ?_ ?_); (focus rfl); intro K hK)); ((with_reducible refine' wp_load_old hS ?_ ?_ ?_ ?_); rotate_left 2; (focus rfl); (focus (with_reducible assumption)); (focus (intro _; (simp; done))); (refine hK _ _ ?_; clear hK K))))
      go_ret
      exact ⟨rfl, rfl⟩
    case neg =>
      rw [if_neg h10] at hk
      subst hk
      have h10' : ¬ (n : Int) < 10 := by omega
      go_enter Tryd.func56, Tryd.ntmps56
      go_wp2_with (first | (go_at_call 66; ((with_reducible refine' (Ho.out _ L hS).mono ?_); rintro r4 w4 ⟨rfl, rfl⟩)) | (go_at_call 67; ((with_reducible refine' (Hb.out _ L hS).mono ?_); rintro r4 w4 ⟨rfl, rfl⟩)))
      go_ret
      exact ⟨rfl, rfl⟩

/-- A journal's cells. -/
def jcells (j : Jr.J) (db : Nat) (v : Value) : Array Value := #[.int .i64 j.head.serial, .int .i64 j.head.gen, .int .i64 j.head.epoch, .int .i64 j.head.area, .pointer (some ⟨db, 0, none⟩), .int .i64 j.place, v, .int .i64 j.used, .bool j.dead]
/-- A journal's block. -/
abbrev JBlk (b : Nat) (j : Jr.J) (db : Nat) (v : Value) : Asn := Blk b (.cells #[.int .i64 j.head.serial, .int .i64 j.head.gen, .int .i64 j.head.epoch, .int .i64 j.head.area, .pointer (some ⟨db, 0, none⟩), .int .i64 j.place, v, .int .i64 j.used, .bool j.dead] 103)
theorem first_same (b db : Nat) (d : Dr.Drum) (j : Jr.J) (v : Value) (area : Nat) (ha : area ≤ 1) (hn : 2 ≤ d.n) (hk : d.n ≤ 4096) (w0 w : World) (L : List Asn) (hS : Sat w0 w (JBlk b j db v :: isDrum db d :: L)) :
    Calls Tryd.prog 74 #[.pointer (some ⟨b, 0, none⟩), .int .i64 (area : Int)] w fun r w' => r = .returned (.int .i64 (Jr.first d.n area : Nat)) ∧ w = w' := by
  obtain ⟨m, hm⟩ : ∃ m, m = Jr.half d.n := ⟨_, rfl⟩
  have hml : (m : Int) ≤ 4096 := by rw [hm]; unfold Jr.half; omega
  have hN := Lib.hid (show ((Jr.first d.n area : Nat) : Int) = 2 + (area : Int) * (m : Int) by rw [hm]; unfold Jr.first; simp)
  have hha := half_any db d hn hk w0
  rw [← hm] at hha
  have Hha := Lib.hid hha
  clear hha hm
  have hw := Lib.hid (show (area : Int) * (m : Int) ≤ 4096 by
    have : (area : Int) ≤ 1 := by omega
    have := Int.mul_le_mul_of_nonneg_right this (show (0 : Int) ≤ (m : Int) by omega)
    omega)
  have hw0 := Lib.hid (show 0 ≤ (area : Int) * (m : Int) from Int.mul_nonneg (by omega) (by omega))
  obtain ⟨q, hq⟩ : ∃ q, q = (area : Int) * (m : Int) := ⟨_, rfl⟩
  have hq1 := hw.out
  have hq2 := hw0.out
  rw [← hq] at hq1 hq2
  have hN' := hN.out
  rw [← hq] at hN'
  have hN := Lib.hid hN'
  have Hq := Lib.hid hq.symm
  clear hN' hw hw0 hq
  go_enter Tryd.func74, Tryd.ntmps74
  go_wp2_with (first | (go_at_call 62; ((with_reducible refine' (Hha.out _ _ (hS.split ?sa1x114)).mono ?sa2x114); (case sa1x114 => ((repeat (first | with_reducible exact Split.here | with_reducible apply Split.there)); done)); (case' sa2x114 => (rintro r4 w4 ⟨rfl, rfl⟩)))) | (rw [Hq.out]) | ((((with_reducible refine wpList_plain ?_ ?_); (focus rfl); intro K hK)); ((with_reducible refine' wp_load hS ?_ ?_ ?_ ?_ ?_); rotate_left 7; (focus rfl); (focus ((repeat (with_reducible exact Split.here)); done)); (focus (((simp only [List.getElem?_toArray, List.getElem?_cons_zero, List.getElem?_cons_succ]); rfl))); (focus (intro _; (simp; done))); (refine hK _ _ ?_; clear hK K))))
  go_ret
  exact ⟨ret_i64 (by rw [hN.out]; unfold wrap64; omega), rfl⟩
theorem first_any (b db : Nat) (d : Dr.Drum) (j : Jr.J) (v : Value) (area : Nat) (ha : area ≤ 1) (hn : 2 ≤ d.n) (hk : d.n ≤ 4096) (w0 w : World) (L : List Asn) (hS : Sat w0 w (JBlk b j db v :: isDrum db d :: L)) :
    Calls Tryd.prog 74 #[.pointer (some ⟨b, 0, none⟩), .int .i64 (area : Int)] w fun r w' => r = .returned (.int .i64 (Jr.first d.n area : Nat)) ∧ Sat w0 w' (JBlk b j db v :: isDrum db d :: L) := (first_same b db d j v area ha hn hk w0 w L hS).mono fun r w' ⟨h1, h2⟩ => ⟨h1, h2 ▸ hS⟩

theorem results_c2b {P : Program} {fn : Func} {p u v : Tmp} {ty : TypeId} (h : fn.results = #[.cell p ty, .tmp u, .tmp v]) (tmps : Array Value) (w : World) (g : Nat) (t : TypeId) (cs : Array Value) (fr : Nat × Nat) (d : TypeDesc) (x y z : Value)
    (hp : tmps.getD p undef = .pointer (some ⟨g, 0, none⟩)) (hg : w.heap[g]? = some (.cells cs t fr))
    (hu : P.underlying ty = some d) (hd : (match d with | .struct _ | .array _ _ => true | _ => false) = true) (hi : (P.info? ty).map (·.size) = some cs.size) (hx : .agg cs = x) (hy : tmps.getD u undef = y) (hz : tmps.getD v undef = z) :
    (results fn tmps).run P w = .ok (.tuple #[x, y, z]) w := by
  subst hx hy hz
  exact results_c2 h tmps w g t cs fr d hp hg hu hd hi
abbrev zblk : Value := .agg #[.int .i64 0, .int .i64 0, .int .i64 0, .int .i64 0, .slice none 0 0]
/-- What reading a block answers. -/
def RdPost (w0 : World) (L : List Asn) (o : Option Jr.Block) (r : Ending) (w' : World) : Prop := match o with
  | none => r = .returned (.tuple #[zblk, .bool false, .nilIface]) ∧ Sat w0 w' L
  | some x => ∃ a c, r = .returned (.tuple #[BlkV x (.slice a x.bytes.length c), .bool true, .nilIface]) ∧ Sat w0 w' (Bytes 5 (.slice a x.bytes.length c) x.bytes :: L)
set_option maxRecDepth 100000 in
set_option maxHeartbeats 4000000 in
theorem read_any (E : Nat → Addr) (b db : Nat) (d : Dr.Drum) (j : Jr.J) (v : Value) (i : Nat) (hd : d.ok) (hoff : d.off = false) (hi : i < d.n) (w0 w : World) (L : List Asn) (hT : Table w0) (hE : FldErrs E w0) (hD : DrErrs E w0) (hS : Sat w0 w (JBlk b j db v :: isDrum db d :: L)) :
    Calls Tryd.prog 68 #[.pointer (some ⟨b, 0, none⟩), .int .i64 (i : Int)] w fun r w' => RdPost w0 (JBlk b j db v :: isDrum db d :: L) (rd d i) r w' := by
  have hbl := blk_length hd hi
  have hr := read_ok E db d i hd hi hoff w0
  unfold rd
  obtain ⟨bs, hbs⟩ : ∃ bs, bs = d.blk i := ⟨_, rfl⟩
  rw [← hbs] at hr hbl ⊢
  have Hr := Lib.hid hr
  have hg := blkget_any E bs hbl w0
  obtain ⟨o, ho⟩ : ∃ o, o = Jr.get bs := ⟨_, rfl⟩
  rw [← ho] at hg ⊢
  have Hg := Lib.hid hg
  clear hr hg ho hbs hd hoff hi
  cases o
  case none =>
    go_enter Tryd.func68, Tryd.ntmps68
    go_wp2_with (first | (go_at_call 75; ((with_reducible refine' (Hr.out _ _ hD (hS.split ?sa1x152)).mono ?sa2x152); (case sa1x152 => ((repeat (first | with_reducible exact Split.here | with_reducible apply Split.there)); done)); (case' sa2x152 => (rintro r4 w4 ⟨rfl, hS1⟩; (clear hS; have hS := hS1; clear hS1))))) | (go_at_call 76; ((with_reducible refine' (Hg.out _ _ hT hE hS).mono ?sb2x153); (case' sb2x153 => (intro r4 w4 hb4; unfold BGet at hb4; obtain ⟨rfl, hS1⟩ := hb4; (clear hS; have hS := hS1; clear hS1))))) | ((((with_reducible refine wpList_plain ?_ ?_); (focus rfl); intro K hK)); first | ((with_reducible refine' wp_alloc_ba hS ?_ ?_); rotate_left 1; (focus (exact zero117)); intro w' b'; clear hS; intro hS; (refine hK _ _ ?_; clear hK K)) | ((with_reducible refine' wp_load_ba hS ?_ ?_ ?_ ?_ ?_ ?_); rotate_left 6; (focus rfl); (focus ((repeat (first | with_reducible exact Split.here | with_reducible apply Split.there)); done)); (focus (exact agg117)); (focus (exact sz117)); (focus (omega)); (refine hK _ _ ?_; clear hK K)) | ((with_reducible refine' wp_store_ba hS ?_ ?_ ?_ ?_ ?_ ?_ ?_); rotate_left 6; (focus rfl); (focus ((repeat (first | with_reducible exact Split.here | with_reducible apply Split.there)); done)); (focus rfl); (focus (exact sz117)); (focus (omega)); (focus ((simp; done))); intro w'; clear hS; intro hS; (refine hK _ _ ?_; clear hK K)) | ((with_reducible refine' wp_load hS ?_ ?_ ?_ ?_ ?_); rotate_left 7; (focus rfl); (focus ((repeat (first | with_reducible exact Split.here | with_reducible apply Split.there)); done)); (focus (((simp only [List.getElem?_toArray, List.getElem?_cons_zero, List.getElem?_cons_succ]); rfl))); (focus (intro _; (simp; done))); (refine hK _ _ ?_; clear hK K)) | ((with_reducible refine' wp_loadN hS ?_ ?_ ?_ ?_ ?_ ?_ ?_); rotate_left 8; (focus rfl); (focus ((repeat (with_reducible exact Split.here)); done)); (focus (intro _; (simp; done))); (focus (intro _; (simp; rfl))); (focus (simp; done)); (focus (simp; rfl)); (refine hK _ _ ?_; clear hK K)) | ((with_reducible refine' wp_storeN hS ?_ ?_ ?_ ?_ ?_ ?_ ?_ ?_); rotate_left 7; (focus rfl); (focus ((repeat (first | with_reducible exact Split.here | with_reducible apply Split.there)); done)); (focus (conv => lhs; whnf)); (focus (intro _; (simp; rfl))); (focus rfl); (focus (simp [Value.cells, Value.oneCell']; done)); (focus (simp; done)); intro w'; clear hS; intro hS; (try simp only [setCells, Value.cells, List.take_succ_cons, List.take_zero, List.drop_succ_cons, List.drop_zero, List.append_nil, List.nil_append, List.cons_append, List.length_cons, List.length_nil, Nat.zero_add, Nat.reduceAdd, List.drop_nil] at hS); (refine hK _ _ ?_; clear hK K)) | ((with_reducible refine' wp_alloc hS ?_ ?_); rotate_left 1; (focus (intro _; (simp; rfl))); intro w' b'; clear hS; intro hS; (try simp only [Value.cells] at hS); (refine hK _ _ ?_; clear hK K))))
    refine bodyPost_ret (results_c2b rfl _ _ _ _ _ (0, 0) _ zblk (.bool false) .nilIface rfl hS.at Tryd.underlying111 rfl rfl rfl rfl rfl) rfl ⟨rfl, by (refine Sat.ent hS ?_; repeat (first | (with_reducible exact Ent.refl _) | ((with_reducible apply Ent.pull); (focus ((repeat (first | with_reducible exact Split.here | with_reducible apply Split.there)); done))) | (with_reducible apply Ent.skip)))⟩
  case some x =>
    go_enter Tryd.func68, Tryd.ntmps68
    go_wp2_with (first | (go_at_call 75; ((with_reducible refine' (Hr.out _ _ hD (hS.split ?sa1x159)).mono ?sa2x159); (case sa1x159 => ((repeat (first | with_reducible exact Split.here | with_reducible apply Split.there)); done)); (case' sa2x159 => (rintro r4 w4 ⟨rfl, hS1⟩; (clear hS; have hS := hS1; clear hS1))))) | (go_at_call 76; ((with_reducible refine' (Hg.out _ _ hT hE hS).mono ?sb2x160); (case' sb2x160 => (intro r4 w4 hb4; unfold BGet at hb4; obtain ⟨xa, xc, rfl, hS1⟩ := hb4; unfold BlkV; (clear hS; have hS := hS1; clear hS1))))) | ((((with_reducible refine wpList_plain ?_ ?_); (focus rfl); intro K hK)); first | ((with_reducible refine' wp_alloc_ba hS ?_ ?_); rotate_left 1; (focus (exact zero117)); intro w' b'; clear hS; intro hS; (refine hK _ _ ?_; clear hK K)) | ((with_reducible refine' wp_load_ba hS ?_ ?_ ?_ ?_ ?_ ?_); rotate_left 6; (focus rfl); (focus ((repeat (first | with_reducible exact Split.here | with_reducible apply Split.there)); done)); (focus (exact agg117)); (focus (exact sz117)); (focus (omega)); (refine hK _ _ ?_; clear hK K)) | ((with_reducible refine' wp_store_ba hS ?_ ?_ ?_ ?_ ?_ ?_ ?_); rotate_left 6; (focus rfl); (focus ((repeat (first | with_reducible exact Split.here | with_reducible apply Split.there)); done)); (focus rfl); (focus (exact sz117)); (focus (omega)); (focus ((simp; done))); intro w'; clear hS; intro hS; (refine hK _ _ ?_; clear hK K)) | ((with_reducible refine' wp_load hS ?_ ?_ ?_ ?_ ?_); rotate_left 7; (focus rfl); (focus ((repeat (first | with_reducible exact Split.here | with_reducible apply Split.there)); done)); (focus (((simp only [List.getElem?_toArray, List.getElem?_cons_zero, List.getElem?_cons_succ]); rfl))); (focus (intro _; (simp; done))); (refine hK _ _ ?_; clear hK K)) | ((with_reducible refine' wp_loadN hS ?_ ?_ ?_ ?_ ?_ ?_ ?_); rotate_left 8; (focus rfl); (focus ((repeat (with_reducible exact Split.here)); done)); (focus (intro _; (simp; done))); (focus (intro _; (simp; rfl))); (focus (simp; done)); (focus (simp; rfl)); (refine hK _ _ ?_; clear hK K)) | ((with_reducible refine' wp_storeN hS ?_ ?_ ?_ ?_ ?_ ?_ ?_ ?_); rotate_left 7; (focus rfl); (focus ((repeat (first | with_reducible exact Split.here | with_reducible apply Split.there)); done)); (focus (conv => lhs; whnf)); (focus (intro _; (simp; rfl))); (focus rfl); (focus (simp [Value.cells, Value.oneCell']; done)); (focus (simp; done)); intro w'; clear hS; intro hS; (try simp only [setCells, Value.cells, List.take_succ_cons, List.take_zero, List.drop_succ_cons, List.drop_zero, List.append_nil, List.nil_append, List.cons_append, List.length_cons, List.length_nil, Nat.zero_add, Nat.reduceAdd, List.drop_nil] at hS); (refine hK _ _ ?_; clear hK K)) | ((with_reducible refine' wp_alloc hS ?_ ?_); rotate_left 1; (focus (intro _; (simp; rfl))); intro w' b'; clear hS; intro hS; (try simp only [Value.cells] at hS); (refine hK _ _ ?_; clear hK K))))
    refine bodyPost_ret (results_c2b rfl _ _ _ _ _ (0, 0) _ (BlkV x (.slice xa x.bytes.length xc)) (.bool true) .nilIface rfl hS.at Tryd.underlying111 rfl rfl rfl rfl rfl) rfl ⟨xa, xc, rfl, by (refine Sat.ent hS ?_; repeat (first | (with_reducible exact Ent.refl _) | ((with_reducible apply Ent.pull); (focus ((repeat (first | with_reducible exact Split.here | with_reducible apply Split.there)); done))) | (with_reducible apply Ent.skip)))⟩
end Go.Proofs.YtndnojbpapjdoaaDoor
