/- Package journal walked: records read. -/
import Derived.Test.YtndnojbpapjdoaaDoorJrF
set_option linter.unusedSimpArgs false
set_option linter.unusedVariables false
set_option linter.unusedSectionVars false
namespace Go.Proofs.YtndnojbpapjdoaaDoor
open Go.Sp Go.RowKit Go.Fld Go.Sha Go.Dr Go.Jr

/-- What a record answers. -/
def RecPost (w0 : World) (L : List Asn) (o : Option (List UInt8 × Nat)) (r : Ending) (w' : World) : Prop := match o with
  | none => r = .returned (.tuple #[.slice none 0 0, .int .i64 0, .bool false, .nilIface]) ∧ Sat w0 w' L
  | some (l, e) => ∃ a c, r = .returned (.tuple #[.slice a l.length c, .int .i64 (e : Nat), .bool true, .nilIface]) ∧ Sat w0 w' (Bytes 5 (.slice a l.length c) l :: L)
theorem results_t4 {P : Program} {fn : Func} {p q r s : Tmp} (h : fn.results = #[.tmp p, .tmp q, .tmp r, .tmp s]) (tmps : Array Value) (w : World) (x y z u : Value) (h1 : tmps.getD p undef = x) (h2 : tmps.getD q undef = y) (h3 : tmps.getD r undef = z) (h4 : tmps.getD s undef = u) :
    (results fn tmps).run P w = .ok (.tuple #[x, y, z, u]) w := by
  subst h1 h2 h3 h4
  simp [results, h]
theorem wrap_b_i (u : UInt8) : IntKind.i64.wrap (u.toNat : Int) = (u.toNat : Int) := wrap_i64n _ (by have := u.toNat_lt; omega)
theorem run_i_or8i {P : Program} {w : World} (t : TypeId) (x y : UInt8) : (binOp .or t (.int .i64 (256 * (x.toNat : Int))) (.int .i64 (y.toNat : Int))).run P w = .ok (.int .i64 (256 * (x.toNat : Int) + (y.toNat : Int))) w := by
  have := run_i_or8 (P := P) (w := w) t x y
  have e1 : ((256 * x.toNat : Nat) : Int) = 256 * (x.toNat : Int) := by omega
  have e2 : ((256 * x.toNat + y.toNat : Nat) : Int) = 256 * (x.toNat : Int) + (y.toNat : Int) := by omega
  rw [e1, e2] at this
  exact this
theorem bits_or8 (x y : UInt8) : bits .or .i64 (256 * (x.toNat : Int)) (y.toNat : Int) = ((256 * x.toNat + y.toNat : Nat) : Int) := by
  have h1 := x.toNat_lt
  have h2 := y.toNat_lt
  have h3 : 256 * x.toNat ||| y.toNat = 256 * x.toNat + y.toNat := by
    have := Nat.two_pow_add_eq_or_of_lt (i := 8) (b := y.toNat) (by omega) x.toNat
    simpa [Nat.mul_comm] using this.symm
  show IntKind.i64.wrap ((BitVec.ofInt 64 (256 * (x.toNat : Int)) ||| BitVec.ofInt 64 (y.toNat : Int)).toNat : Int) = _
  have e0 : (256 * (x.toNat : Int)) = ((256 * x.toNat : Nat) : Int) := by omega
  have e1 : (BitVec.ofInt 64 ((256 * x.toNat : Nat) : Int)).toNat = 256 * x.toNat := ofInt_nat (k := 64) _ (by omega)
  have e2 : (BitVec.ofInt 64 (y.toNat : Int)).toNat = y.toNat := ofInt_nat (k := 64) _ (by omega)
  rw [e0, BitVec.toNat_or, e1, e2, h3, wrap_i64n _ (by omega)]
section
variable (E : Nat → Addr) (b db : Nat) (d : Dr.Drum) (j : Jr.J) (v : Value) (at_ : Nat) (hd : d.ok) (hoff : d.off = false) (hn : 2 ≤ d.n) (har : j.head.area ≤ 1) (hat : at_ ≤ 900000) (w0 w : World) (L : List Asn) (hT : Table w0) (hE : FldErrs E w0) (hD : DrErrs E w0) (hS : Sat w0 w (JBlk b j db v :: isDrum db d :: L))
include hd hoff hn har hat hT hE hD hS
set_option maxRecDepth 100000 in
set_option maxHeartbeats 4000000 in
theorem record_no (hp : Jr.piece d j.head 1 at_ = none) :
    Calls Tryd.prog 69 #[.pointer (some ⟨b, 0, none⟩), .int .i64 (at_ : Int)] w fun r w' => RecPost w0 (JBlk b j db v :: isDrum db d :: L) none r w' := by
  have h1 : ∀ (w : World) (L : List Asn), Table w0 → FldErrs E w0 → DrErrs E w0 → Sat w0 w (JBlk b j db v :: isDrum db d :: L) → Calls Tryd.prog 77 #[.pointer (some ⟨b, 0, none⟩), .int .i64 1, .int .i64 (at_ : Int)] w fun r w' => PcPost w0 (JBlk b j db v :: isDrum db d :: L) none r w' := fun w L hT hE hD hS => by
    have := jpiece_any E b db d j v 1 at_ hd hoff hn har w0 w L hT hE hD hS (by omega)
    rw [hp] at this
    exact this
  have Hp := Lib.hid h1
  clear h1 hp
  go_enter Tryd.func69, Tryd.ntmps69
  go_wp2_with (first | (go_at_call 77; ((with_reducible refine' (Hp.out _ _ hT hE hD hS).mono ?sc2x46); (case' sc2x46 => (intro r4 w4 hb4; unfold PcPost at hb4; obtain ⟨x, xa, xn, xc, rfl, hS1⟩ := hb4; unfold BlkV; (clear hS; have hS := hS1; clear hS1))))) | ((with_reducible refine Txt.wp_region_text ?_ ?_ ?_); (focus kernel_rfl); (focus decide +kernel); intro Q' hQ'; have hS1 := hS.drew; clear hS; have hS := hS1; clear hS1) | (with_reducible refine Txt.wpTxt_nil ?_) | ((first | ((with_reducible refine wpList_plain ?_ ?_); (focus rfl); intro K hK) | ((with_reducible refine Txt.wpTxt_plain ?_ ?_ ?_); (focus rfl); (focus rfl); intro K hK)); first | ((with_reducible refine' wp_storeN hS ?_ ?_ ?_ ?_ ?_ ?_ ?_ ?_); rotate_left 7; (focus rfl); (focus ((repeat (with_reducible exact Split.here)); done)); (focus (conv => lhs; whnf)); (focus (intro _; (simp; rfl))); (focus rfl); (focus (simp [Value.cells, Value.oneCell']; done)); (focus (simp; done)); intro w'; clear hS; intro hS; (try simp only [setCells, Value.cells, List.take_succ_cons, List.take_zero, List.drop_succ_cons, List.drop_zero, List.append_nil, List.nil_append, List.cons_append, List.length_cons, List.length_nil, Nat.zero_add, Nat.reduceAdd, List.drop_nil] at hS); (refine hK _ _ ?_; clear hK K)) | ((with_reducible refine' wp_alloc hS ?_ ?_); rotate_left 1; (focus (intro _; (simp; rfl))); intro w' b'; clear hS; intro hS; (try simp only [Value.cells] at hS); (refine hK _ _ ?_; clear hK K))) | ((with_reducible refine Txt.wpTxt_plain ?_ ?_ ?_); (focus with_reducible rfl); (focus rfl); intro _ _) | ((with_reducible refine Txt.wpTxt_skipG ?_ ?_); (focus rfl); simp only [Act.put, List.setIfInBounds_toArray, List.set_cons_succ, List.set_cons_zero]))
  refine bodyPost_ret (results_t4 rfl _ _ (.slice none 0 0) (.int .i64 0) (.bool false) .nilIface rfl rfl rfl rfl) rfl ⟨rfl, by (refine Sat.ent hS ?_; repeat (first | (with_reducible exact Ent.refl _) | ((with_reducible apply Ent.pull); (focus ((repeat (first | with_reducible exact Split.here | with_reducible apply Split.there)); done))) | (with_reducible apply Ent.skip)))⟩
set_option maxRecDepth 100000 in
set_option maxHeartbeats 8000000 in
theorem record_yes (x : Jr.Block) (hp : Jr.piece d j.head 1 at_ = some x) :
    Calls Tryd.prog 69 #[.pointer (some ⟨b, 0, none⟩), .int .i64 (at_ : Int)] w fun r w' => RecPost w0 (JBlk b j db v :: isDrum db d :: L) (Jr.record d j.head at_) r w' := by
  have h1 : ∀ (w : World) (L : List Asn), Table w0 → FldErrs E w0 → DrErrs E w0 → Sat w0 w (JBlk b j db v :: isDrum db d :: L) → Calls Tryd.prog 77 #[.pointer (some ⟨b, 0, none⟩), .int .i64 1, .int .i64 (at_ : Int)] w fun r w' => PcPost w0 (JBlk b j db v :: isDrum db d :: L) (some x) r w' := fun w L hT hE hD hS => by
    have := jpiece_any E b db d j v 1 at_ hd hoff hn har w0 w L hT hE hD hS (by omega)
    rw [hp] at this
    exact this
  have Hp := Lib.hid h1
  have hx46 := piece_bytes hp
  clear h1
  obtain ⟨R, hR⟩ : ∃ R, R = Jr.record d j.head at_ := ⟨_, rfl⟩
  rw [← hR]
  by_cases he : j.head.epoch < x.b
  case pos =>
    rw [record_bad hp (.inl he)] at hR
    subst hR
    have he' : decide (j.head.epoch < x.b) = true := by simp [he]
    clear hp he hx46
    go_enter Tryd.func69, Tryd.ntmps69
    go_wp2_with (first | (go_at_call 77; ((with_reducible refine' (Hp.out _ _ hT hE hD hS).mono ?sc2x70); (case' sc2x70 => (intro r4 w4 hb4; unfold PcPost at hb4; obtain ⟨xa, xc, rfl, hS1⟩ := hb4; unfold BlkV; (clear hS; have hS := hS1; clear hS1))))) | ((with_reducible refine Txt.wp_region_text ?_ ?_ ?_); (focus kernel_rfl); (focus decide +kernel); intro Q' hQ'; have hS1 := hS.drew; clear hS; have hS := hS1; clear hS1) | (with_reducible refine Txt.wpTxt_nil ?_) | ((first | ((with_reducible refine wpList_plain ?_ ?_); (focus rfl); intro K hK) | ((with_reducible refine Txt.wpTxt_plain ?_ ?_ ?_); (focus rfl); (focus rfl); intro K hK) | ((with_reducible refine Txt.wpTxt_runG ?_ ?_ ?_); (focus rfl); (focus rfl); intro K hK)); first | ((with_reducible refine' wp_load hS ?_ ?_ ?_ ?_ ?_); rotate_left 7; (focus rfl); (focus ((repeat (first | with_reducible exact Split.here | with_reducible apply Split.there)); done)); (focus (((simp only [List.getElem?_toArray, List.getElem?_cons_zero, List.getElem?_cons_succ]); rfl))); (focus (intro _; (simp; done))); (refine hK _ _ ?_; clear hK K)) | ((with_reducible refine' wp_storeN hS ?_ ?_ ?_ ?_ ?_ ?_ ?_ ?_); rotate_left 7; (focus rfl); (focus ((repeat (with_reducible exact Split.here)); done)); (focus (conv => lhs; whnf)); (focus (intro _; (simp; rfl))); (focus rfl); (focus (simp [Value.cells, Value.oneCell']; done)); (focus (simp; done)); intro w'; clear hS; intro hS; (try simp only [setCells, Value.cells, List.take_succ_cons, List.take_zero, List.drop_succ_cons, List.drop_zero, List.append_nil, List.nil_append, List.cons_append, List.length_cons, List.length_nil, Nat.zero_add, Nat.reduceAdd, List.drop_nil] at hS); (refine hK _ _ ?_; clear hK K)) | ((with_reducible refine' wp_alloc hS ?_ ?_); rotate_left 1; (focus (intro _; (simp; rfl))); intro w' b'; clear hS; intro hS; (try simp only [Value.cells] at hS); (refine hK _ _ ?_; clear hK K))) | ((with_reducible refine Txt.wpTxt_plain ?_ ?_ ?_); (focus with_reducible rfl); (focus rfl); intro _ _) | ((with_reducible refine Txt.wpTxt_skipG ?_ ?_); (focus rfl); simp only [Act.put, List.setIfInBounds_toArray, List.set_cons_succ, List.set_cons_zero]) | ((with_reducible refine Txt.wpTxt_runG ?_ ?_ ?_); (focus rfl); (focus rfl); intro _ _))
    refine bodyPost_ret (results_t4 rfl _ _ (.slice none 0 0) (.int .i64 0) (.bool false) .nilIface rfl rfl rfl rfl) rfl ⟨rfl, by (refine Sat.ent hS ?_; repeat (first | (with_reducible exact Ent.refl _) | ((with_reducible apply Ent.pull); (focus ((repeat (first | with_reducible exact Split.here | with_reducible apply Split.there)); done))) | (with_reducible apply Ent.skip)))⟩
  have he' : decide (j.head.epoch < x.b) = false := by simp; omega
  by_cases h2 : x.bytes.length < 2
  case pos =>
    rw [record_bad hp (.inr (.inl h2))] at hR
    subst hR
    have h2' : decide (x.bytes.length < 2) = true := by simp [h2]
    have h2i : decide ((x.bytes.length : Int) < 2) = true := by simp; omega
    clear hp he hx46 h2
    go_enter Tryd.func69, Tryd.ntmps69
    go_wp2_with (first | (go_at_call 77; ((with_reducible refine' (Hp.out _ _ hT hE hD hS).mono ?sc2x83); (case' sc2x83 => (intro r4 w4 hb4; unfold PcPost at hb4; obtain ⟨xa, xc, rfl, hS1⟩ := hb4; unfold BlkV; (clear hS; have hS := hS1; clear hS1))))) | ((with_reducible refine Txt.wp_region_text ?_ ?_ ?_); (focus kernel_rfl); (focus decide +kernel); intro Q' hQ'; have hS1 := hS.drew; clear hS; have hS := hS1; clear hS1) | (with_reducible refine Txt.wpTxt_nil ?_) | ((first | ((with_reducible refine wpList_plain ?_ ?_); (focus rfl); intro K hK) | ((with_reducible refine Txt.wpTxt_plain ?_ ?_ ?_); (focus rfl); (focus rfl); intro K hK) | ((with_reducible refine Txt.wpTxt_runG ?_ ?_ ?_); (focus rfl); (focus rfl); intro K hK)); first | ((with_reducible refine' wp_load hS ?_ ?_ ?_ ?_ ?_); rotate_left 7; (focus rfl); (focus ((repeat (first | with_reducible exact Split.here | with_reducible apply Split.there)); done)); (focus (((simp only [List.getElem?_toArray, List.getElem?_cons_zero, List.getElem?_cons_succ]); rfl))); (focus (intro _; (simp; done))); (refine hK _ _ ?_; clear hK K)) | ((with_reducible refine' wp_storeN hS ?_ ?_ ?_ ?_ ?_ ?_ ?_ ?_); rotate_left 7; (focus rfl); (focus ((repeat (with_reducible exact Split.here)); done)); (focus (conv => lhs; whnf)); (focus (intro _; (simp; rfl))); (focus rfl); (focus (simp [Value.cells, Value.oneCell']; done)); (focus (simp; done)); intro w'; clear hS; intro hS; (try simp only [setCells, Value.cells, List.take_succ_cons, List.take_zero, List.drop_succ_cons, List.drop_zero, List.append_nil, List.nil_append, List.cons_append, List.length_cons, List.length_nil, Nat.zero_add, Nat.reduceAdd, List.drop_nil] at hS); (refine hK _ _ ?_; clear hK K)) | ((with_reducible refine' wp_alloc hS ?_ ?_); rotate_left 1; (focus (intro _; (simp; rfl))); intro w' b'; clear hS; intro hS; (try simp only [Value.cells] at hS); (refine hK _ _ ?_; clear hK K))) | ((with_reducible refine Txt.wpTxt_plain ?_ ?_ ?_); (focus with_reducible rfl); (focus rfl); intro _ _) | ((with_reducible refine Txt.wpTxt_runG ?_ ?_ ?_); (focus rfl); (focus rfl); intro _ _))
    refine bodyPost_ret (results_t4 rfl _ _ (.slice none 0 0) (.int .i64 0) (.bool false) .nilIface rfl rfl rfl rfl) rfl ⟨rfl, by (refine Sat.ent hS ?_; repeat (first | (with_reducible exact Ent.refl _) | ((with_reducible apply Ent.pull); (focus ((repeat (first | with_reducible exact Split.here | with_reducible apply Split.there)); done))) | (with_reducible apply Ent.skip)))⟩
  have h2' : decide (x.bytes.length < 2) = false := by simp; omega
  have h2i : decide ((x.bytes.length : Int) < 2) = false := by simp; omega
  have hx2 : 2 ≤ x.bytes.length := by omega
  obtain ⟨u0, hu0⟩ : ∃ u, x.bytes[0]? = some u := ⟨_, List.getElem?_eq_getElem (by omega)⟩
  obtain ⟨u1, hu1⟩ : ∃ u, x.bytes[1]? = some u := ⟨_, List.getElem?_eq_getElem (by omega)⟩
  have h80 : (u0.toNat : Int) < 256 := by have := u0.toNat_lt; omega
  have h81 : (u1.toNat : Int) < 256 := by have := u1.toNat_lt; omega
  have hlen : len2 x.bytes = 256 * u0.toNat + u1.toNat := by
    unfold len2
    rw [List.getD_eq_getElem?_getD, List.getD_eq_getElem?_getD, hu0, hu1]
    rfl
  obtain ⟨n, hnl⟩ : ∃ n, n = len2 x.bytes := ⟨_, rfl⟩
  have Hb := Lib.hid (show (256 * (u0.toNat : Int)) + (u1.toNat : Int) = (n : Int) by rw [hnl, hlen]; omega)
  by_cases h3 : 2000 < n
  case pos =>
    rw [record_bad hp (.inr (.inr (by omega)))] at hR
    subst hR
    have h3' : (2000 : Int) < (n : Int) := by omega
    clear hp he hx46 h2 hlen h3 hnl
    go_enter Tryd.func69, Tryd.ntmps69
    go_wp2_with (first | (rw [Hb.out]) | (go_at_call 77; ((with_reducible refine' (Hp.out _ _ hT hE hD hS).mono ?sc2x108); (case' sc2x108 => (intro r4 w4 hb4; unfold PcPost at hb4; obtain ⟨xa, xc, rfl, hS1⟩ := hb4; unfold BlkV; (clear hS; have hS := hS1; clear hS1); obtain ⟨xg, xo, xc2, hxv, hxc⟩ := bytes_addr hS (by show 0 < (List.length _); exact Nat.lt_of_lt_of_le Nat.zero_lt_two hx2); simp only [Value.slice.injEq, true_and] at hxv; obtain ⟨rfl, rfl⟩ := hxv)))) | ((with_reducible refine Txt.wp_region_text ?_ ?_ ?_); (focus kernel_rfl); (focus decide +kernel); intro Q' hQ'; have hS1 := hS.drew; clear hS; have hS := hS1; clear hS1) | (with_reducible refine Txt.wpTxt_nil ?_) | ((first | ((with_reducible refine wpList_plain ?_ ?_); (focus rfl); intro K hK) | ((with_reducible refine Txt.wpTxt_plain ?_ ?_ ?_); (focus rfl); (focus rfl); intro K hK) | ((with_reducible refine Txt.wpTxt_runG ?_ ?_ ?_); (focus rfl); (focus rfl); intro K hK)); first | ((with_reducible refine' wp_conv ?_ ?_ ?_ ?_ ?_); rotate_left 5; (focus (conv => lhs; whnf)); (focus (intro _; (simp; rfl))); (focus (intro _; (simp; rfl))); (focus (with_reducible exact wrap_b_i _)); (refine hK _ _ ?_; clear hK K)) | ((with_reducible refine' wp_bin (op := .shl) ?_ ?_ ?_ ?_ ?_); rotate_left 3; (focus (conv => lhs; whnf)); (focus (conv => lhs; whnf)); (focus (intro _; rfl)); (focus (intro _; with_reducible exact run_i_shl8 _ _)); (refine hK _ _ ?_; clear hK K)) | ((with_reducible refine' wp_bin (op := .or) ?_ ?_ ?_ ?_ ?_); rotate_left 3; (focus (conv => lhs; whnf)); (focus (conv => lhs; whnf)); (focus (intro _; rfl)); (focus (intro _; with_reducible exact run_i_or8i _ _ _)); (refine hK _ _ ?_; clear hK K)) | ((with_reducible refine' wp_bytes_load hS ?_ ?_ ?_ ?_ ?_ ?_); rotate_left 10; (focus rfl); (focus ((repeat (first | with_reducible exact Split.here | with_reducible apply Split.there)); done)); (focus (first | rfl | exact (Nat.add_zero _).symm)); (focus ((with_reducible assumption))); (focus (intro _; (simp; done))); (refine hK _ _ ?_; clear hK K)) | ((with_reducible refine' wp_load hS ?_ ?_ ?_ ?_ ?_); rotate_left 7; (focus rfl); (focus ((repeat (first | with_reducible exact Split.here | with_reducible apply Split.there)); done)); (focus (((simp only [List.getElem?_toArray, List.getElem?_cons_zero, List.getElem?_cons_succ]); rfl))); (focus (intro _; (simp; done))); (refine hK _ _ ?_; clear hK K)) | ((with_reducible refine' wp_storeN hS ?_ ?_ ?_ ?_ ?_ ?_ ?_ ?_); rotate_left 7; (focus rfl); (focus ((repeat (with_reducible exact Split.here)); done)); (focus (conv => lhs; whnf)); (focus (intro _; (simp; rfl))); (focus rfl); (focus (simp [Value.cells, Value.oneCell']; done)); (focus (simp; done)); intro w'; clear hS; intro hS; (try simp only [setCells, Value.cells, List.take_succ_cons, List.take_zero, List.drop_succ_cons, List.drop_zero, List.append_nil, List.nil_append, List.cons_append, List.length_cons, List.length_nil, Nat.zero_add, Nat.reduceAdd, List.drop_nil] at hS); (refine hK _ _ ?_; clear hK K)) | ((with_reducible refine' wp_alloc hS ?_ ?_); rotate_left 1; (focus (intro _; (simp; rfl))); intro w' b'; clear hS; intro hS; (try simp only [Value.cells] at hS); (refine hK _ _ ?_; clear hK K)) | ((with_reducible refine' wp_index_slice ?_ ?_ ?_ ?_ ?_ ?_ ?_ ?_); rotate_left 9; (focus rfl); (focus rfl); (focus (intro _; (simp; rfl))); (focus (intro _; (simp; rfl))); (focus (omega)); (focus (omega)); (focus (((simp only [Int.toNat_natCast, Int.reduceToNat, Nat.mul_one, Nat.zero_add, Nat.add_zero, Nat.reduceMul, Nat.reduceAdd]); rfl))); (refine hK _ _ ?_; clear hK K))) | ((with_reducible refine Txt.wpTxt_plain ?_ ?_ ?_); (focus with_reducible rfl); (focus rfl); intro _ _) | ((with_reducible refine Txt.wpTxt_runG ?_ ?_ ?_); (focus rfl); (focus rfl); intro _ _))
    refine bodyPost_ret (results_t4 rfl _ _ (.slice none 0 0) (.int .i64 0) (.bool false) .nilIface rfl rfl rfl rfl) rfl ⟨rfl, by (refine Sat.ent hS ?_; repeat (first | (with_reducible exact Ent.refl _) | ((with_reducible apply Ent.pull); (focus ((repeat (first | with_reducible exact Split.here | with_reducible apply Split.there)); done))) | (with_reducible apply Ent.skip)))⟩
  have h3' : (n : Int) ≤ 2000 := by omega
  rw [record_fin hp he h2 (by omega), ← hnl] at hR
  obtain ⟨nd, hnd⟩ : ∃ nd, nd = need n := ⟨_, rfl⟩
  have hnd1 : 1 ≤ nd ∧ nd ≤ 45 := by rw [hnd]; unfold need; omega
  rw [← hnd] at hR
  have hneed := fun w => need_any n (by omega) w
  rw [← hnd] at hneed
  have Hneed := Lib.hid hneed
  have HR := Lib.hid hR
  have Hnl := Lib.hid hnl
  clear hp he h2 hlen h3 hnl hnd hneed hR
  go_enter Tryd.func69, Tryd.ntmps69
  go_wp2_with (first | (rw [Hb.out]) | (go_at_call 77; ((with_reducible refine' (Hp.out _ _ hT hE hD hS).mono ?sc2x125); (case' sc2x125 => (intro r4 w4 hb4; unfold PcPost at hb4; obtain ⟨xa, xc, rfl, hS1⟩ := hb4; unfold BlkV; (clear hS; have hS := hS1; clear hS1); obtain ⟨xg, xo, xc2, hxv, hxc⟩ := bytes_addr hS (by show 0 < (List.length _); exact Nat.lt_of_lt_of_le Nat.zero_lt_two hx2); simp only [Value.slice.injEq, true_and] at hxv; obtain ⟨rfl, rfl⟩ := hxv)))) | ((with_reducible refine Txt.wp_region_text ?_ ?_ ?_); (focus kernel_rfl); (focus decide +kernel); intro Q' hQ'; have hS1 := hS.drew; clear hS; have hS := hS1; clear hS1) | (with_reducible refine Txt.wpTxt_nil ?_) | ((first | ((with_reducible refine wpList_plain ?_ ?_); (focus rfl); intro K hK) | ((with_reducible refine Txt.wpTxt_plain ?_ ?_ ?_); (focus rfl); (focus rfl); intro K hK) | ((with_reducible refine Txt.wpTxt_runG ?_ ?_ ?_); (focus rfl); (focus rfl); intro K hK)); first | ((with_reducible refine' wp_conv ?_ ?_ ?_ ?_ ?_); rotate_left 5; (focus (conv => lhs; whnf)); (focus (intro _; (simp; rfl))); (focus (intro _; (simp; rfl))); (focus (with_reducible exact wrap_b_i _)); (refine hK _ _ ?_; clear hK K)) | ((with_reducible refine' wp_bin (op := .shl) ?_ ?_ ?_ ?_ ?_); rotate_left 3; (focus (conv => lhs; whnf)); (focus (conv => lhs; whnf)); (focus (intro _; rfl)); (focus (intro _; with_reducible exact run_i_shl8 _ _)); (refine hK _ _ ?_; clear hK K)) | ((with_reducible refine' wp_bin (op := .or) ?_ ?_ ?_ ?_ ?_); rotate_left 3; (focus (conv => lhs; whnf)); (focus (conv => lhs; whnf)); (focus (intro _; rfl)); (focus (intro _; with_reducible exact run_i_or8i _ _ _)); (refine hK _ _ ?_; clear hK K)) | ((with_reducible refine' wp_bytes_load hS ?_ ?_ ?_ ?_ ?_ ?_); rotate_left 10; (focus rfl); (focus ((repeat (first | with_reducible exact Split.here | with_reducible apply Split.there)); done)); (focus (first | rfl | exact (Nat.add_zero _).symm)); (focus ((with_reducible assumption))); (focus (intro _; (simp; done))); (refine hK _ _ ?_; clear hK K)) | ((with_reducible refine' wp_load hS ?_ ?_ ?_ ?_ ?_); rotate_left 7; (focus rfl); (focus ((repeat (first | with_reducible exact Split.here | with_reducible apply Split.there)); done)); (focus (((simp only [List.getElem?_toArray, List.getElem?_cons_zero, List.getElem?_cons_succ]); rfl))); (focus (intro _; (simp; done))); (refine hK _ _ ?_; clear hK K)) | ((with_reducible refine' wp_storeN hS ?_ ?_ ?_ ?_ ?_ ?_ ?_ ?_); rotate_left 7; (focus rfl); (focus ((repeat (with_reducible exact Split.here)); done)); (focus (conv => lhs; whnf)); (focus (intro _; (simp; rfl))); (focus rfl); (focus (simp [Value.cells, Value.oneCell']; done)); (focus (simp; done)); intro w'; clear hS; intro hS; (try simp only [setCells, Value.cells, List.take_succ_cons, List.take_zero, List.drop_succ_cons, List.drop_zero, List.append_nil, List.nil_append, List.cons_append, List.length_cons, List.length_nil, Nat.zero_add, Nat.reduceAdd, List.drop_nil] at hS); (refine hK _ _ ?_; clear hK K)) | ((with_reducible refine' wp_alloc hS ?_ ?_); rotate_left 1; (focus (intro _; (simp; rfl))); intro w' b'; clear hS; intro hS; (try simp only [Value.cells] at hS); (refine hK _ _ ?_; clear hK K)) | ((with_reducible refine' wp_index_slice ?_ ?_ ?_ ?_ ?_ ?_ ?_ ?_); rotate_left 9; (focus rfl); (focus rfl); (focus (intro _; (simp; rfl))); (focus (intro _; (simp; rfl))); (focus (omega)); (focus (omega)); (focus (((simp only [Int.toNat_natCast, Int.reduceToNat, Nat.mul_one, Nat.zero_add, Nat.add_zero, Nat.reduceMul, Nat.reduceAdd]); rfl))); (refine hK _ _ ?_; clear hK K))) | ((with_reducible refine Txt.wpTxt_plain ?_ ?_ ?_); (focus with_reducible rfl); (focus rfl); intro _ _) | ((with_reducible refine Txt.wpTxt_runG ?_ ?_ ?_); (focus rfl); (focus rfl); intro _ _))
  clear Hp Hb h80 h81 hu0 hu1 he' h2' h2i
  obtain ⟨bx, hbx, hS1⟩ := name0 hS
  subst hbx
  clear hS
  have hS := hS1
  clear hS1
  go_loopw [12, 13] (fun sv iv wr => ∃ (i : Nat) (all : List UInt8) (a : Option Addr) (c : Nat), 1 ≤ i ∧ i ≤ nd ∧ iv = .int .i64 (i : Nat) ∧ sv = .slice a all.length c ∧ all.length ≤ i * 46 ∧ R = fin x (more d j.head x.b at_ (nd - i) i all) ∧ Sat w0 wr (Bytes 5 (.slice a all.length c) all :: Blk bx (.cells #[.int .i64 x.kind, .int .i64 x.a, .int .i64 x.b, .int .i64 x.c, .slice (some ⟨xg, xo, none⟩) x.bytes.length xc] 111) :: JBlk b j db v :: isDrum db d :: L)) (fun _ iv _ => nd - (intOf iv).toNat)
  case atStart => exact ⟨1, x.bytes, some ⟨xg, xo, none⟩, xc, by omega, hnd1.1, rfl, rfl, by omega, HR.out, hS.pick 1⟩
  case round =>
    clear hS
    obtain ⟨i, all, a, c, hi1, hi2, rfl, rfl, hal, hRi, hS⟩ := hrel
    have HRi := Lib.hid hRi
    clear hRi HR
    by_cases hlt : i < nd
    case pos =>
      have hlt' : (i : Int) < (nd : Int) := by omega
      have hi' : (i : Int) ≤ 45 := by omega
      obtain ⟨r, hr⟩ : ∃ r, nd - i = r + 1 := ⟨nd - i - 1, by omega⟩
      have Hr := Lib.hid hr
      clear hr
      by_cases hle : all.length = i * 46
      case neg =>
        have HR0 := Lib.hid (show R = none by rw [HRi.out, Hr.out, more_len hle]; rfl)
        have hne : ((all.length : Int) != (i : Int) * 46) = true := by rw [bne_iff_ne]; omega
        clear hle
        go_wp2_with ((go_at_call 61; ((with_reducible refine' (Hneed.out _).mono ?sc2x153); (case' sc2x153 => (rintro r4 w4 ⟨rfl, rfl⟩)))))
        rw [HR0.out]
        refine bodyPost_ret (results_t4 rfl _ _ (.slice none 0 0) (.int .i64 0) (.bool false) .nilIface rfl rfl rfl rfl) rfl ⟨rfl, by (refine Sat.ent hS ?_; repeat (first | (with_reducible exact Ent.refl _) | ((with_reducible apply Ent.pull); (focus ((repeat (first | with_reducible exact Split.here | with_reducible apply Split.there)); done))) | (with_reducible apply Ent.skip)))⟩
      have hne : ((all.length : Int) != (i : Int) * 46) = false := by rw [bne_eq_false_iff_eq]; omega
      have hp2 : ∀ (w : World) (L : List Asn), Table w0 → FldErrs E w0 → DrErrs E w0 → Sat w0 w (JBlk b j db v :: isDrum db d :: L) → Calls Tryd.prog 77 #[.pointer (some ⟨b, 0, none⟩), .int .i64 2, .int .i64 ((at_ : Int) + (i : Int))] w fun r w' => PcPost w0 (JBlk b j db v :: isDrum db d :: L) (Jr.piece d j.head 2 (at_ + i)) r w' := fun w L hT hE hD hS => jpiece_any E b db d j v 2 (at_ + i) hd hoff hn har w0 w L hT hE hD hS (by omega)
      obtain ⟨p2, hq2⟩ : ∃ p2, p2 = Jr.piece d j.head 2 (at_ + i) := ⟨_, rfl⟩
      rw [← hq2] at hp2
      have Hp2 := Lib.hid hp2
      have hat' : (at_ : Int) ≤ 900000 := by omega
      have hal2 : all.length ≤ 2070 := by omega
      have Hle := Lib.hid hle
      clear hle hp2
      cases p2
      case none =>
        have HR0 := Lib.hid (show R = none by rw [HRi.out, Hr.out, more_none hq2.symm]; rfl)
        clear hq2
        go_wp2_with (first | (go_at_call 61; ((with_reducible refine' (Hneed.out _).mono ?sc2x171); (case' sc2x171 => (rintro r4 w4 ⟨rfl, rfl⟩)))) | (go_at_call 77; ((with_reducible refine' (Hp2.out _ _ hT hE hD (hS.ent ?sd1x172)).mono ?sd2x172); (case sd1x172 => (repeat (first | (with_reducible exact Ent.refl _) | ((with_reducible apply Ent.pull); (focus ((repeat (first | with_reducible exact Split.here | with_reducible apply Split.there)); done)))))); (case' sd2x172 => (intro r4 w4 hb4; unfold PcPost at hb4; obtain ⟨z, za, zn, zc, rfl, hS1⟩ := hb4; unfold BlkV; (clear hS; have hS := hS1; clear hS1))))) | ((((with_reducible refine wpList_plain ?_ ?_); (focus rfl); intro K hK)); first | ((with_reducible refine' wp_storeN hS ?_ ?_ ?_ ?_ ?_ ?_ ?_ ?_); rotate_left 7; (focus rfl); (focus ((repeat (with_reducible exact Split.here)); done)); (focus (conv => lhs; whnf)); (focus (intro _; (simp; rfl))); (focus rfl); (focus (simp [Value.cells, Value.oneCell']; done)); (focus (simp; done)); intro w'; clear hS; intro hS; (try simp only [setCells, Value.cells, List.take_succ_cons, List.take_zero, List.drop_succ_cons, List.drop_zero, List.append_nil, List.nil_append, List.cons_append, List.length_cons, List.length_nil, Nat.zero_add, Nat.reduceAdd, List.drop_nil] at hS); (refine hK _ _ ?_; clear hK K)) | ((with_reducible refine' wp_alloc hS ?_ ?_); rotate_left 1; (focus (intro _; (simp; rfl))); intro w' b'; clear hS; intro hS; (try simp only [Value.cells] at hS); (refine hK _ _ ?_; clear hK K))))
        rw [HR0.out]
        refine bodyPost_ret (results_t4 rfl _ _ (.slice none 0 0) (.int .i64 0) (.bool false) .nilIface rfl rfl rfl rfl) rfl ⟨rfl, by (refine Sat.ent hS ?_; repeat (first | (with_reducible exact Ent.refl _) | ((with_reducible apply Ent.pull); (focus ((repeat (first | with_reducible exact Split.here | with_reducible apply Split.there)); done))) | (with_reducible apply Ent.skip)))⟩
      case some y =>
        have hyb := piece_bytes hq2.symm
        by_cases hye : y.b = x.b
        case neg =>
          have HR0 := Lib.hid (show R = none by rw [HRi.out, Hr.out, more_epoch hq2.symm hye]; rfl)
          have hyn : ((y.b : Int) != (x.b : Int)) = true := by rw [bne_iff_ne]; omega
          clear hq2 hye
          go_wp2_with (first | (go_at_call 61; ((with_reducible refine' (Hneed.out _).mono ?sc2x184); (case' sc2x184 => (rintro r4 w4 ⟨rfl, rfl⟩)))) | (go_at_call 77; ((with_reducible refine' (Hp2.out _ _ hT hE hD (hS.ent ?sd1x185)).mono ?sd2x185); (case sd1x185 => (repeat (first | (with_reducible exact Ent.refl _) | ((with_reducible apply Ent.pull); (focus ((repeat (first | with_reducible exact Split.here | with_reducible apply Split.there)); done)))))); (case' sd2x185 => (intro r4 w4 hb4; unfold PcPost at hb4; obtain ⟨ya, yc, rfl, hS1⟩ := hb4; unfold BlkV; (clear hS; have hS := hS1; clear hS1))))) | ((first | ((with_reducible refine wpList_plain ?_ ?_); (focus rfl); intro K hK) | ((with_reducible refine wpList_runG ?_ ?_); (focus rfl); intro K hK)); first | ((with_reducible refine' wp_load hS ?_ ?_ ?_ ?_ ?_); rotate_left 7; (focus rfl); (focus ((repeat (first | with_reducible exact Split.here | with_reducible apply Split.there)); done)); (focus (((simp only [List.getElem?_toArray, List.getElem?_cons_zero, List.getElem?_cons_succ]); rfl))); (focus (intro _; (simp; done))); (refine hK _ _ ?_; clear hK K)) | ((with_reducible refine' wp_storeN hS ?_ ?_ ?_ ?_ ?_ ?_ ?_ ?_); rotate_left 7; (focus rfl); (focus ((repeat (with_reducible exact Split.here)); done)); (focus (conv => lhs; whnf)); (focus (intro _; (simp; rfl))); (focus rfl); (focus (simp [Value.cells, Value.oneCell']; done)); (focus (simp; done)); intro w'; clear hS; intro hS; (try simp only [setCells, Value.cells, List.take_succ_cons, List.take_zero, List.drop_succ_cons, List.drop_zero, List.append_nil, List.nil_append, List.cons_append, List.length_cons, List.length_nil, Nat.zero_add, Nat.reduceAdd, List.drop_nil] at hS); (refine hK _ _ ?_; clear hK K)) | ((with_reducible refine' wp_alloc hS ?_ ?_); rotate_left 1; (focus (intro _; (simp; rfl))); intro w' b'; clear hS; intro hS; (try simp only [Value.cells] at hS); (refine hK _ _ ?_; clear hK K))))
          rw [HR0.out]
          refine bodyPost_ret (results_t4 rfl _ _ (.slice none 0 0) (.int .i64 0) (.bool false) .nilIface rfl rfl rfl rfl) rfl ⟨rfl, by (refine Sat.ent hS ?_; repeat (first | (with_reducible exact Ent.refl _) | ((with_reducible apply Ent.pull); (focus ((repeat (first | with_reducible exact Split.here | with_reducible apply Split.there)); done))) | (with_reducible apply Ent.skip)))⟩
        case pos =>
          have HR1 := Lib.hid (show R = fin x (more d j.head x.b at_ (nd - (i + 1)) (i + 1) (all ++ y.bytes)) by
            rw [HRi.out, Hr.out, more_step Hle.out hq2.symm hye, show nd - (i + 1) = r by have := Hr.out; omega])
          have hyn : ((y.b : Int) != (x.b : Int)) = false := by rw [bne_eq_false_iff_eq]; omega
          clear hq2 hye
          go_wp2_with (first | (go_at_call 61; ((with_reducible refine' (Hneed.out _).mono ?sc2x195); (case' sc2x195 => (rintro r4 w4 ⟨rfl, rfl⟩)))) | (go_at_call 77; ((with_reducible refine' (Hp2.out _ _ hT hE hD (hS.ent ?sd1x196)).mono ?sd2x196); (case sd1x196 => (repeat (first | (with_reducible exact Ent.refl _) | ((with_reducible apply Ent.pull); (focus ((repeat (first | with_reducible exact Split.here | with_reducible apply Split.there)); done)))))); (case' sd2x196 => (intro r4 w4 hb4; unfold PcPost at hb4; obtain ⟨ya, yc, rfl, hS1⟩ := hb4; unfold BlkV; (clear hS; have hS := hS1; clear hS1))))) | ((first | ((with_reducible refine wpList_plain ?_ ?_); (focus rfl); intro K hK) | ((with_reducible refine wpList_runG ?_ ?_); (focus rfl); intro K hK)); first | ((with_reducible refine' wp_append_bytes sl22 hS ?_ ?_ ?_ ?_ ?_ ?_ ?_); rotate_left 8; (focus (conv => lhs; whnf)); (focus ((repeat (first | with_reducible exact Split.here | with_reducible apply Split.there)); done)); (focus rfl); (focus ((((refine' reads_own hS ?_); rotate_left 3; (focus ((repeat (first | with_reducible exact Split.here | with_reducible apply Split.there)); done)))))); (focus ((simp; rfl))); (focus (omega)); intro w' a' c' hcap; clear hS; intro hS; (try simp only [List.nil_append, List.append_assoc] at hS hcap ⊢); (try simp only [List.length_append] at hcap); (refine hK _ _ ?_; clear hK K)) | ((with_reducible refine' wp_load hS ?_ ?_ ?_ ?_ ?_); rotate_left 7; (focus rfl); (focus ((repeat (first | with_reducible exact Split.here | with_reducible apply Split.there)); done)); (focus (((simp only [List.getElem?_toArray, List.getElem?_cons_zero, List.getElem?_cons_succ]); rfl))); (focus (intro _; (simp; done))); (refine hK _ _ ?_; clear hK K)) | ((with_reducible refine' wp_storeN hS ?_ ?_ ?_ ?_ ?_ ?_ ?_ ?_); rotate_left 7; (focus rfl); (focus ((repeat (with_reducible exact Split.here)); done)); (focus (conv => lhs; whnf)); (focus (intro _; (simp; rfl))); (focus rfl); (focus (simp [Value.cells, Value.oneCell']; done)); (focus (simp; done)); intro w'; clear hS; intro hS; (try simp only [setCells, Value.cells, List.take_succ_cons, List.take_zero, List.drop_succ_cons, List.drop_zero, List.append_nil, List.nil_append, List.cons_append, List.length_cons, List.length_nil, Nat.zero_add, Nat.reduceAdd, List.drop_nil] at hS); (refine hK _ _ ?_; clear hK K)) | ((with_reducible refine' wp_alloc hS ?_ ?_); rotate_left 1; (focus (intro _; (simp; rfl))); intro w' b'; clear hS; intro hS; (try simp only [Value.cells] at hS); (refine hK _ _ ?_; clear hK K))))
          go_roundw
          case rel => exact ⟨i + 1, all ++ y.bytes, a', c', by omega, by omega, by go_num, by rw [List.length_append], by rw [List.length_append]; have := Hle.out; omega, HR1.out, by (refine Sat.ent hS ?_; repeat (first | (with_reducible exact Ent.refl _) | ((with_reducible apply Ent.pull); (focus ((repeat (first | with_reducible exact Split.here | with_reducible apply Split.there)); done))) | (with_reducible apply Ent.skip)))⟩
          case measure => simp [intOf]; omega
    case neg =>
      obtain rfl : i = nd := by omega
      have hge : (i : Int) ≤ (i : Int) := by omega
      by_cases hfin : all.length = n + 2
      case neg =>
        have HR0 := Lib.hid (show R = none by rw [HRi.out, Nat.sub_self]; exact if_neg (by rw [← Hnl.out]; exact hfin))
        have hne : ((all.length : Int) != (n : Int) + 2) = true := by rw [bne_iff_ne]; omega
        clear hfin
        go_wp2_with ((go_at_call 61; ((with_reducible refine' (Hneed.out _).mono ?sc2x210); (case' sc2x210 => (rintro r4 w4 ⟨rfl, rfl⟩)))))
        rw [HR0.out]
        refine bodyPost_ret (results_t4 rfl _ _ (.slice none 0 0) (.int .i64 0) (.bool false) .nilIface rfl rfl rfl rfl) rfl ⟨rfl, by (refine Sat.ent hS ?_; repeat (first | (with_reducible exact Ent.refl _) | ((with_reducible apply Ent.pull); (focus ((repeat (first | with_reducible exact Split.here | with_reducible apply Split.there)); done))) | (with_reducible apply Ent.skip)))⟩
      case pos =>
        have HR0 := Lib.hid (show R = some (all.drop 2, x.b) by rw [HRi.out, Nat.sub_self]; exact if_pos (by rw [← Hnl.out]; exact hfin))
        have hne : ((all.length : Int) != (n : Int) + 2) = false := by rw [bne_eq_false_iff_eq]; omega
        have hal3 : 2 ≤ all.length := by omega
        clear hfin
        go_wp2_with (first | (go_at_call 61; ((with_reducible refine' (Hneed.out _).mono ?sc2x220); (case' sc2x220 => (rintro r4 w4 ⟨rfl, rfl⟩)))) | ((with_reducible refine Txt.wp_region_text ?_ ?_ ?_); (focus kernel_rfl); (focus decide +kernel); intro Q' hQ'; have hS1 := hS.drew; clear hS; have hS := hS1; clear hS1) | (with_reducible refine Txt.wpTxt_nil ?_) | ((first | ((with_reducible refine wpList_plain ?_ ?_); (focus rfl); intro K hK) | ((with_reducible refine Txt.wpTxt_plain ?_ ?_ ?_); (focus rfl); (focus rfl); intro K hK)); first | ((with_reducible refine' wp_slice_l 2 sl22 ?_ ?_ ?_ ?_ ?_); ((rotate_left 5; (focus rfl); (focus rfl); (focus (rfl)); (focus (omega)); intro a' hsub; (refine hK _ _ ?_; clear hK K)))) | ((with_reducible refine' wp_load hS ?_ ?_ ?_ ?_ ?_); rotate_left 7; (focus rfl); (focus ((repeat (first | with_reducible exact Split.here | with_reducible apply Split.there)); done)); (focus (((simp only [List.getElem?_toArray, List.getElem?_cons_zero, List.getElem?_cons_succ]); rfl))); (focus (intro _; (simp; done))); (refine hK _ _ ?_; clear hK K))) | ((with_reducible refine Txt.wpTxt_plain ?_ ?_ ?_); (focus with_reducible rfl); (focus rfl); intro _ _))
        rw [HR0.out]
        refine bodyPost_ret (results_t4 rfl _ _ (.slice a' (all.length - 2) (c - 2)) (.int .i64 x.b) (.bool true) .nilIface rfl rfl rfl rfl) rfl ⟨a', c - 2, by rw [List.length_drop], ?_⟩
        have hS2 := bytes_drop hS hsub (by omega)
        rw [List.length_drop]
        exact hS2.ent (by (repeat (first | (with_reducible exact Ent.refl _) | ((with_reducible apply Ent.pull); (focus ((repeat (first | with_reducible exact Split.here | with_reducible apply Split.there)); done))) | (with_reducible apply Ent.skip))))
theorem record_any :
    Calls Tryd.prog 69 #[.pointer (some ⟨b, 0, none⟩), .int .i64 (at_ : Int)] w fun r w' => RecPost w0 (JBlk b j db v :: isDrum db d :: L) (Jr.record d j.head at_) r w' := by
  cases hp : Jr.piece d j.head 1 at_ with
  | none =>
    rw [Jr.record_none hp]
    exact record_no E b db d j v at_ hd hoff hn har hat w0 w L hT hE hD hS hp
  | some x => exact record_yes E b db d j v at_ hd hoff hn har hat w0 w L hT hE hD hS x hp
end
end Go.Proofs.YtndnojbpapjdoaaDoor
