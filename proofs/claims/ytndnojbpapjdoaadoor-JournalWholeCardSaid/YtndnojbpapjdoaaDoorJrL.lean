/- Package journal walked: a record is laid. -/
import Derived.Test.YtndnojbpapjdoaaDoorJrI
set_option linter.unusedSimpArgs false
set_option linter.unusedVariables false
set_option linter.unusedSectionVars false
namespace Go.Proofs.YtndnojbpapjdoaaDoor
open Go.Sp Go.RowKit Go.Fld Go.Sha Go.Dr Go.Jr

theorem under_part {w0 : World} {L M : List Asn} {e : TypeId} {g o n c : Nat} {l x : List UInt8} (s : Split L (Bytes e (.slice (some ⟨g, o, none⟩) n c) l) M) (i m c2 : Nat) (hx : (l.drop i).take m = x) (h : i + m ≤ l.length) (h2 : m ≤ c2) (h3 : c2 ≤ maxLen) :
    Under w0 L (.slice (some ⟨g, o + i, none⟩) m c2) x := by
  subst hx
  intro w' hS
  have hl : ((l.drop i).take m).length = m := by simp; omega
  refine ⟨some ⟨g, o + i, none⟩, c2, by rw [hl], by omega, h3, (fun h => by cases h), fun ad had j u hu => ?_⟩
  cases had
  rw [addr_add, Nat.add_assoc]
  refine bytes_cell hS s ?_
  rw [List.getElem?_take] at hu
  split at hu
  · rwa [List.getElem?_drop] at hu
  · cases hu
theorem results_cellv {P : Program} {fn : Func} {p : Tmp} {ty : TypeId} (h : fn.results = #[.cell p ty]) (tmps : Array Value) (w : World) (g : Nat) (t : TypeId) (v : Value) (fr : Nat × Nat)
    (hp : tmps.getD p undef = .pointer (some ⟨g, 0, none⟩)) (hg : w.heap[g]? = some (.cells #[v] t fr)) (hag : ∀ w, (isAgg ty).run P w = .ok false w) :
    (results fn tmps).run P w = .ok v w := by
  have hp' : tmps[p]?.getD undef = .pointer (some ⟨g, 0, none⟩) := by simpa using hp
  have hl : (loadVar ty ⟨g, 0, none⟩).run P w = .ok v w := run_load1 hag (cell_blk hg 0)
  simp [results, h, hp', asAddr, hl]
/-- What laying a record answers. -/
def LayPost (E : Nat → Addr) (b db : Nat) (j : Jr.J) (v : Value) (w0 : World) (L : List Asn) (q : Nat × Dr.Drum) (r : Ending) (w' : World) : Prop :=
  r = .returned (erv E q.1) ∧ Sat w0 w' (JBlk b (if q.1 = 0 then j else { j with dead := true }) db v :: isDrum db q.2 :: L)
section
variable (E : Nat → Addr) (b db : Nat) (d : Dr.Drum) (j : Jr.J) (v : Value) (w0 w : World) (L : List Asn)
set_option maxRecDepth 100000 in
set_option maxHeartbeats 8000000 in
theorem lay_any (h : Head) (at_ : Nat) (bv : Value) (l : List UInt8) (hd : d.ok) (hl : d.left ≤ 4611686018427387904) (hoff : d.off = false) (hn : 2 ≤ d.n) (ha : h.area ≤ 1) (hh : above h = false) (hlen : l.length ≤ 2000) (hfit : at_ + need l.length ≤ half d.n)
    (hT : Table w0) (hD : DrErrs E w0) (hS : Sat w0 w (JBlk b j db v :: isDrum db d :: L)) (hr : Under w0 L bv l) :
    Calls Tryd.prog 65 #[.pointer (some ⟨b, 0, none⟩), HeadV h, .int .i64 (at_ : Int), bv] w fun r w' => LayPost E b db j v w0 L (Jr.lay d h at_ 1 (chunks (hdr l.length ++ l))) r w' := by
  obtain ⟨ba, bc, rfl, hbc⟩ := hr w hS.drop.drop
  unfold HeadV
  obtain ⟨u0, hu0⟩ : ∃ u, u = UInt8.ofNat (l.length / 256) := ⟨_, rfl⟩
  obtain ⟨u1, hu1⟩ : ∃ u, u = UInt8.ofNat l.length := ⟨_, rfl⟩
  have hhdr : hdr l.length = [u0, u1] := by rw [hu0, hu1]; rfl
  have Hb0 := Lib.hid (show IntKind.u8.wrap ((l.length : Int) / 256) = (u0.toNat : Int) by rw [hu0, show (l.length : Int) / 256 = ((l.length / 256 : Nat) : Int) by omega]; exact wrap_n_b _)
  have Hb1 := Lib.hid (show IntKind.u8.wrap (l.length : Int) = (u1.toNat : Int) by rw [hu1]; exact wrap_n_b _)
  obtain ⟨all, hall⟩ : ∃ all, all = hdr l.length ++ l := ⟨_, rfl⟩
  have Hall := Lib.hid (show u0 :: u1 :: l = all by rw [hall, hhdr]; rfl)
  clear hu0 hu1 hhdr
  rw [← hall]
  have hallen : all.length = l.length + 2 := by rw [hall, List.length_append, length_hdr]; omega
  have hlen' : (l.length : Int) ≤ 2000 := by omega
  clear hall
  refine (callsIn_wide (n := 5)).1 ?_
  refine callsIn_of_wp_marks Tryd.func65 rfl trivial ?_ rfl
  simp only [Tryd.ntmps65, List.size_toArray, List.length_cons, List.length_nil, Nat.reduceAdd, Nat.reduceSub, Array.replicate_succ, Array.replicate_zero, List.push_toArray, List.append_toArray, List.nil_append, List.cons_append]
  refine Go.wpIn_seq_k (fun K1 hK1 => ?_)
  (with_reducible refine region_plain_wide ?_ ?_)
  focus kernel_rfl
  go_wp2_with (first | (with_reducible refine Txt.wpTxt_nil ?_) | ((((with_reducible refine Txt.wpTxt_plain ?_ ?_ ?_); (focus rfl); (focus rfl); intro K hK)); first | ((with_reducible refine' wp_alloc hS ?_ ?_); rotate_left 1; (focus (intro _; (simp; rfl))); intro w' b'; clear hS; intro hS; (try simp only [Value.cells] at hS); (refine hK _ _ ?_; clear hK K)) | ((with_reducible refine' wp_box hS ?_ ?_); rotate_left 1; (focus (conv => lhs; whnf)); intro w' b'; clear hS; intro hS; (try simp only [Value.cells] at hS); (refine hK _ _ ?_; clear hK K))))
  rename_i wA bj wB bh wC bat
  obtain ⟨br, hbr, hS1⟩ := name0 hS
  subst hbr
  clear hS
  have hS := hS1
  clear hS1
  refine Go.wpIn_seq_k (fun K1 hK1 => ?_)
  (with_reducible refine region_plain_wide ?_ ?_)
  focus kernel_rfl
  go_wp2_with (first | (with_reducible refine Txt.wpTxt_nil ?_) | ((((with_reducible refine Txt.wpTxt_plain ?_ ?_ ?_); (focus rfl); (focus rfl); intro K hK)); first | ((with_reducible refine' wp_conv ?_ ?_ ?_ ?_ ?_); rotate_left 5; (focus (conv => lhs; whnf)); (focus (intro _; (simp; rfl))); (focus (intro _; (simp; rfl))); (focus (first | exact Hb1.out | exact Hb0.out)); (refine hK _ _ ?_; clear hK K)) | ((with_reducible refine' wp_bytes_lit [u0, u1] hS ?_ ?_ ?_ ?_ ?_ ?_ ?_ ?_ ?_); rotate_left 3; (focus (intro _; (simp; rfl))); (focus (intro _; (simp; done))); (focus (intro _; (simp; rfl))); (focus rfl); (focus decide); (focus decide); (focus rfl); (focus kernel_rfl); intro w' b'; clear hS; intro hS; (refine hK _ _ ?_; clear hK K)) | (((with_reducible refine' wp_append_bytes sl22 hS ?_ ?_ ?_ ?_ ?_ ?_ ?_); rotate_left 8; (focus (conv => lhs; whnf)); (focus ((repeat (with_reducible exact Split.here)); done)); (focus rfl); (focus ((exact hr _ (hS.ent (by (repeat (first | (with_reducible exact Ent.refl _) | (with_reducible apply Ent.skip)))))))); (focus ((simp; rfl))); (focus ((simp; omega))); intro w' a' c' hcap; clear hS; intro hS; (try simp only [List.nil_append, List.append_assoc] at hS hcap ⊢); (try simp only [List.length_append] at hcap); (refine hK _ _ ?_; clear hK K)); (try simp only [List.cons_append, List.nil_append, Hall.out] at hS))) | ((with_reducible refine Txt.wpTxt_plain ?_ ?_ ?_); (focus with_reducible rfl); (focus rfl); intro _ _))
  obtain ⟨ag, ao, ac, hav, hac⟩ := bytes_addr hS (by omega)
  simp only [Value.slice.injEq, true_and] at hav
  obtain ⟨rfl, rfl⟩ := hav
  obtain ⟨_, _, hve, _, _, hcm⟩ := hS.row_len
  simp only [Value.slice.injEq] at hve
  obtain ⟨-, -, rfl⟩ := hve
  clear hcap
  refine Go.wpIn_seq_k (fun K1 hK1 => ?_)
  (with_reducible refine region_plain_wide ?_ ?_)
  focus kernel_rfl
  go_wp2_with (first | (with_reducible refine Txt.wpTxt_nil ?_) | ((((with_reducible refine Txt.wpTxt_plain ?_ ?_ ?_); (focus rfl); (focus rfl); intro K hK)); first | ((with_reducible refine' wp_store hS ?_ ?_ ?_ ?_ ?_ ?_ ?_); rotate_left 6; (focus rfl); (focus ((repeat (with_reducible exact Split.here)); done)); (focus (conv => lhs; whnf)); (focus (intro _; (simp; done))); (focus rfl); (focus (simp; done)); intro w'; clear hS; intro hS; (try simp only [List.setIfInBounds_toArray, List.set_cons_succ, List.set_cons_zero] at hS); (refine hK _ _ ?_; clear hK K)) | ((with_reducible refine' wp_alloc hS ?_ ?_); rotate_left 1; (focus (intro _; (simp; rfl))); intro w' b'; clear hS; intro hS; (try simp only [Value.cells] at hS); (refine hK _ _ ?_; clear hK K))))
  obtain ⟨bk, hbk, hS1⟩ := name0 hS
  subst hbk
  clear hS
  have hS := hS1
  clear hS1
  refine Go.wpIn_seq_k (fun KE hKE => ?_)
  refine Go.wpIn_seq_k (fun K1 hK1 => ?_)
  (with_reducible refine region_plain_wide ?_ ?_)
  focus kernel_rfl
  go_wp2_with (first | (with_reducible refine Txt.wpTxt_nil ?_) | (go_at_call 73; ((with_reducible refine' (chunk_any _ _ _ w0 _ _ hS).mono ?sa1x85); (case' sa1x85 => (rintro r4 w4 ⟨bs, bn, rfl, hS1⟩; (clear hS; have hS := hS1; clear hS1))))) | ((with_reducible refine Txt.wpTxt_plain ?_ ?_ ?_); (focus with_reducible rfl); (focus rfl); intro _ _))
  obtain ⟨N, hN⟩ : ∃ N, N = l.length + 1 + 1 := ⟨_, rfl⟩
  rw [← hN] at hS
  have hN2 : all.length = N := by omega
  have hNb : N ≤ 2002 := by omega
  obtain ⟨q, hq⟩ : ∃ q, q = Jr.lay d h at_ 1 (chunks all) := ⟨_, rfl⟩
  rw [← hq]
  have hneed : Jr.need l.length = (N + 45) / 46 := by unfold Jr.need; rw [hN]
  have hNl : N = l.length + 2 := by omega
  have HNl := Lib.hid hNl
  clear hN hallen hNl
  refine Go.wpIn_block ?_
  refine wp_range_sat (w0 := w0) (gf := 83) (lb := #[.pointer (some ⟨bs, 0, none⟩), .pointer (some ⟨bn, 0, none⟩)]) rfl (enters_of Tryd.func83 (by kernel_rfl) rfl)
    (List.range ((N + 45) / 46)) (chunk_seq bs bn ag ao N c' (by omega) (by omega) hcm) (fun _ => rfl)
    (fun pre => Ex (fun di => Pu (Lays d h at_ all pre.length di) (isDrum db di)) :: Blk bs (.cells #[.slice (some ⟨ag, ao, none⟩) N c'] 22) :: Blk bn (.cells #[.int .i64 46] 3) :: Blk bk (.cells #[.int .i64 (kindOf pre.length : Nat)] 3) :: Bytes 5 (.slice (some ⟨ag, ao, none⟩) all.length c') all :: Blk br (.cells #[.nilIface] 26) :: Blk bat (.cells #[.int .i64 ((at_ + pre.length : Nat) : Int)] 3) :: Blk bh (.cells #[.int .i64 h.serial, .int .i64 h.gen, .int .i64 h.epoch, .int .i64 h.area] 101) :: Blk bj (.cells #[.pointer (some ⟨b, 0, none⟩)] 64) :: JBlk b j db v :: L)
    (fun c => Pu (c = .ret ∧ q.1 = 6) Emp :: Blk br (.cells #[.iface 182 (.pointer (some (E 6)))] 26) :: JBlk b { j with dead := true } db v :: isDrum db q.2 :: L)
    (fun pre W h => ⟨cell_blk (h.split (.there .here)).at 0, cell_blk (h.split (.there (.there .here))).at 0⟩) ?start ?a1 ?assign ?body ?done ?stop
  case start =>
    have h1 : Sat w0 w4 (isDrum db d :: Blk bs (.cells #[.slice (some ⟨ag, ao, none⟩) N c'] 22) :: Blk bn (.cells #[.int .i64 46] 3) :: Blk bk (.cells #[.int .i64 1] 3) :: Bytes 5 (.slice (some ⟨ag, ao, none⟩) all.length c') all :: Blk br (.cells #[.nilIface] 26) :: Blk bat (.cells #[.int .i64 (at_ : Int)] 3) :: Blk bh (.cells #[.int .i64 h.serial, .int .i64 h.gen, .int .i64 h.epoch, .int .i64 h.area] 101) :: Blk bj (.cells #[.pointer (some ⟨b, 0, none⟩)] 64) :: JBlk b j db v :: L) := hS.ent (by (repeat (first | (with_reducible exact Ent.refl _) | ((with_reducible apply Ent.pull); (focus ((repeat (first | with_reducible exact Split.here | with_reducible apply Split.there)); done))))))
    exact h1.head fun g hg => ⟨d, Lays.start h at_ all hd hoff hl, hg⟩
  case assign =>
    intro m l' x W K hK
    (with_reducible refine region_plain_in ?_ ?_)
    focus kernel_rfl
    go_wp2_with (first | (with_reducible refine Txt.wpTxt_nil ?_) | ((with_reducible refine Txt.wpTxt_plain ?_ ?_ ?_); (focus with_reducible rfl); (focus rfl); intro _ _))
    exact hK
  case body =>
    clear hS
    intro m l' D lp pre i post W hx hS
    obtain ⟨rfl, him⟩ := range_at hx
    simp only [List.length_range, List.length_append, List.length_singleton] at hS
    obtain ⟨di, hS1⟩ := Sat.ex.1 (hS.pick 2)
    obtain ⟨hL, hS2⟩ := Sat.pu.1 hS1
    clear hS hS1
    have hS := hS2
    clear hS2
    have hi46 : 46 * i < N := by omega
    have hfit' : at_ + i < half d.n := by omega
    have hd4 := hd.2
    have hh' := of_decide_eq_false hh
    obtain ⟨pt, hpt⟩ : ∃ pt, pt = (all.drop (46 * i)).take 46 := ⟨_, rfl⟩
    have hptl : pt.length = min 46 (N - 46 * i) := by rw [hpt, List.length_take, List.length_drop, hN2]
    obtain ⟨kd, hkd⟩ : ∃ kd, kd = kindOf i := ⟨_, rfl⟩
    have hkd2 : kd ≤ 2 := by rw [hkd]; unfold kindOf; split <;> omega
    have hok : Block.ok ⟨kd, h.gen, h.epoch, at_ + i, pt⟩ := ⟨show kd ≤ 255 by omega, show h.gen ≤ 4294967295 by omega, show h.epoch ≤ 4294967295 by omega, show at_ + i ≤ 4294967295 by (unfold half at hfit'; omega), show pt.length ≤ 46 by omega⟩
    have hlp := Jr.length_put hok
    have hst := hL.step (by omega) (first_lt hn ha hfit') (by rw [← hkd, ← hpt]; exact hlp)
    have hw2 := write_two (x := Block.put ⟨kd, h.gen, h.epoch, at_ + i, pt⟩) hL.off (show first d.n h.area + (at_ + i) < di.n by rw [hL.n]; exact first_lt hn ha hfit')
    rw [← hkd, ← hpt] at hst
    have hput2 : ∀ (v : Value) (w : World) (L : List Asn), Table w0 → Sat w0 w L → Under w0 L v pt → Calls Tryd.prog 70 #[.agg #[.int .i64 kd, .int .i64 h.gen, .int .i64 h.epoch, .int .i64 ((at_ : Int) + (i : Int)), v]] w fun r w' => r = .returned (.tuple #[.agg ((Block.put ⟨kd, h.gen, h.epoch, at_ + i, pt⟩).map B).toArray, .nilIface]) ∧ Sat w0 w' L := fun v w L hT hS hr => put_ok ⟨kd, h.gen, h.epoch, at_ + i, pt⟩ hok v w0 w L hT hS hr
    obtain ⟨pb, hpb⟩ : ∃ pb, pb = Block.put ⟨kd, h.gen, h.epoch, at_ + i, pt⟩ := ⟨_, rfl⟩
    rw [← hpb] at hlp hst hw2
    rw [← hpb] at hput2
    have hfi := first_same b db di j v h.area ha (by rw [hL.n]; exact hn) (by rw [hL.n]; exact hd.2) w0
    rw [hL.n] at hfi
    obtain ⟨fa, hfa⟩ : ∃ fa, fa = Jr.first d.n h.area := ⟨_, rfl⟩
    rw [← hfa] at hfi hst hw2
    have hfl : fa + (at_ + i) < d.n := by rw [hfa]; exact first_lt hn ha hfit'
    have hwr := fun (w : World) (L : List Asn) => Go.Proofs.YtndnojbpapjdoaaDoor.write_any E db di ((fa : Int) + ((at_ : Int) + (i : Int))) pb hlp hL.ok hL.left w0 w L
    have he : ((fa : Int) + ((at_ : Int) + (i : Int))) = ((fa + (at_ + i) : Nat) : Int) := by omega
    rw [he] at hwr
    obtain ⟨wq, hwq⟩ : ∃ wq, wq = di.write ((fa + (at_ + i) : Nat) : Int) pb := ⟨_, rfl⟩
    rw [← hwq] at hst hw2 hwr
    rw [← he] at hwr
    have Hput := Lib.hid hput2
    have Hfi := Lib.hid hfi
    have Hwr := Lib.hid hwr
    have Hst := Lib.hid hst
    have hfl2 : (fa : Int) + ((at_ : Int) + (i : Int)) ≤ 4096 := by omega
    have hati : (at_ : Int) + (i : Int) ≤ 4096 := by omega
    have Hpt := Lib.hid (show (all.drop (46 * i)).take (min 46 (N - 46 * i)) = pt by
      rw [hpt, List.take_eq_take_min (i := 46), List.length_drop, hN2])
    have hN3 : 46 * i + min 46 (N - 46 * i) ≤ all.length := by omega
    rw [← hkd] at hS
    have Hkd := Lib.hid hkd
    have Hq := Lib.hid hq
    clear hput2 hfi hwr hst hpb hok hh' hpt hkd hfa hwq he hx hq hptl
    refine Go.wpIn_block ?_
    unfold chunkV
    refine Go.wpIn_seq_k (fun K1 hK1 => ?_)
    (with_reducible refine region_plain_in ?_ ?_)
    focus kernel_rfl
    go_wp2_with (first | (with_reducible refine Txt.wpTxt_nil ?_) | (go_at_call 70; ((with_reducible refine' (Hput.out _ _ _ hT hS (under_part ?sa2x167 _ _ _ Hpt.out hN3 (Nat.le_refl _) ?sa3x167)).mono ?sa1x167); (case sa2x167 => ((repeat (first | with_reducible exact Split.here | with_reducible apply Split.there)); done)); (case sa3x167 => (unfold maxLen; omega)); (case' sa1x167 => (rintro r4 w4 ⟨rfl, hS1⟩; (clear hS; have hS := hS1; clear hS1))))) | ((((with_reducible refine Txt.wpTxt_plain ?_ ?_ ?_); (focus rfl); (focus rfl); intro K hK)); first | ((with_reducible refine' wp_alloc_ba hS ?_ ?_); rotate_left 1; (focus (exact zero117)); intro w' b'; clear hS; intro hS; (refine hK _ _ ?_; clear hK K)) | ((with_reducible refine' wp_store_ba hS ?_ ?_ ?_ ?_ ?_ ?_ ?_); rotate_left 6; (focus rfl); (focus ((repeat (with_reducible exact Split.here)); done)); (focus rfl); (focus (exact sz117)); (focus (omega)); (focus ((simp; done))); intro w'; clear hS; intro hS; (refine hK _ _ ?_; clear hK K)) | ((with_reducible refine' wp_load hS ?_ ?_ ?_ ?_ ?_); rotate_left 7; (focus rfl); (focus ((repeat (first | with_reducible exact Split.here | with_reducible apply Split.there)); done)); (focus (((simp only [List.getElem?_toArray, List.getElem?_cons_zero, List.getElem?_cons_succ]); rfl))); (focus (intro _; (simp; done))); (refine hK _ _ ?_; clear hK K))) | ((with_reducible refine Txt.wpTxt_plain ?_ ?_ ?_); (focus with_reducible rfl); (focus rfl); intro _ _))
    refine Go.wpIn_seq_k (fun KE2 hKE2 => ?_)
    refine Go.wpIn_seq_k (fun K1 hK1 => ?_)
    (with_reducible refine region_list_in ?_ ?_)
    focus kernel_rfl
    intro Q' hQ'
    go_wp2_with (fail)
    refine Go.wpIn_cond_false rfl ?_
    refine Go.wpIn_skip ?_
    refine hKE2 _ _ ?_
    clear hKE2 KE2
    refine Go.wpIn_seq_k (fun KE3 hKE3 => ?_)
    have Hw2 := Lib.hid hw2
    clear hw2
    refine Go.wpIn_seq_k (fun K1 hK1 => ?_)
    have hS1 := hS.drew
    clear hS
    have hS := hS1
    clear hS1
    (with_reducible refine' region_held_in (id := 8) ?hn8 (fun w => ∃ M, Sat w0 w (JBlk b j db v :: isDrum db di :: M)) [(7, .int .i64 (fa : Int))] [7] 11 rfl ?hm8 ?hB8 ?hI8 ?hh8)
    case hn8 => kernel_rfl
    case hm8 => kernel_rfl
    case hB8 => decide +kernel
    case hI8 => exact ⟨_, hS.ent (Ent.pull (by ((repeat (first | with_reducible exact Split.here | with_reducible apply Split.there)); done)) (Ent.pull (by ((repeat (first | with_reducible exact Split.here | with_reducible apply Split.there)); done)) (Ent.refl _)))⟩
    case' hh8 => (intro Q' hQ')
    go_wp2_with (first | (go_at_call 71; ((with_reducible refine' (Hwr.out _ _ hD (hS.split ?sb4x192)).mono ?sb5x192); (case sb4x192 => ((repeat (first | with_reducible exact Split.here | with_reducible apply Split.there)); done)); (case' sb5x192 => (rintro r4 w4 ⟨rfl, hS1⟩; (clear hS; have hS := hS1; clear hS1); (try ((refine hK _ _ ?_ ?_); (focus exact ⟨_, hS.split (by ((repeat (fail)); done))⟩); clear hK K)))))) | (with_reducible refine Txh.wpHeld_nil ?_) | (((with_reducible refine' Txh.wpHeld_held ?_ ?_ ?_ ?_); rotate_left 1; (focus rfl); (focus rfl); (focus ((with_reducible refine' fixed_call2 (f := 74) ?_ ?_ ?_ ?_); rotate_left 2; (focus (conv => lhs; whnf)); (focus (conv => lhs; whnf)); (focus (intro _ _; simp)); (focus (intro w5 hI5; (obtain ⟨M5, hM5⟩ := hI5; exact Hfi.out w5 M5 hM5))))))) | ((with_reducible refine Txh.wpHeld_free ?_ ?_ ?_ ?_ ?_); (focus rfl); (focus rfl); (focus rfl); (focus decide +kernel); intro K hK; first | ((with_reducible refine' wp_load_ba hS ?_ ?_ ?_ ?_ ?_ ?_); rotate_left 6; (focus rfl); (focus ((repeat (first | with_reducible exact Split.here | with_reducible apply Split.there)); done)); (focus (exact agg117)); (focus (exact sz117)); (focus (omega)); (refine hK _ _ ?_; clear hK K)) | ((with_reducible refine' wp_load hS ?_ ?_ ?_ ?_ ?_); rotate_left 7; (focus rfl); (focus ((repeat (first | with_reducible exact Split.here | with_reducible apply Split.there)); done)); (focus (((simp only [List.getElem?_toArray, List.getElem?_cons_zero, List.getElem?_cons_succ]); rfl))); (focus (intro _; (simp; done))); (refine hK _ _ ?_; clear hK K))) | (((with_reducible refine Txh.wpHeld_free ?_ ?_ ?_ ?_ ?_); (focus rfl); (focus rfl); (focus rfl); (focus decide +kernel); intro _ _)))
    obtain ⟨we, wd⟩ := wq
    have hw2 := Hw2.out
    have hst := Hst.out
    clear Hw2 Hst Hwr
    dsimp only at hw2 hst hS ⊢
    rcases hw2 with rfl | rfl
    · have hL2 := hst.1 rfl
      clear hst
      dsimp only [erv]
      refine Go.wpIn_seq_k (fun K1 hK1 => ?_)
      (with_reducible refine region_list_in ?_ ?_)
      focus kernel_rfl
      intro Q' hQ'
      go_wp2_with (fail)
      refine Go.wpIn_cond_false rfl ?_
      refine Go.wpIn_skip ?_
      refine hKE3 _ _ ?_
      clear hKE3 KE3
      refine Go.wpIn_seq_k (fun K1 hK1 => ?_)
      (with_reducible refine region_plain_in ?_ ?_)
      focus kernel_rfl
      go_wp2_with (first | (with_reducible refine Txt.wpTxt_nil ?_) | ((((with_reducible refine Txt.wpTxt_plain ?_ ?_ ?_); (focus rfl); (focus rfl); intro K hK)); ((with_reducible refine' wp_store hS ?_ ?_ ?_ ?_ ?_ ?_ ?_); rotate_left 6; (focus rfl); (focus ((repeat (first | with_reducible exact Split.here | with_reducible apply Split.there)); done)); (focus (conv => lhs; whnf)); (focus (intro _; (simp; done))); (focus rfl); (focus (simp; done)); intro w'; clear hS; intro hS; (try simp only [List.setIfInBounds_toArray, List.set_cons_succ, List.set_cons_zero] at hS); (refine hK _ _ ?_; clear hK K))))
      (with_reducible refine region_plain_in ?_ ?_)
      focus kernel_rfl
      go_wp2_with (first | (with_reducible refine Txt.wpTxt_nil ?_) | ((((with_reducible refine Txt.wpTxt_plain ?_ ?_ ?_); (focus rfl); (focus rfl); intro K hK)); first | ((with_reducible refine' wp_load hS ?_ ?_ ?_ ?_ ?_); rotate_left 7; (focus rfl); (focus ((repeat (first | with_reducible exact Split.here | with_reducible apply Split.there)); done)); (focus (((simp only [List.getElem?_toArray, List.getElem?_cons_zero, List.getElem?_cons_succ]); rfl))); (focus (intro _; (simp; done))); (refine hK _ _ ?_; clear hK K)) | ((with_reducible refine' wp_store hS ?_ ?_ ?_ ?_ ?_ ?_ ?_); rotate_left 6; (focus rfl); (focus ((repeat (first | with_reducible exact Split.here | with_reducible apply Split.there)); done)); (focus (conv => lhs; whnf)); (focus (intro _; (simp; done))); (focus rfl); (focus (simp; done)); intro w'; clear hS; intro hS; (try simp only [List.setIfInBounds_toArray, List.set_cons_succ, List.set_cons_zero] at hS); (refine hK _ _ ?_; clear hK K))) | ((with_reducible refine Txt.wpTxt_plain ?_ ?_ ?_); (focus with_reducible rfl); (focus rfl); intro _ _))
      have hlen1 : (List.range i ++ [i]).length = i + 1 := by simp
      have e1 : ((kindOf (i + 1) : Nat) : Int) = 2 := by simp [kindOf]
      have e2 : ((at_ + (i + 1) : Nat) : Int) = (at_ : Int) + (i : Int) + 1 := by omega
      simp only [rngPost, hlen1]
      rw [e1, e2]
      exact ((Sat.ex (A := fun di => Pu (Lays d h at_ all (i + 1) di) (isDrum db di))).2 ⟨wd, Sat.pu.2 ⟨hL2, hS.pick 2⟩⟩).ent (by (repeat (first | (with_reducible exact Ent.refl _) | ((with_reducible apply Ent.pull); (focus ((repeat (first | with_reducible exact Split.here | with_reducible apply Split.there)); done))) | (with_reducible apply Ent.skip))))
    · have hL2 := hst.2 rfl
      clear hst
      dsimp only [erv]
      refine Go.wpIn_seq_k (fun K1 hK1 => ?_)
      (with_reducible refine region_list_in ?_ ?_)
      focus kernel_rfl
      intro Q' hQ'
      go_wp2_with (fail)
      refine Go.wpIn_cond_true rfl ?_
      refine Go.wpIn_seq_k (fun K1 hK1 => ?_)
      (with_reducible refine region_plain_in ?_ ?_)
      focus kernel_rfl
      go_wp2_with (first | (with_reducible refine Txt.wpTxt_nil ?_) | (go_at_call 72; ((with_reducible refine' (wrote_any E b db j v w0 _ _ hD (hS.split ?sc1x236)).mono ?sc2x236); (case sc1x236 => ((repeat (first | with_reducible exact Split.here | with_reducible apply Split.there)); done)); (case' sc2x236 => (rintro r4 w4 ⟨rfl, hS1⟩; (clear hS; have hS := hS1; clear hS1))))) | ((((with_reducible refine Txt.wpTxt_plain ?_ ?_ ?_); (focus rfl); (focus rfl); intro K hK)); first | ((with_reducible refine' wp_load hS ?_ ?_ ?_ ?_ ?_); rotate_left 7; (focus rfl); (focus ((repeat (first | with_reducible exact Split.here | with_reducible apply Split.there)); done)); (focus (((simp only [List.getElem?_toArray, List.getElem?_cons_zero, List.getElem?_cons_succ]); rfl))); (focus (intro _; (simp; done))); (refine hK _ _ ?_; clear hK K)) | ((with_reducible refine' wp_store hS ?_ ?_ ?_ ?_ ?_ ?_ ?_); rotate_left 6; (focus rfl); (focus ((repeat (first | with_reducible exact Split.here | with_reducible apply Split.there)); done)); (focus (conv => lhs; whnf)); (focus (intro _; (simp; done))); (focus rfl); (focus (simp; done)); intro w'; clear hS; intro hS; (try simp only [List.setIfInBounds_toArray, List.set_cons_succ, List.set_cons_zero] at hS); (refine hK _ _ ?_; clear hK K))) | ((with_reducible refine Txt.wpTxt_plain ?_ ?_ ?_); (focus with_reducible rfl); (focus rfl); intro _ _))
      refine Go.wpIn_ret ?_
      have hq6 : q = (6, wd) := Hq.out.trans hL2
      simp only [Exit.then, Exit.inBlock, rngPost, hq6]
      exact ((Sat.pu (p := True ∧ True)).2 ⟨⟨trivial, trivial⟩, Sat.emp.2 hS⟩).ent (by (repeat (first | (with_reducible exact Ent.refl _) | ((with_reducible apply Ent.pull); (focus ((repeat (first | with_reducible exact Split.here | with_reducible apply Split.there)); done))) | (with_reducible apply Ent.skip))))
  case done =>
    clear hS
    intro D W hS
    simp only [List.length_range] at hS
    obtain ⟨di, hS1⟩ := Sat.ex.1 (hS.pick 1)
    obtain ⟨hL, hS2⟩ := Sat.pu.1 hS1
    clear hS hS1
    have hS := hS2
    clear hS2
    have hq0 := hL.done (i := (N + 45) / 46) (by omega)
    have Hq0 := Lib.hid hq0
    clear hL hq hq0
    show KE _ _
    refine hKE _ _ ?_
    clear hKE KE
    refine Go.wpIn_seq_k (fun K1 hK1 => ?_)
    (with_reducible refine region_list_wide ?_ ?_)
    focus kernel_rfl
    intro Q' hQ'
    go_wp2_with (((((with_reducible refine wpList_plain ?_ ?_); (focus rfl); intro K hK)); ((with_reducible refine' wp_store hS ?_ ?_ ?_ ?_ ?_ ?_ ?_); rotate_left 6; (focus rfl); (focus ((repeat (first | with_reducible exact Split.here | with_reducible apply Split.there)); done)); (focus (conv => lhs; whnf)); (focus (intro _; (simp; done))); (focus rfl); (focus (simp; done)); intro w'; clear hS; intro hS; (try simp only [List.setIfInBounds_toArray, List.set_cons_succ, List.set_cons_zero] at hS); (refine hK _ _ ?_; clear hK K))))
    refine Go.wpIn_ret ?_
    have hS1 := hS.pick 2
    clear hS
    refine ⟨by simp, .inl ⟨_, _, rfl, run_takeDeferred hS1.at, ?_⟩⟩
    have hS := hS1.putObj (.deferred none)
    clear hS1
    refine ⟨_, results_cellv rfl _ _ br _ .nilIface (0, 0) rfl (hS.split (by ((repeat (first | with_reducible exact Split.here | with_reducible apply Split.there)); done))).at (by (intro _; (simp; done))), ?_⟩
    rw [Hq0.out]
    refine ⟨rfl, ?_⟩
    dsimp only
    rw [if_pos rfl]
    exact hS.ent (by (repeat (first | (with_reducible exact Ent.refl _) | ((with_reducible apply Ent.pull); (focus ((repeat (first | with_reducible exact Split.here | with_reducible apply Split.there)); done))) | (with_reducible apply Ent.skip))))
  case stop =>
    clear hS
    intro D c W hS
    obtain ⟨⟨rfl, hq6⟩, hS1⟩ := Sat.pu.1 (hS.pick 1)
    have hS2 := Sat.emp.1 hS1
    clear hS hS1
    have hS := hS2
    clear hS2
    refine Go.wpIn_ret ?_
    have hS1 := hS
    clear hS
    refine ⟨by simp, .inl ⟨_, _, rfl, run_takeDeferred hS1.at, ?_⟩⟩
    have hS := hS1.putObj (.deferred none)
    clear hS1
    obtain ⟨qe, qd⟩ := q
    dsimp only at hq6 hS
    subst hq6
    have Hq0 := Lib.hid hq.symm
    clear hq
    refine ⟨_, results_cellv rfl _ _ br _ (.iface 182 (.pointer (some (E 6)))) (0, 0) rfl (hS.split (by ((repeat (first | with_reducible exact Split.here | with_reducible apply Split.there)); done))).at (by (intro _; (simp; done))), ?_⟩
    refine ⟨rfl, ?_⟩
    dsimp only
    rw [if_neg (by decide)]
    exact hS.ent (by (repeat (first | (with_reducible exact Ent.refl _) | ((with_reducible apply Ent.pull); (focus ((repeat (first | with_reducible exact Split.here | with_reducible apply Split.there)); done))) | (with_reducible apply Ent.skip))))
end
end Go.Proofs.YtndnojbpapjdoaaDoor
