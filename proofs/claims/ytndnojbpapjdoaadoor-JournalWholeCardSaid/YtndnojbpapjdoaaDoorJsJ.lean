/- The law JournalWhole walked. -/
import Derived.Test.YtndnojbpapjdoaaDoorJsG
import Derived.Test.YtndnojbpapjdoaaDoorOp7
set_option linter.unusedSimpArgs false
set_option linter.unusedVariables false
set_option linter.unusedSectionVars false
namespace Go.Proofs.YtndnojbpapjdoaaDoor
open Go.Sp Go.RowKit Go.Fld Go.Sha Go.Dr Go.Jr

theorem u8wrapW (z : Int) : ∃ u : UInt8, IntKind.u8.wrap z = (u.toNat : Int) := by
  obtain ⟨k, hk, hlt⟩ : ∃ k : Nat, IntKind.u8.wrap z = (k : Int) ∧ k < 256 := by
    refine ⟨(z % 256).toNat, ?_, ?_⟩
    · show z % 256 = _
      omega
    · omega
  refine ⟨UInt8.ofNat k, ?_⟩
  rw [hk, UInt8.toNat_ofNat']
  omega
/-- What is kept from call to call: the journal lives, or it is dead and its drum rests. -/
def WhRel (w0 : World) (db : Nat) (L : List Asn) (k : Nat) (vj vn vx : Value) (wr : World) : Prop :=
  ∃ (e bj : Nat) (j : Jr.J) (d : Dr.Drum) (now nxt : List (List UInt8)) (na xa : Option Addr) (nc xc : Nat),
    vj = .pointer (some ⟨bj, 0, none⟩) ∧ vn = .slice na now.length nc ∧ vx = .slice xa nxt.length xc ∧ d.n = 60 ∧ d.left ≤ 15 ∧ nxt.length ≤ 5000 ∧ Jr.Rest d now e (1 + k) ∧
    (j.dead = true ∨ (Live j d (1 + k) ∧ j.records = now ∧ j.head.epoch = e)) ∧ Sat w0 wr (RoL w0 (.slice na now.length nc) now :: RoL w0 (.slice xa nxt.length xc) nxt :: isJ w0 bj db j :: isDrum db d :: L)
section
variable (E : Nat → Addr) (w0 w : World) (L : List Asn)
set_option maxRecDepth 100000 in
set_option maxHeartbeats 16000000 in
theorem whole_law (hT : Table w0) (hEr : Errs E w0) (v : Value) (ops : List JOp) (hr : JScript w0 v ops) (hlen : ∀ o ∈ ops, o.bytes.length ≤ 140737488355328) (hS : Sat w0 w L) :
    Calls Tryd.prog 11 #[v] w fun r w' => r = .returned (.bool true) ∧ Sat w0 w' L := by
  have hE := hEr.jr
  have hg6 := hE.dr.power
  have hg8 := hE.full
  obtain ⟨a, c, rfl, hl1, hl2, hops⟩ := hr
  have Hops := Lib.hid hops
  have Hlen := Lib.hid hlen
  clear hops hlen hl1 hl2
  have Hal : Hid (∀ (w : World) (L : List Asn), Sat w0 w L → Calls Tryd.prog 36 #[] w fun r w' => r = .returned (.bool true) ∧ Sat w0 w' L) := Lib.hid fun w L h => alive_ok E w0 w L hT hE h
  have Hnew : Hid (∀ (w : World) (L : List Asn), Sat w0 w L → Calls Tryd.prog 37 #[.int .i64 60] w fun r w' => ∃ b, r = .returned (.tuple #[.pointer (some ⟨b, 0, none⟩), .nilIface]) ∧ Sat w0 w' (isDrum b (Drum.new 60) :: L)) := Lib.hid fun w L h => new_ok 60 (by decide) (by decide) w0 w L h
  obtain ⟨j1, d1, hq1, f1, hn1, hr1, hu1, he1, -⟩ := format_fit (n := 60) (l := [48]) (by omega) (by omega) (by decide) (by decide)
  have Hfm : Hid (∀ (db : Nat) (w : World) (L : List Asn) (bv : Value), Sat w0 w (isDrum db (Drum.new 60) :: L) → Under w0 L bv [48] → Calls Tryd.prog 39 #[.pointer (some ⟨db, 0, none⟩), bv] w fun r w' => ∃ b, r = .returned (.tuple #[.pointer (some ⟨b, 0, none⟩), .nilIface]) ∧ Sat w0 w' (isJ w0 b db j1 :: isDrum db d1 :: L)) := Lib.hid fun db w L bv h hr => format_good E db _ d1 j1 w0 w L bv [48] hq1 (by decide) (new_fresh (by decide)) (by decide) hT hE h hr
  have Hx1 := Lib.hid (And.intro f1 (And.intro hn1 (And.intro hr1 he1)))
  clear hq1 f1 hn1 hr1 hu1 he1
  go_enter Tryd.func11, Tryd.ntmps11
  go_upto_block 0 with (first | (go_at_call 36; ((with_reducible refine' (Hal.out _ _ hS).mono ?sa1x41); (case' sa1x41 => (rintro r4 w4 ⟨rfl, hS1⟩; (clear hS; have hS := hS1; clear hS1))))) | (go_at_call 37; ((with_reducible refine' (Hnew.out _ _ hS).mono ?snx42); (case' snx42 => (rintro r4 w4 ⟨db, rfl, hS1⟩; (clear hS; have hS := hS1; clear hS1))))) | (go_at_call 39; ((with_reducible refine' (Hfm.out _ _ _ _ (hS.split ?sd1x43) (under_own ?sd2x43)).mono ?sd3x43); (case sd1x43 => ((repeat (first | with_reducible exact Split.here | with_reducible apply Split.there)); done)); (case sd2x43 => ((repeat (with_reducible exact Split.here)); done)); (case' sd3x43 => (rintro r4 w4 ⟨b, rfl, hS1⟩; (clear hS; have hS := hS1; clear hS1))))) | ((first | ((with_reducible refine wpList_plain ?_ ?_); (focus rfl); intro K hK) | ((with_reducible refine wpList_runG ?_ ?_); (focus rfl); intro K hK)); (with_reducible refine' wp_slice_lit (t := 22) (cs := (([48] : List UInt8).map B).toArray) hS ?_ ?_ ?_ ?_ ?_ ?_ ?_ ?_); rotate_left 4; (focus (intro _; (simp; rfl))); (focus (intro _; (simp; rfl))); (focus (intro _; (simp; rfl))); (focus decide); (focus decide); (focus rfl); (focus kernel_rfl); intro w' b'; clear hS; intro hS; (refine hK _ _ ?_; clear hK K)) | ((first | ((with_reducible refine wpList_plain ?_ ?_); (focus rfl); intro K hK) | ((with_reducible refine wpList_runG ?_ ?_); (focus rfl); intro K hK)); (with_reducible refine' wp_lit_conv (l := [48]) hS ?_ ?_ ?_ ?_ ?_ ?_ ?_); rotate_left 5; (focus rfl); (focus ((repeat (with_reducible exact Split.here)); done)); (focus rfl); (focus ((simp; rfl))); (focus ((simp; done))); (focus decide); intro w'; clear hS; intro hS; (refine hK _ _ ?_; clear hK K)) | ((first | ((with_reducible refine wpList_plain ?_ ?_); (focus rfl); intro K hK) | ((with_reducible refine wpList_runG ?_ ?_); (focus rfl); intro K hK)); ((with_reducible refine' wp_lit1 hS ?_ ?_ ?_ ?_ ?_ ?_); rotate_left 3; (focus (intro _; (simp; rfl))); (focus (intro _; (simp; done))); (focus (intro _; (simp; rfl))); (focus (conv => lhs; whnf)); (focus rfl); intro w' b'; clear hS; intro hS; (refine hK _ _ ?_; clear hK K))))
  clear Hal Hnew Hfm
  have hS1 : Sat w0 w' (Recs w0 (.slice (some ⟨b', 0, none⟩) 1 1) [[48]] :: isJ w0 b db j1 :: isDrum db d1 :: L) := (recs_one ((hS.pick 1).ro.ent (Ent.pick 1 _))).ent (by (repeat (first | (with_reducible exact Ent.refl _) | ((with_reducible apply Ent.pull); (focus ((repeat (with_reducible exact Split.here)); done))) | (with_reducible apply Ent.skip))))
  clear hS
  have hS := hS1.rol.dup (pers_rol _ _ _)
  clear hS1
  go_wp2_with (fail)
  go_loopw [50, 5, 6, 7] (fun i vj vn vx wr => ∃ k, k ≤ ops.length ∧ i = .int .i64 k ∧ WhRel w0 db L k vj vn vx wr) (fun i _ _ _ _ => ops.length - (intOf i).toNat)
  case atStart =>
    obtain ⟨f1, hn1, hr1, he1⟩ := Hx1.out
    refine ⟨0, by omega, rfl, 1, b, j1, d1, [[48]], [[48]], some ⟨b', 0, none⟩, some ⟨b', 0, none⟩, 1, 1, rfl, rfl, rfl, hn1, Nat.le_trans f1.left (by decide), by decide, by have h9 := f1.live.rest; rw [hr1, he1] at h9; exact h9, .inr ⟨f1.live, hr1, he1⟩, ?_⟩
    show Sat w0 _ (RoL w0 (.slice (some ⟨b', 0, none⟩) 1 1) [[48]] :: RoL w0 (.slice (some ⟨b', 0, none⟩) 1 1) [[48]] :: _ :: _ :: _)
    exact hS.ent (by (repeat ((with_reducible exact Ent.refl _))))
  case round =>
    clear hS Hx1
    obtain ⟨k, hk, rfl, hrel⟩ := hrel
    by_cases hlt : k < ops.length
    case neg =>
      obtain rfl : k = ops.length := by omega
      obtain ⟨e, bj, j, d, now, nxt, na, xa, nc, xc, rfl, rfl, rfl, hdn, hdl, hnl, hrs, hst, hS⟩ := hrel
      clear hdn hdl hnl hrs hst
      go_wp2_with (fail)
      go_ret
      exact ⟨rfl, by (refine Sat.ent hS ?_; repeat (first | (with_reducible exact Ent.refl _) | (with_reducible apply Ent.skip)))⟩
    obtain ⟨⟨kd, bs, num, at_, m0, m1, m2, m3⟩, ho⟩ : ∃ o, ops[k]? = some o := ⟨ops[k], List.getElem?_eq_getElem hlt⟩
    have hbl : bs.length ≤ 140737488355328 := Hlen.out _ (List.mem_of_getElem? ho)
    obtain ⟨ad, bv, rfl, hat⟩ := Hops.out k _ ho
    have hrd : Reads w0 bv bs := hat.reads
    have hcs := hat.cells
    obtain ⟨ba, bc, rfl, hbc⟩ := id hrd
    dsimp only [JOp.cells] at hcs
    clear hat ho
    have hlt' : (k : Int) < (ops.length : Int) := by omega
    by_cases h150 : k ≤ 150
    case neg =>
      have h150' : (150 : Int) < (k : Int) := by omega
      obtain ⟨e, bj, j, d, now, nxt, na, xa, nc, xc, rfl, rfl, rfl, hdn, hdl, hnl, hrs, hst, hS⟩ := hrel
      clear hdn hdl hnl hrs hst h150
      go_wp2_with (((((with_reducible refine wpList_plain ?_ ?_); (focus rfl); intro K hK)); first | ((with_reducible refine' wp_index_any ?_ ?_ ?_ ?_ ?_ ?_ ?_ ?_); rotate_left 8; (focus rfl); (focus rfl); (focus (intro _; (simp; rfl))); (focus (intro _; (simp; rfl))); (focus (omega)); (focus (omega)); (focus (((simp only [Int.toNat_natCast, Int.reduceToNat, Nat.mul_one, Nat.zero_add, Nat.add_zero, Nat.reduceMul, Nat.reduceAdd]); rfl))); (refine hK _ _ ?_; clear hK K)) | ((with_reducible refine' wp_storeN hS ?_ ?_ ?_ ?_ ?_ ?_ ?_ ?_); rotate_left 7; (focus rfl); (focus ((repeat (with_reducible exact Split.here)); done)); (focus (conv => lhs; whnf)); (focus (intro _; (simp; rfl))); (focus rfl); (focus (simp [Value.cells, Value.oneCell']; done)); (focus (simp; done)); intro w'; clear hS; intro hS; (try simp only [setCells, Value.cells, List.take_succ_cons, List.take_zero, List.drop_succ_cons, List.drop_zero, List.append_nil, List.nil_append, List.cons_append, List.length_cons, List.length_nil, Nat.zero_add, Nat.reduceAdd, List.drop_nil] at hS); (refine hK _ _ ?_; clear hK K)) | ((with_reducible refine' wp_alloc hS ?_ ?_); rotate_left 1; (focus (intro _; (simp; rfl))); intro w' b'; clear hS; intro hS; (try simp only [Value.cells] at hS); (refine hK _ _ ?_; clear hK K)) | ((with_reducible refine' wp_loadN_old hS ?_ ?_ ?_ ?_ ?_ ?_); rotate_left 3; (focus rfl); (focus (with_reducible assumption)); (focus (intro _; (simp; done))); (focus (intro _; (simp; rfl))); (focus rfl); (refine hK _ _ ?_; clear hK K))))
      go_ret
      exact ⟨rfl, by (refine Sat.ent hS ?_; repeat (first | (with_reducible exact Ent.refl _) | (with_reducible apply Ent.skip)))⟩
    have h150' : (k : Int) ≤ 150 := by omega
    have hkS := Lib.hid h150
    clear h150
    obtain ⟨e, bj, j, d, now, nxt, na, xa, nc, xc, rfl, rfl, rfl, hdn, hdl, hnl, hrs, hst, hS⟩ := hrel
    have Hst := Lib.hid (And.intro hdn (And.intro hdl (And.intro hnl (And.intro hrs hst))))
    clear hdn hdl hnl hrs hst
    obtain ⟨u, hu⟩ := u8wrapW (k : Int)
    have Hb1 := Lib.hid hu
    clear hu
    obtain ⟨q, hq⟩ : ∃ q, q = min bs.length 400 := ⟨_, rfl⟩
    have hq1 : (min (bs.length : Int) 400) = (q : Int) := by omega
    have hq2 : q ≤ bs.length := by omega
    have hq3 : q ≤ 400 := by omega
    clear hq
    go_upto_block 1 with (fail)
    go_cut [5, 6, 7] (fun vj vn vx wc => WhRel w0 db L (k + 1) vj vn vx wc)
    case first =>
      go_upto_region 16 with (first | ((((with_reducible refine wpList_plain ?_ ?_); (focus rfl); intro K hK)); (with_reducible refine' wp_bytes_lit [u] hS ?_ ?_ ?_ ?_ ?_ ?_ ?_ ?_ ?_); rotate_left 3; (focus (intro _; (simp; rfl))); (focus (intro _; (simp; done))); (focus (intro _; (simp; rfl))); (focus rfl); (focus decide); (focus decide); (focus rfl); (focus kernel_rfl); intro w' b'; clear hS; intro hS; (refine hK _ _ ?_; clear hK K)) | ((((with_reducible refine wpList_plain ?_ ?_); (focus rfl); intro K hK)); (with_reducible refine' wp_append_bytes sl22 hS ?_ ?_ ?_ ?_ ?_ ?_ ?_); rotate_left 8; (focus (conv => lhs; whnf)); (focus ((repeat (with_reducible exact Split.here)); done)); (focus rfl); (focus ((exact Reads.take (Reads.base hrd hS) hq2))); (focus ((simp; rfl))); (focus ((simp; omega))); intro w' a' c' hcap; clear hS; intro hS; (try simp only [List.nil_append, List.append_assoc] at hS hcap ⊢); (try simp only [List.length_append] at hcap); (refine hK _ _ ?_; clear hK K)) | ((((with_reducible refine wpList_plain ?_ ?_); (focus rfl); intro K hK)); first | ((with_reducible refine' wp_index_any ?_ ?_ ?_ ?_ ?_ ?_ ?_ ?_); rotate_left 8; (focus rfl); (focus rfl); (focus (intro _; (simp; rfl))); (focus (intro _; (simp; rfl))); (focus (omega)); (focus (omega)); (focus (((simp only [Int.toNat_natCast, Int.reduceToNat, Nat.mul_one, Nat.zero_add, Nat.add_zero, Nat.reduceMul, Nat.reduceAdd]); rfl))); (refine hK _ _ ?_; clear hK K)) | ((with_reducible refine' wp_conv ?_ ?_ ?_ ?_ ?_); rotate_left 5; (focus (conv => lhs; whnf)); (focus (intro _; (simp; rfl))); (focus (intro _; (simp; rfl))); (focus (exact Hb1.out)); (refine hK _ _ ?_; clear hK K)) | ((with_reducible refine' wp_load hS ?_ ?_ ?_ ?_ ?_); rotate_left 7; (focus rfl); (focus ((repeat (first | with_reducible exact Split.here | with_reducible apply Split.there)); done)); (focus (((simp only [List.getElem?_toArray, List.getElem?_cons_zero, List.getElem?_cons_succ]); rfl))); (focus (intro _; (simp; done))); (refine hK _ _ ?_; clear hK K)) | ((with_reducible refine' wp_storeN hS ?_ ?_ ?_ ?_ ?_ ?_ ?_ ?_); rotate_left 7; (focus rfl); (focus ((repeat (with_reducible exact Split.here)); done)); (focus (conv => lhs; whnf)); (focus (intro _; (simp; rfl))); (focus rfl); (focus (simp [Value.cells, Value.oneCell']; done)); (focus (simp; done)); intro w'; clear hS; intro hS; (try simp only [setCells, Value.cells, List.take_succ_cons, List.take_zero, List.drop_succ_cons, List.drop_zero, List.append_nil, List.nil_append, List.cons_append, List.length_cons, List.length_nil, Nat.zero_add, Nat.reduceAdd, List.drop_nil] at hS); (refine hK _ _ ?_; clear hK K)) | ((with_reducible refine' wp_alloc hS ?_ ?_); rotate_left 1; (focus (intro _; (simp; rfl))); intro w' b'; clear hS; intro hS; (try simp only [Value.cells] at hS); (refine hK _ _ ?_; clear hK K)) | ((with_reducible refine' wp_loadN_old hS ?_ ?_ ?_ ?_ ?_ ?_); rotate_left 3; (focus rfl); (focus (with_reducible assumption)); (focus (intro _; (simp; done))); (focus (intro _; (simp; rfl))); (focus rfl); (refine hK _ _ ?_; clear hK K))))
      have hS1 := hS.ro
      clear hS
      obtain ⟨lb, hlb⟩ : ∃ lb, lb = [u] ++ bs.take q := ⟨_, rfl⟩
      have hlbl : lb.length = q + 1 := by rw [hlb, List.length_append, List.length_take]; simp; omega
      rw [← hlb, hlbl] at hS1
      have hS := hS1
      clear hS1 hcap
      obtain ⟨bO, hbO, hS⟩ := name1 hS
      subst hbO
      have hlbS := Lib.hid hlbl
      clear hlb hlbl
      obtain ⟨hdn, hdl, hnl, hrs, hst⟩ := Hst.out
      have hok := hrs.ok
      have hnow : now.length ≤ 4096 := hok.2.2.1
      have hq3' : (q : Int) ≤ 400 := by omega
      have hlb2 : lb.length ≤ 2000 := by rw [hlbS.out]; omega
      by_cases h3 : kd = 3
      case pos =>
        subst h3
        rcases hst with hdead | ⟨hlive, hrec, hep⟩
        · have Hdd2 := Lib.hid hdead
          have Hdd : Hid (∀ (w : World) (L : List Asn), Sat w0 w (isJ w0 bj db j :: L) → Calls Tryd.prog 47 #[.pointer (some ⟨bj, 0, none⟩)] w fun r w' => r = .returned (.bool true) ∧ Sat w0 w' (isJ w0 bj db j :: L)) := Lib.hid fun w L h => by
            have := dead_any bj db j w0 w L h
            rw [hdead] at this
            exact this
          clear hdead
          go_wp2_with (first | (go_at_call 47; ((with_reducible refine' (Hdd.out _ _ (hS.split ?sf1x141)).mono ?sf3x141); (case sf1x141 => ((repeat (first | with_reducible exact Split.here | with_reducible apply Split.there)); done)); (case' sf3x141 => (rintro r4 w4 ⟨rfl, hS1⟩; (clear hS; have hS := hS1; clear hS1))))) | ((((with_reducible refine wpList_plain ?_ ?_); (focus rfl); intro K hK)); ((with_reducible refine' wp_load hS ?_ ?_ ?_ ?_ ?_); rotate_left 7; (focus rfl); (focus ((repeat (first | with_reducible exact Split.here | with_reducible apply Split.there)); done)); (focus (((simp only [List.getElem?_toArray, List.getElem?_cons_zero, List.getElem?_cons_succ]); rfl))); (focus (intro _; (simp; done))); (refine hK _ _ ?_; clear hK K))))
          go_meet
          case rel => exact ⟨e, bj, j, d, now, nxt, na, xa, nc, xc, rfl, rfl, rfl, Hst.out.1, Hst.out.2.1, Hst.out.2.2.1, Hst.out.2.2.2.1.mono (by omega), .inl Hdd2.out, by (refine Sat.ent hS ?_; repeat (first | (with_reducible exact Ent.refl _) | ((with_reducible apply Ent.pull); (focus ((repeat (first | with_reducible exact Split.here | with_reducible apply Split.there)); done))) | (with_reducible apply Ent.skip)))⟩
        obtain ⟨e', j', d', hqq, hkp, hcs3⟩ := hlive.appendE (l := lb) (by omega) hlb2
        rw [show 1 + k + 1 = 1 + (k + 1) by omega, hrec, hep] at hcs3
        have Hap : Hid (∀ (w : World) (L : List Asn) (bv : Value), Sat w0 w (isJ w0 bj db j :: isDrum db d :: L) → Under w0 L bv lb → Calls Tryd.prog 40 #[.pointer (some ⟨bj, 0, none⟩), bv] w fun r w' => r = .returned (erv E e') ∧ Sat w0 w' (isJ w0 bj db j' :: isDrum db d' :: L)) := Lib.hid fun w L bv h hr => append_to E bj db d d' j j' w0 w L e' bv lb hqq (by omega) hok.1 (Nat.le_trans hdl (by decide)) hok.2.1 (live_jok hlive (by have := hkS.out; omega)) hT hE h hr
        have Hdd : Hid (∀ (w : World) (L : List Asn), Sat w0 w (isJ w0 bj db j :: L) → Calls Tryd.prog 47 #[.pointer (some ⟨bj, 0, none⟩)] w fun r w' => r = .returned (.bool false) ∧ Sat w0 w' (isJ w0 bj db j :: L)) := Lib.hid fun w L h => by
          have := dead_any bj db j w0 w L h
          rw [hlive.dead] at this
          exact this
        obtain ⟨vs, hvs, hone, hS1⟩ := rol_open (hS.pick 2)
        have hS : Sat w0 _ (RoV w0 na vs :: RoAll w0 (vs.zip now) :: Blk bO (.cells #[.int .i64 3, .slice ba bs.length bc, .int .i64 num, .int .i64 at_, .int .i64 m0, .int .i64 m1, .int .i64 m2, .int .i64 m3] 81) :: Ro w0 (.slice a' (q + 1) c') lb :: RoL w0 (.slice na now.length nc) now :: RoL w0 (.slice xa nxt.length xc) nxt :: isJ w0 bj db j :: isDrum db d :: L) := hS1.ent (by (repeat (first | (with_reducible exact Ent.refl _) | ((with_reducible apply Ent.pull); (focus ((repeat (first | with_reducible exact Split.here | with_reducible apply Split.there)); done))))))
        clear hS1
        have hdl' := Nat.le_trans hkp.left hdl
        have hdn' := hkp.n.trans hdn
        have Hx := Lib.hid (And.intro hdl' (And.intro hdn' (And.intro hnl hdl)))
        have Hone := Lib.hid hone
        have Hvs := Lib.hid hvs
        have hnowS := Lib.hid hnow
        clear hdn hdl hnl hrs hlive hrec hep hok hqq hkp hdl' hdn' hone hvs
        rcases hcs3 with ⟨rfl, hr1, hrr, hee, hl1⟩ | ⟨rfl, hdd, hr1⟩ | ⟨rfl, rfl, rfl, _⟩
        · have Hy := Lib.hid (And.intro hr1 (And.intro hrr (And.intro hee hl1)))
          clear hr1 hrr hee hl1
          dsimp only [erv] at Hap
          go_wp2_with (first | (go_at_call 47; ((with_reducible refine' (Hdd.out _ _ (hS.split ?sf1x167)).mono ?sf3x167); (case sf1x167 => ((repeat (first | with_reducible exact Split.here | with_reducible apply Split.there)); done)); (case' sf3x167 => (rintro r4 w4 ⟨rfl, hS1⟩; (clear hS; have hS := hS1; clear hS1))))) | (go_at_call 40; ((with_reducible refine' (Hap.out _ _ _ (hS.ent ?sa1x168) (under_ro ?sa2x168)).mono ?sa3x168); (case sa1x168 => (repeat (first | (with_reducible exact Ent.refl _) | ((with_reducible apply Ent.pull); (focus ((repeat (first | with_reducible exact Split.here | with_reducible apply Split.there)); done)))))); (case sa2x168 => ((repeat (first | with_reducible exact Split.here | with_reducible apply Split.there)); done)); (case' sa3x168 => (rintro r4 w4 ⟨rfl, hS1⟩; (clear hS; have hS := hS1; clear hS1))))) | ((((with_reducible refine wpList_plain ?_ ?_); (focus rfl); intro K hK)); (with_reducible refine' wp_lit_row (t := 60) (e' := 22) hS ?_ ?_ ?_); rotate_left 2; (focus (intro _; (simp; rfl))); (focus (intro _; (simp; rfl))); intro w' b'; clear hS; intro hS; (refine hK _ _ ?_; clear hK K)) | ((((with_reducible refine wpList_plain ?_ ?_); (focus rfl); intro K hK)); first | ((with_reducible refine' wp_append_row (m := now.length) (news := vs) slRec (hS.split ?raax170) ?rbax170 ?rcax170 ?rdax170 ?reax170 ?rfax170 ?rgax170); (case raax170 => ((repeat (with_reducible exact Split.here)); done)); (case rbax170 => rfl); (case rcax170 => rfl); (case rdax170 => (exact srcRoV hS (by ((repeat (first | with_reducible exact Split.here | with_reducible apply Split.there)); done)) Hvs.out Hone.out)); (case reax170 => (unfold maxLen; omega)); (case rfax170 => omega); (case' rgax170 => (intro v' w'; clear hS; intro hS; simp only [Nat.zero_add, List.nil_append] at hS; obtain ⟨ra, rc, rfl, -⟩ := hS.row_len; (refine hK _ _ ?_; clear hK K)))) | ((with_reducible refine' wp_append_row (m := 1) (news := [.slice a' (q + 1) c']) slRec (hS.split ?rabx170) ?rbbx170 ?rcbx170 ?rdbx170 ?rebx170 ?rfbx170 ?rgbx170); (case rabx170 => ((repeat (first | with_reducible exact Split.here | with_reducible apply Split.there)); done)); (case rbbx170 => rfl); (case rcbx170 => rfl); (case rdbx170 => (exact srcOne hS (by ((repeat (with_reducible exact Split.here)); done)) rfl)); (case rebx170 => (unfold maxLen; omega)); (case rfbx170 => omega); (case' rgbx170 => (intro v' w'; clear hS; intro hS; obtain ⟨ra, rc, rfl, -⟩ := hS.row_len; (refine hK _ _ ?_; clear hK K)))) | ((with_reducible refine' wp_load hS ?_ ?_ ?_ ?_ ?_); rotate_left 7; (focus rfl); (focus ((repeat (first | with_reducible exact Split.here | with_reducible apply Split.there)); done)); (focus (((simp only [List.getElem?_toArray, List.getElem?_cons_zero, List.getElem?_cons_succ]); rfl))); (focus (intro _; (simp; done))); (refine hK _ _ ?_; clear hK K)) | ((with_reducible refine' wp_lit1 hS ?_ ?_ ?_ ?_ ?_ ?_); rotate_left 3; (focus (intro _; (simp; rfl))); (focus (intro _; (simp; done))); (focus (intro _; (simp; rfl))); (focus (conv => lhs; whnf)); (focus rfl); intro w' b'; clear hS; intro hS; (refine hK _ _ ?_; clear hK K))))
          go_meet
          case rel =>
            obtain ⟨hr1, hrr, hee, hl1⟩ := Hy.out
            have h1 := recs_snoc Hvs.out (hS.ent (show Ent _ (Row 22 1 (.slice ra (now.length + 1) rc) (now.length + 1) (vs ++ [.slice a' (q + 1) c']) :: RoAll w0 (vs.zip now) :: Ro w0 (.slice a' (q + 1) c') lb :: isJ w0 bj db j' :: isDrum db d' :: L) by (repeat (first | (with_reducible exact Ent.refl _) | ((with_reducible apply Ent.pull); (focus ((repeat (first | with_reducible exact Split.here | with_reducible apply Split.there)); done))) | (with_reducible apply Ent.skip)))))
            have h2 := h1.rol.dup (pers_rol _ _ _)
            refine ⟨e, bj, j', d', now ++ [lb], now ++ [lb], ra, ra, rc, rc, rfl, by rw [List.length_append]; rfl, by rw [List.length_append]; rfl, Hx.out.2.1, Hx.out.1, by rw [List.length_append]; simp; have := hnowS.out; omega, hr1, .inr ⟨hl1, hrr, hee⟩, ?_⟩
            rw [List.length_append]
            exact h2
        · have Hy := Lib.hid (And.intro hr1 hdd)
          clear hr1 hdd
          dsimp only [erv] at Hap
          go_wp2_with (first | (go_at_call 47; ((with_reducible refine' (Hdd.out _ _ (hS.split ?sf1x183)).mono ?sf3x183); (case sf1x183 => ((repeat (first | with_reducible exact Split.here | with_reducible apply Split.there)); done)); (case' sf3x183 => (rintro r4 w4 ⟨rfl, hS1⟩; (clear hS; have hS := hS1; clear hS1))))) | (go_at_call 40; ((with_reducible refine' (Hap.out _ _ _ (hS.ent ?sa1x184) (under_ro ?sa2x184)).mono ?sa3x184); (case sa1x184 => (repeat (first | (with_reducible exact Ent.refl _) | ((with_reducible apply Ent.pull); (focus ((repeat (first | with_reducible exact Split.here | with_reducible apply Split.there)); done)))))); (case sa2x184 => ((repeat (first | with_reducible exact Split.here | with_reducible apply Split.there)); done)); (case' sa3x184 => (rintro r4 w4 ⟨rfl, hS1⟩; (clear hS; have hS := hS1; clear hS1))))) | ((((with_reducible refine wpList_plain ?_ ?_); (focus rfl); intro K hK)); (with_reducible refine' wp_lit_row (t := 60) (e' := 22) hS ?_ ?_ ?_); rotate_left 2; (focus (intro _; (simp; rfl))); (focus (intro _; (simp; rfl))); intro w' b'; clear hS; intro hS; (refine hK _ _ ?_; clear hK K)) | ((((with_reducible refine wpList_plain ?_ ?_); (focus rfl); intro K hK)); first | ((with_reducible refine' wp_err_eq (E := E) ?_ ?_ ?_); rotate_left 1; (focus rfl); (focus rfl); (refine hK _ _ ?_; clear hK K)) | ((with_reducible refine' wp_append_row (m := now.length) (news := vs) slRec (hS.split ?raax186) ?rbax186 ?rcax186 ?rdax186 ?reax186 ?rfax186 ?rgax186); (case raax186 => ((repeat (with_reducible exact Split.here)); done)); (case rbax186 => rfl); (case rcax186 => rfl); (case rdax186 => (exact srcRoV hS (by ((repeat (first | with_reducible exact Split.here | with_reducible apply Split.there)); done)) Hvs.out Hone.out)); (case reax186 => (unfold maxLen; omega)); (case rfax186 => omega); (case' rgax186 => (intro v' w'; clear hS; intro hS; simp only [Nat.zero_add, List.nil_append] at hS; obtain ⟨ra, rc, rfl, -⟩ := hS.row_len; (refine hK _ _ ?_; clear hK K)))) | ((with_reducible refine' wp_append_row (m := 1) (news := [.slice a' (q + 1) c']) slRec (hS.split ?rabx186) ?rbbx186 ?rcbx186 ?rdbx186 ?rebx186 ?rfbx186 ?rgbx186); (case rabx186 => ((repeat (first | with_reducible exact Split.here | with_reducible apply Split.there)); done)); (case rbbx186 => rfl); (case rcbx186 => rfl); (case rdbx186 => (exact srcOne hS (by ((repeat (with_reducible exact Split.here)); done)) rfl)); (case rebx186 => (unfold maxLen; omega)); (case rfbx186 => omega); (case' rgbx186 => (intro v' w'; clear hS; intro hS; obtain ⟨ra, rc, rfl, -⟩ := hS.row_len; (refine hK _ _ ?_; clear hK K)))) | ((with_reducible refine' wp_load hS ?_ ?_ ?_ ?_ ?_); rotate_left 7; (focus rfl); (focus ((repeat (first | with_reducible exact Split.here | with_reducible apply Split.there)); done)); (focus (((simp only [List.getElem?_toArray, List.getElem?_cons_zero, List.getElem?_cons_succ]); rfl))); (focus (intro _; (simp; done))); (refine hK _ _ ?_; clear hK K)) | ((with_reducible refine' wp_load_old hS ?_ ?_ ?_ ?_); rotate_left 2; (focus rfl); (focus (with_reducible assumption)); (focus (intro _; (simp; done))); (refine hK _ _ ?_; clear hK K)) | ((with_reducible refine' wp_lit1 hS ?_ ?_ ?_ ?_ ?_ ?_); rotate_left 3; (focus (intro _; (simp; rfl))); (focus (intro _; (simp; done))); (focus (intro _; (simp; rfl))); (focus (conv => lhs; whnf)); (focus rfl); intro w' b'; clear hS; intro hS; (refine hK _ _ ?_; clear hK K))))
          go_meet
          case rel =>
            obtain ⟨hr1, hdd⟩ := Hy.out
            have h1 := recs_snoc Hvs.out (hS.ent (show Ent _ (Row 22 1 (.slice ra (now.length + 1) rc) (now.length + 1) (vs ++ [.slice a' (q + 1) c']) :: RoAll w0 (vs.zip now) :: Ro w0 (.slice a' (q + 1) c') lb :: RoL w0 (.slice na now.length nc) now :: isJ w0 bj db j' :: isDrum db d' :: L) by (repeat (first | (with_reducible exact Ent.refl _) | ((with_reducible apply Ent.pull); (focus ((repeat (first | with_reducible exact Split.here | with_reducible apply Split.there)); done))) | (with_reducible apply Ent.skip)))))
            refine ⟨e, bj, j', d', now, now ++ [lb], na, ra, nc, rc, rfl, rfl, by rw [List.length_append]; rfl, Hx.out.2.1, Hx.out.1, by rw [List.length_append]; simp; have := hnowS.out; omega, hr1, .inl hdd, ?_⟩
            rw [List.length_append]
            exact (h1.rol.pick 1)
        ·
          dsimp only [erv] at Hap
          go_wp2_with (first | (go_at_call 47; ((with_reducible refine' (Hdd.out _ _ (hS.split ?sf1x197)).mono ?sf3x197); (case sf1x197 => ((repeat (first | with_reducible exact Split.here | with_reducible apply Split.there)); done)); (case' sf3x197 => (rintro r4 w4 ⟨rfl, hS1⟩; (clear hS; have hS := hS1; clear hS1))))) | (go_at_call 40; ((with_reducible refine' (Hap.out _ _ _ (hS.ent ?sa1x198) (under_ro ?sa2x198)).mono ?sa3x198); (case sa1x198 => (repeat (first | (with_reducible exact Ent.refl _) | ((with_reducible apply Ent.pull); (focus ((repeat (first | with_reducible exact Split.here | with_reducible apply Split.there)); done)))))); (case sa2x198 => ((repeat (first | with_reducible exact Split.here | with_reducible apply Split.there)); done)); (case' sa3x198 => (rintro r4 w4 ⟨rfl, hS1⟩; (clear hS; have hS := hS1; clear hS1))))) | ((((with_reducible refine wpList_plain ?_ ?_); (focus rfl); intro K hK)); (with_reducible refine' wp_lit_row (t := 60) (e' := 22) hS ?_ ?_ ?_); rotate_left 2; (focus (intro _; (simp; rfl))); (focus (intro _; (simp; rfl))); intro w' b'; clear hS; intro hS; (refine hK _ _ ?_; clear hK K)) | ((((with_reducible refine wpList_plain ?_ ?_); (focus rfl); intro K hK)); first | ((with_reducible refine' wp_err_eq (E := E) ?_ ?_ ?_); rotate_left 1; (focus rfl); (focus rfl); (refine hK _ _ ?_; clear hK K)) | ((with_reducible refine' wp_err_eqo hEr hS ?_ ?_ ?_ ?_ ?_ ?_); rotate_left 2; (focus rfl); (focus rfl); (focus decide); (focus decide); (focus decide); (refine hK _ _ ?_; clear hK K)) | ((with_reducible refine' wp_append_row (m := now.length) (news := vs) slRec (hS.split ?raax200) ?rbax200 ?rcax200 ?rdax200 ?reax200 ?rfax200 ?rgax200); (case raax200 => ((repeat (with_reducible exact Split.here)); done)); (case rbax200 => rfl); (case rcax200 => rfl); (case rdax200 => (exact srcRoV hS (by ((repeat (first | with_reducible exact Split.here | with_reducible apply Split.there)); done)) Hvs.out Hone.out)); (case reax200 => (unfold maxLen; omega)); (case rfax200 => omega); (case' rgax200 => (intro v' w'; clear hS; intro hS; simp only [Nat.zero_add, List.nil_append] at hS; obtain ⟨ra, rc, rfl, -⟩ := hS.row_len; (refine hK _ _ ?_; clear hK K)))) | ((with_reducible refine' wp_append_row (m := 1) (news := [.slice a' (q + 1) c']) slRec (hS.split ?rabx200) ?rbbx200 ?rcbx200 ?rdbx200 ?rebx200 ?rfbx200 ?rgbx200); (case rabx200 => ((repeat (first | with_reducible exact Split.here | with_reducible apply Split.there)); done)); (case rbbx200 => rfl); (case rcbx200 => rfl); (case rdbx200 => (exact srcOne hS (by ((repeat (with_reducible exact Split.here)); done)) rfl)); (case rebx200 => (unfold maxLen; omega)); (case rfbx200 => omega); (case' rgbx200 => (intro v' w'; clear hS; intro hS; obtain ⟨ra, rc, rfl, -⟩ := hS.row_len; (refine hK _ _ ?_; clear hK K)))) | ((with_reducible refine' wp_load hS ?_ ?_ ?_ ?_ ?_); rotate_left 7; (focus rfl); (focus ((repeat (first | with_reducible exact Split.here | with_reducible apply Split.there)); done)); (focus (((simp only [List.getElem?_toArray, List.getElem?_cons_zero, List.getElem?_cons_succ]); rfl))); (focus (intro _; (simp; done))); (refine hK _ _ ?_; clear hK K)) | ((with_reducible refine' wp_load_old hS ?_ ?_ ?_ ?_); rotate_left 2; (focus rfl); (focus (with_reducible assumption)); (focus (intro _; (simp; done))); (refine hK _ _ ?_; clear hK K)) | ((with_reducible refine' wp_lit1 hS ?_ ?_ ?_ ?_ ?_ ?_); rotate_left 3; (focus (intro _; (simp; rfl))); (focus (intro _; (simp; done))); (focus (intro _; (simp; rfl))); (focus (conv => lhs; whnf)); (focus rfl); intro w' b'; clear hS; intro hS; (refine hK _ _ ?_; clear hK K))))
          go_meet
          case rel =>
            obtain ⟨hdn, hdl, hnl, hrs, hst⟩ := Hst.out
            exact ⟨e, bj, j', d', now, nxt, na, xa, nc, xc, rfl, rfl, rfl, hdn, hdl, hnl, hrs.mono (by omega), hst.imp id (fun h => ⟨h.1.mono (by omega), h.2⟩), by (refine Sat.ent hS ?_; repeat (first | (with_reducible exact Ent.refl _) | ((with_reducible apply Ent.pull); (focus ((repeat (first | with_reducible exact Split.here | with_reducible apply Split.there)); done))) | (with_reducible apply Ent.skip)))⟩
      case neg =>
        have h3' : ¬ (kd = 3) := h3
        by_cases h4 : kd = 4
        case pos =>
          subst h4
          clear h3 h3'
          rcases hst with hdead | ⟨hlive, hrec, hep⟩
          · have Hdd2 := Lib.hid hdead
            have Hdd : Hid (∀ (w : World) (L : List Asn), Sat w0 w (isJ w0 bj db j :: L) → Calls Tryd.prog 47 #[.pointer (some ⟨bj, 0, none⟩)] w fun r w' => r = .returned (.bool true) ∧ Sat w0 w' (isJ w0 bj db j :: L)) := Lib.hid fun w L h => by
              have := dead_any bj db j w0 w L h
              rw [hdead] at this
              exact this
            clear hdead
            go_wp2_with (first | (go_at_call 47; ((with_reducible refine' (Hdd.out _ _ (hS.split ?sf1x219)).mono ?sf3x219); (case sf1x219 => ((repeat (first | with_reducible exact Split.here | with_reducible apply Split.there)); done)); (case' sf3x219 => (rintro r4 w4 ⟨rfl, hS1⟩; (clear hS; have hS := hS1; clear hS1))))) | ((((with_reducible refine wpList_plain ?_ ?_); (focus rfl); intro K hK)); ((with_reducible refine' wp_load hS ?_ ?_ ?_ ?_ ?_); rotate_left 7; (focus rfl); (focus ((repeat (first | with_reducible exact Split.here | with_reducible apply Split.there)); done)); (focus (((simp only [List.getElem?_toArray, List.getElem?_cons_zero, List.getElem?_cons_succ]); rfl))); (focus (intro _; (simp; done))); (refine hK _ _ ?_; clear hK K))))
            go_meet
            case rel => exact ⟨e, bj, j, d, now, nxt, na, xa, nc, xc, rfl, rfl, rfl, Hst.out.1, Hst.out.2.1, Hst.out.2.2.1, Hst.out.2.2.2.1.mono (by omega), .inl Hdd2.out, by (refine Sat.ent hS ?_; repeat (first | (with_reducible exact Ent.refl _) | ((with_reducible apply Ent.pull); (focus ((repeat (first | with_reducible exact Split.here | with_reducible apply Split.there)); done))) | (with_reducible apply Ent.skip)))⟩
          obtain ⟨e', j', d', hqq, hkp, hcs3⟩ := hlive.compactE (l := lb) (by have := hkS.out; omega) hlb2 (by rw [hdn, hlbS.out]; unfold need half; omega)
          rw [show 1 + k + 1 = 1 + (k + 1) by omega, hrec, hep] at hcs3
          have Hap : Hid (∀ (w : World) (L : List Asn) (bv : Value), Sat w0 w (isJ w0 bj db j :: isDrum db d :: L) → Under w0 L bv lb → Calls Tryd.prog 48 #[.pointer (some ⟨bj, 0, none⟩), bv] w fun r w' => r = .returned (erv E e') ∧ Sat w0 w' (isJ w0 bj db j' :: isDrum db d' :: L)) := Lib.hid fun w L bv h hr => compact_to E bj db d d' j j' w0 w L e' bv lb hqq (by omega) hok.1 (Nat.le_trans hdl (by decide)) hok.2.1 (live_jok hlive (by have := hkS.out; omega)) hT hE h hr
          have Hdd : Hid (∀ (w : World) (L : List Asn), Sat w0 w (isJ w0 bj db j :: L) → Calls Tryd.prog 47 #[.pointer (some ⟨bj, 0, none⟩)] w fun r w' => r = .returned (.bool false) ∧ Sat w0 w' (isJ w0 bj db j :: L)) := Lib.hid fun w L h => by
            have := dead_any bj db j w0 w L h
            rw [hlive.dead] at this
            exact this
          have hdl' := Nat.le_trans hkp.left hdl
          have hdn' := hkp.n.trans hdn
          have Hx := Lib.hid (And.intro hdl' hdn')
          clear hdn hdl hnl hrs hlive hrec hep hok hqq hkp hdl' hdn'
          rcases hcs3 with ⟨rfl, hr1, hrr, hee, hl1⟩ | ⟨rfl, hdd, hr1⟩
          · have Hy := Lib.hid (And.intro hr1 (And.intro hrr (And.intro hee hl1)))
            clear hr1 hrr hee hl1
            dsimp only [erv] at Hap
            go_wp2_with (first | (go_at_call 47; ((with_reducible refine' (Hdd.out _ _ (hS.split ?sf1x239)).mono ?sf3x239); (case sf1x239 => ((repeat (first | with_reducible exact Split.here | with_reducible apply Split.there)); done)); (case' sf3x239 => (rintro r4 w4 ⟨rfl, hS1⟩; (clear hS; have hS := hS1; clear hS1))))) | (go_at_call 48; ((with_reducible refine' (Hap.out _ _ _ (hS.ent ?sa1x240) (under_ro ?sa2x240)).mono ?sa3x240); (case sa1x240 => (repeat (first | (with_reducible exact Ent.refl _) | ((with_reducible apply Ent.pull); (focus ((repeat (first | with_reducible exact Split.here | with_reducible apply Split.there)); done)))))); (case sa2x240 => ((repeat (with_reducible exact Split.here)); done)); (case' sa3x240 => (rintro r4 w4 ⟨rfl, hS1⟩; (clear hS; have hS := hS1; clear hS1))))) | ((((with_reducible refine wpList_plain ?_ ?_); (focus rfl); intro K hK)); first | ((with_reducible refine' wp_load hS ?_ ?_ ?_ ?_ ?_); rotate_left 7; (focus rfl); (focus ((repeat (first | with_reducible exact Split.here | with_reducible apply Split.there)); done)); (focus (((simp only [List.getElem?_toArray, List.getElem?_cons_zero, List.getElem?_cons_succ]); rfl))); (focus (intro _; (simp; done))); (refine hK _ _ ?_; clear hK K)) | ((with_reducible refine' wp_lit1 hS ?_ ?_ ?_ ?_ ?_ ?_); rotate_left 3; (focus (intro _; (simp; rfl))); (focus (intro _; (simp; done))); (focus (intro _; (simp; rfl))); (focus (conv => lhs; whnf)); (focus rfl); intro w' b'; clear hS; intro hS; (refine hK _ _ ?_; clear hK K))))
            go_meet
            case rel =>
              obtain ⟨hr1, hrr, hee, hl1⟩ := Hy.out
              have h1 := recs_one (hS.ent (show Ent _ (Blk b' (.cells #[.slice a' (q + 1) c'] 22) :: Ro w0 (.slice a' (q + 1) c') lb :: isJ w0 bj db j' :: isDrum db d' :: L) by (repeat (first | (with_reducible exact Ent.refl _) | ((with_reducible apply Ent.pull); (focus ((repeat (first | with_reducible exact Split.here | with_reducible apply Split.there)); done))) | (with_reducible apply Ent.skip)))))
              have h2 : Sat w0 _ (RoL w0 (.slice (some ⟨b', 0, none⟩) 1 1) [lb] :: RoL w0 (.slice (some ⟨b', 0, none⟩) 1 1) [lb] :: isJ w0 bj db j' :: isDrum db d' :: L) := h1.rol.dup (pers_rol _ _ _)
              exact ⟨e, bj, j', d', [lb], [lb], some ⟨b', 0, none⟩, some ⟨b', 0, none⟩, 1, 1, rfl, rfl, rfl, Hx.out.2, Hx.out.1, by simp, hr1, .inr ⟨hl1, hrr, hee⟩, h2⟩
          · have Hy := Lib.hid (And.intro hr1 hdd)
            clear hr1 hdd
            dsimp only [erv] at Hap
            go_wp2_with (first | (go_at_call 47; ((with_reducible refine' (Hdd.out _ _ (hS.split ?sf1x252)).mono ?sf3x252); (case sf1x252 => ((repeat (first | with_reducible exact Split.here | with_reducible apply Split.there)); done)); (case' sf3x252 => (rintro r4 w4 ⟨rfl, hS1⟩; (clear hS; have hS := hS1; clear hS1))))) | (go_at_call 48; ((with_reducible refine' (Hap.out _ _ _ (hS.ent ?sa1x253) (under_ro ?sa2x253)).mono ?sa3x253); (case sa1x253 => (repeat (first | (with_reducible exact Ent.refl _) | ((with_reducible apply Ent.pull); (focus ((repeat (first | with_reducible exact Split.here | with_reducible apply Split.there)); done)))))); (case sa2x253 => ((repeat (with_reducible exact Split.here)); done)); (case' sa3x253 => (rintro r4 w4 ⟨rfl, hS1⟩; (clear hS; have hS := hS1; clear hS1))))) | ((((with_reducible refine wpList_plain ?_ ?_); (focus rfl); intro K hK)); first | ((with_reducible refine' wp_err_eq (E := E) ?_ ?_ ?_); rotate_left 1; (focus rfl); (focus rfl); (refine hK _ _ ?_; clear hK K)) | ((with_reducible refine' wp_load hS ?_ ?_ ?_ ?_ ?_); rotate_left 7; (focus rfl); (focus ((repeat (first | with_reducible exact Split.here | with_reducible apply Split.there)); done)); (focus (((simp only [List.getElem?_toArray, List.getElem?_cons_zero, List.getElem?_cons_succ]); rfl))); (focus (intro _; (simp; done))); (refine hK _ _ ?_; clear hK K)) | ((with_reducible refine' wp_load_old hS ?_ ?_ ?_ ?_); rotate_left 2; (focus rfl); (focus (with_reducible assumption)); (focus (intro _; (simp; done))); (refine hK _ _ ?_; clear hK K)) | ((with_reducible refine' wp_lit1 hS ?_ ?_ ?_ ?_ ?_ ?_); rotate_left 3; (focus (intro _; (simp; rfl))); (focus (intro _; (simp; done))); (focus (intro _; (simp; rfl))); (focus (conv => lhs; whnf)); (focus rfl); intro w' b'; clear hS; intro hS; (refine hK _ _ ?_; clear hK K))))
            go_meet
            case rel =>
              obtain ⟨hr1, hdd⟩ := Hy.out
              have h1 := recs_one (hS.ent (show Ent _ (Blk b' (.cells #[.slice a' (q + 1) c'] 22) :: Ro w0 (.slice a' (q + 1) c') lb :: RoL w0 (.slice na now.length nc) now :: isJ w0 bj db j' :: isDrum db d' :: L) by (repeat (first | (with_reducible exact Ent.refl _) | ((with_reducible apply Ent.pull); (focus ((repeat (first | with_reducible exact Split.here | with_reducible apply Split.there)); done))) | (with_reducible apply Ent.skip)))))
              have h2 : Sat w0 _ (RoL w0 (.slice na now.length nc) now :: RoL w0 (.slice (some ⟨b', 0, none⟩) 1 1) [lb] :: isJ w0 bj db j' :: isDrum db d' :: L) := h1.rol.pick 1
              exact ⟨e, bj, j', d', now, [lb], na, some ⟨b', 0, none⟩, nc, 1, rfl, rfl, rfl, Hx.out.2, Hx.out.1, by simp, hr1, .inl hdd, h2⟩
        by_cases h5 : kd = 5
        case pos =>
          subst h5
          clear h3 h3' h4
          obtain ⟨m, hand, hm⟩ := and_small num 15 (.inr rfl)
          have hand' : bits BinOp.and IntKind.i64 num 15 = (m : Int) := hand
          clear hand
          have Harm : Hid (∀ (w : World) (L : List Asn), Sat w0 w (isDrum db d :: L) → Calls Tryd.prog 44 #[.pointer (some ⟨db, 0, none⟩), .int .i64 (m : Int)] w fun r w' => r = .returned (.tuple #[]) ∧ Sat w0 w' (isDrum db (d.arm (m : Int)) :: L)) := Lib.hid fun w L h => arm_any db d (m : Int) (by omega) w0 w L h
          have hml : (d.arm (m : Int)).left ≤ 15 := by
            show (if (m : Int) < 0 then (0 : Int) else (m : Int)).toNat ≤ 15
            rw [if_neg (by omega)]
            omega
          have Hml := Lib.hid hml
          clear hdn hdl hnl hrs hst hok hml
          go_wp2_with (first | (go_at_call 44; ((with_reducible refine' (Harm.out _ _ (hS.split ?sc1x276)).mono ?sc3x276); (case sc1x276 => ((repeat (first | with_reducible exact Split.here | with_reducible apply Split.there)); done)); (case' sc3x276 => (rintro r4 w4 ⟨rfl, hS1⟩; (clear hS; have hS := hS1; clear hS1))))) | ((((with_reducible refine wpList_plain ?_ ?_); (focus rfl); intro K hK)); ((with_reducible refine' wp_load hS ?_ ?_ ?_ ?_ ?_); rotate_left 7; (focus rfl); (focus ((repeat (first | with_reducible exact Split.here | with_reducible apply Split.there)); done)); (focus (((simp only [List.getElem?_toArray, List.getElem?_cons_zero, List.getElem?_cons_succ]); rfl))); (focus (intro _; (simp; done))); (refine hK _ _ ?_; clear hK K))))
          go_meet
          case rel =>
            obtain ⟨hdn, hdl, hnl, hrs, hst⟩ := Hst.out
            exact ⟨e, bj, j, d.arm (m : Int), now, nxt, na, xa, nc, xc, rfl, rfl, rfl, hdn, Hml.out, hnl, (hrs.arm _).mono (by omega), hst.imp id (fun h => ⟨(h.1.arm _).mono (by omega), h.2⟩), by (refine Sat.ent hS ?_; repeat (first | (with_reducible exact Ent.refl _) | ((with_reducible apply Ent.pull); (focus ((repeat (first | with_reducible exact Split.here | with_reducible apply Split.there)); done))) | (with_reducible apply Ent.skip)))⟩
        by_cases h2 : kd = 2
        case pos =>
          subst h2
          clear h3 h3' h4 h5
          have hnowS := Lib.hid hnow
          obtain ⟨m, hand, hm⟩ := and_small num 1 (.inl rfl)
          have hand' : bits BinOp.and IntKind.i64 num 1 = (m : Int) := hand
          clear hand
          have hkb := hkS.out
          have Hon0 : Hid (∀ (w : World) (L : List Asn), Sat w0 w (isDrum db d :: L) → Calls Tryd.prog 45 #[.pointer (some ⟨db, 0, none⟩)] w fun r w' => r = .returned (.tuple #[]) ∧ Sat w0 w' (isDrum db d.on :: L)) := Lib.hid fun w L h => on_any db d w0 w L h
          obtain rfl | rfl : m = 0 ∨ m = 1 := by omega
          · obtain ⟨j3, d3, hq3, f3, hn3, hr3, he3⟩ := hrs.on.fit rfl rfl (by omega)
            have Hop : Hid (∀ (w : World) (L : List Asn), Sat w0 w (isDrum db (d.on) :: L) → Calls Tryd.prog 38 #[.pointer (some ⟨db, 0, none⟩)] w fun r w' => ∃ b, r = .returned (.tuple #[.pointer (some ⟨b, 0, none⟩), .nilIface]) ∧ Sat w0 w' (isJ w0 b db j3 :: isDrum db d3 :: L)) := Lib.hid fun w L h => open_good E db (d.on) d3 j3 w0 w L hq3 (hrs.on).ok.1 (by show (0 : Nat) ≤ _; omega) hT hE h
            have Hrec : Hid (∀ (b : Nat) (w : World) (L : List Asn), Sat w0 w (isJ w0 b db j3 :: L) → Calls Tryd.prog 42 #[.pointer (some ⟨b, 0, none⟩)] w fun r w' => ∃ a c, r = .returned (.slice a now.length c) ∧ Sat w0 w' (RoL w0 (.slice a now.length c) now :: isJ w0 b db j3 :: L)) := Lib.hid fun b w L h => records_to b db j3 w0 w L hr3 (by omega) hok.2.2.2 h
            have Hsm : Hid (∀ (w : World) (L : List Asn) (v1 : Value), Sat w0 w (RoL w0 v1 now :: RoL w0 (.slice na now.length nc) now :: L) → Calls Tryd.prog 41 #[v1, .slice na now.length nc] w fun r w' => r = .returned (.bool true) ∧ Sat w0 w' (RoL w0 v1 now :: L)) := Lib.hid fun w L v1 h => by
              have h1 := h.dup (pers_rol _ _ _)
              have := sameLists_two w0 w (RoL w0 v1 now :: L) v1 (.slice na now.length nc) now now (by omega) (h1.ent (by (repeat (first | (with_reducible exact Ent.refl _) | ((with_reducible apply Ent.pull); (focus ((repeat (first | with_reducible exact Split.here | with_reducible apply Split.there)); done)))))))
              rw [show decide (now = now) = true from decide_eq_true rfl] at this
              exact this
            have Hx := Lib.hid (And.intro f3 (And.intro (hn3.trans hdn) (And.intro hr3 he3)))
            clear hdn hdl hnl hrs hst hok hq3 f3 hn3 hr3 he3 hkb hm
            go_wp2_with (first | (go_at_call 45; ((with_reducible refine' (Hon0.out _ _ (hS.split ?sc1x304)).mono ?sc3x304); (case sc1x304 => ((repeat (first | with_reducible exact Split.here | with_reducible apply Split.there)); done)); (case' sc3x304 => (rintro r4 w4 ⟨rfl, hS1⟩; (clear hS; have hS := hS1; clear hS1))))) | (go_at_call 38; ((with_reducible refine' (Hop.out _ _ (hS.split ?sc1x305)).mono ?sc3x305); (case sc1x305 => ((repeat (with_reducible exact Split.here)); done)); (case' sc3x305 => (rintro r4 w4 ⟨b3, rfl, hS1⟩; (clear hS; have hS := hS1; clear hS1))))) | (go_at_call 42; ((with_reducible refine' (Hrec.out _ _ _ (hS.split ?sf1x306)).mono ?sf3x306); (case sf1x306 => ((repeat (with_reducible exact Split.here)); done)); (case' sf3x306 => (rintro r4 w4 ⟨ra, rc, rfl, hS1⟩; (clear hS; have hS := hS1; clear hS1))))) | (go_at_call 41; ((with_reducible refine' (Hsm.out _ _ _ (hS.ent ?sh1x307)).mono ?sh4x307); (case sh1x307 => (repeat (first | (with_reducible exact Ent.refl _) | ((with_reducible apply Ent.pull); (focus ((repeat (first | with_reducible exact Split.here | with_reducible apply Split.there)); done)))))); (case' sh4x307 => (rintro r4 w4 ⟨rfl, hS1⟩; (clear hS; have hS := hS1; clear hS1))))) | ((first | ((with_reducible refine wpList_plain ?_ ?_); (focus rfl); intro K hK) | ((with_reducible refine wpList_runG ?_ ?_); (focus rfl); intro K hK)); ((with_reducible refine' wp_load hS ?_ ?_ ?_ ?_ ?_); rotate_left 7; (focus rfl); (focus ((repeat (first | with_reducible exact Split.here | with_reducible apply Split.there)); done)); (focus (((simp only [List.getElem?_toArray, List.getElem?_cons_zero, List.getElem?_cons_succ]); rfl))); (focus (intro _; (simp; done))); (refine hK _ _ ?_; clear hK K))))
            go_meet
            case rel =>
              obtain ⟨f3, hn3, hr3, he3⟩ := Hx.out
              have h9 := f3.live.rest
              rw [hr3, he3] at h9
              have e1 : 1 + k + 1 = 1 + (k + 1) := by omega
              rw [e1] at h9 f3
              exact ⟨e + 1, b3, j3, d3, now, now, ra, ra, rc, rc, rfl, rfl, rfl, hn3, Nat.le_trans f3.left (by show (0 : Nat) ≤ 15; omega), by have := hnowS.out; omega, h9, .inr ⟨f3.live, hr3, he3⟩, (hS.ent (show Ent _ (RoL w0 (.slice ra now.length rc) now :: isJ w0 b3 db j3 :: isDrum db d3 :: L) by (repeat (first | (with_reducible exact Ent.refl _) | ((with_reducible apply Ent.pull); (focus ((repeat (with_reducible exact Split.here)); done))) | (with_reducible apply Ent.skip))))).dup (pers_rol _ _ _)⟩
          · obtain ⟨j2, d2, hq2, hr2, hl2, hn2⟩ := hrs.on.cut rfl (by omega)
            obtain ⟨j3, d3, hq3, f3, hn3, hr3, he3⟩ := hr2.on.fit rfl rfl (by omega)
            have Hop1 : Hid (∀ (w : World) (L : List Asn), Sat w0 w (isDrum db (d.on.arm 0) :: L) → Calls Tryd.prog 38 #[.pointer (some ⟨db, 0, none⟩)] w fun r w' => r = .returned (.tuple #[.pointer none, .iface 182 (.pointer (some (E 6)))]) ∧ Sat w0 w' (isDrum db d2 :: L)) := Lib.hid fun w L h => open_bad E db (d.on.arm 0) d2 j2 w0 w L 5 hq2 (hrs.on.arm 0).ok.1 (by show (0 : Nat) ≤ _; omega) hT hE h
            have Harm : Hid (∀ (w : World) (L : List Asn), Sat w0 w (isDrum db d.on :: L) → Calls Tryd.prog 44 #[.pointer (some ⟨db, 0, none⟩), .int .i64 0] w fun r w' => r = .returned (.tuple #[]) ∧ Sat w0 w' (isDrum db (d.on.arm 0) :: L)) := Lib.hid fun w L h => arm_any db d.on 0 (by omega) w0 w L h
            have Hon1 : Hid (∀ (w : World) (L : List Asn), Sat w0 w (isDrum db d2 :: L) → Calls Tryd.prog 45 #[.pointer (some ⟨db, 0, none⟩)] w fun r w' => r = .returned (.tuple #[]) ∧ Sat w0 w' (isDrum db d2.on :: L)) := Lib.hid fun w L h => on_any db d2 w0 w L h
            have Hop : Hid (∀ (w : World) (L : List Asn), Sat w0 w (isDrum db (d2.on) :: L) → Calls Tryd.prog 38 #[.pointer (some ⟨db, 0, none⟩)] w fun r w' => ∃ b, r = .returned (.tuple #[.pointer (some ⟨b, 0, none⟩), .nilIface]) ∧ Sat w0 w' (isJ w0 b db j3 :: isDrum db d3 :: L)) := Lib.hid fun w L h => open_good E db (d2.on) d3 j3 w0 w L hq3 (hr2.on).ok.1 (by show (0 : Nat) ≤ _; omega) hT hE h
            have Hrec : Hid (∀ (b : Nat) (w : World) (L : List Asn), Sat w0 w (isJ w0 b db j3 :: L) → Calls Tryd.prog 42 #[.pointer (some ⟨b, 0, none⟩)] w fun r w' => ∃ a c, r = .returned (.slice a now.length c) ∧ Sat w0 w' (RoL w0 (.slice a now.length c) now :: isJ w0 b db j3 :: L)) := Lib.hid fun b w L h => records_to b db j3 w0 w L hr3 (by omega) hok.2.2.2 h
            have Hsm : Hid (∀ (w : World) (L : List Asn) (v1 : Value), Sat w0 w (RoL w0 v1 now :: RoL w0 (.slice na now.length nc) now :: L) → Calls Tryd.prog 41 #[v1, .slice na now.length nc] w fun r w' => r = .returned (.bool true) ∧ Sat w0 w' (RoL w0 v1 now :: L)) := Lib.hid fun w L v1 h => by
              have h1 := h.dup (pers_rol _ _ _)
              have := sameLists_two w0 w (RoL w0 v1 now :: L) v1 (.slice na now.length nc) now now (by omega) (h1.ent (by (repeat (first | (with_reducible exact Ent.refl _) | ((with_reducible apply Ent.pull); (focus ((repeat (first | with_reducible exact Split.here | with_reducible apply Split.there)); done)))))))
              rw [show decide (now = now) = true from decide_eq_true rfl] at this
              exact this
            have Hx := Lib.hid (And.intro f3 (And.intro ((hn3.trans hn2).trans hdn) (And.intro hr3 he3)))
            clear hdn hdl hnl hrs hst hok hq3 f3 hn3 hr3 he3 hkb hm hq2 hr2 hl2 hn2
            go_wp2_with (first | (go_at_call 45; ((with_reducible refine' (Hon1.out _ _ (hS.split ?sc1x332)).mono ?sc3x332); (case sc1x332 => ((repeat (first | with_reducible exact Split.here | with_reducible apply Split.there)); done)); (case' sc3x332 => (rintro r4 w4 ⟨rfl, hS1⟩; (clear hS; have hS := hS1; clear hS1))))) | (go_at_call 45; ((with_reducible refine' (Hon0.out _ _ (hS.split ?sc1x333)).mono ?sc3x333); (case sc1x333 => ((repeat (first | with_reducible exact Split.here | with_reducible apply Split.there)); done)); (case' sc3x333 => (rintro r4 w4 ⟨rfl, hS1⟩; (clear hS; have hS := hS1; clear hS1))))) | (go_at_call 44; ((with_reducible refine' (Harm.out _ _ (hS.split ?sc1x334)).mono ?sc3x334); (case sc1x334 => ((repeat (with_reducible exact Split.here)); done)); (case' sc3x334 => (rintro r4 w4 ⟨rfl, hS1⟩; (clear hS; have hS := hS1; clear hS1))))) | (go_at_call 38; ((with_reducible refine' (Hop.out _ _ (hS.split ?sc1x335)).mono ?sc3x335); (case sc1x335 => ((repeat (first | with_reducible exact Split.here | with_reducible apply Split.there)); done)); (case' sc3x335 => (rintro r4 w4 ⟨b3, rfl, hS1⟩; (clear hS; have hS := hS1; clear hS1))))) | (go_at_call 42; ((with_reducible refine' (Hrec.out _ _ _ (hS.split ?sf1x336)).mono ?sf3x336); (case sf1x336 => ((repeat (with_reducible exact Split.here)); done)); (case' sf3x336 => (rintro r4 w4 ⟨ra, rc, rfl, hS1⟩; (clear hS; have hS := hS1; clear hS1))))) | (go_at_call 41; ((with_reducible refine' (Hsm.out _ _ _ (hS.ent ?sh1x337)).mono ?sh4x337); (case sh1x337 => (repeat (first | (with_reducible exact Ent.refl _) | ((with_reducible apply Ent.pull); (focus ((repeat (first | with_reducible exact Split.here | with_reducible apply Split.there)); done)))))); (case' sh4x337 => (rintro r4 w4 ⟨rfl, hS1⟩; (clear hS; have hS := hS1; clear hS1))))) | (go_at_call 38; ((with_reducible refine' (Hop1.out _ _ (hS.split ?sc1x338)).mono ?sc3x338); (case sc1x338 => ((repeat (with_reducible exact Split.here)); done)); (case' sc3x338 => (rintro r4 w4 ⟨rfl, hS1⟩; (clear hS; have hS := hS1; clear hS1))))) | ((first | ((with_reducible refine wpList_plain ?_ ?_); (focus rfl); intro K hK) | ((with_reducible refine wpList_runG ?_ ?_); (focus rfl); intro K hK)); first | ((with_reducible refine' wp_err_ne (E := E) ?_ ?_ ?_); rotate_left 1; (focus rfl); (focus rfl); (refine hK _ _ ?_; clear hK K)) | ((with_reducible refine' wp_load hS ?_ ?_ ?_ ?_ ?_); rotate_left 7; (focus rfl); (focus ((repeat (first | with_reducible exact Split.here | with_reducible apply Split.there)); done)); (focus (((simp only [List.getElem?_toArray, List.getElem?_cons_zero, List.getElem?_cons_succ]); rfl))); (focus (intro _; (simp; done))); (refine hK _ _ ?_; clear hK K)) | ((with_reducible refine' wp_load_old hS ?_ ?_ ?_ ?_); rotate_left 2; (focus rfl); (focus (with_reducible assumption)); (focus (intro _; (simp; done))); (refine hK _ _ ?_; clear hK K))))
            go_meet
            case rel =>
              obtain ⟨f3, hn3, hr3, he3⟩ := Hx.out
              have h9 := f3.live.rest
              rw [hr3, he3] at h9
              have e1 : 1 + k + 1 = 1 + (k + 1) := by omega
              rw [e1] at h9 f3
              exact ⟨e + 1, b3, j3, d3, now, now, ra, ra, rc, rc, rfl, rfl, rfl, hn3, Nat.le_trans f3.left (by show (0 : Nat) ≤ 15; omega), by have := hnowS.out; omega, h9, .inr ⟨f3.live, hr3, he3⟩, (hS.ent (show Ent _ (RoL w0 (.slice ra now.length rc) now :: isJ w0 b3 db j3 :: isDrum db d3 :: L) by (repeat (first | (with_reducible exact Ent.refl _) | ((with_reducible apply Ent.pull); (focus ((repeat (with_reducible exact Split.here)); done))) | (with_reducible apply Ent.skip))))).dup (pers_rol _ _ _)⟩
        have h2' : ¬ (kd = 2) := h2
        clear hdn hdl hnl hrs hst hok
        go_wp2_with (((((with_reducible refine wpList_plain ?_ ?_); (focus rfl); intro K hK)); ((with_reducible refine' wp_load hS ?_ ?_ ?_ ?_ ?_); rotate_left 7; (focus rfl); (focus ((repeat (first | with_reducible exact Split.here | with_reducible apply Split.there)); done)); (focus (((simp only [List.getElem?_toArray, List.getElem?_cons_zero, List.getElem?_cons_succ]); rfl))); (focus (intro _; (simp; done))); (refine hK _ _ ?_; clear hK K))))
        go_meet
        case rel =>
          obtain ⟨hdn, hdl, hnl, hrs, hst⟩ := Hst.out
          exact ⟨e, bj, j, d, now, nxt, na, xa, nc, xc, rfl, rfl, rfl, hdn, hdl, hnl, hrs.mono (by omega), hst.imp id (fun h => ⟨h.1.mono (by omega), h.2⟩), by (refine Sat.ent hS ?_; repeat (first | (with_reducible exact Ent.refl _) | ((with_reducible apply Ent.pull); (focus ((repeat (first | with_reducible exact Split.here | with_reducible apply Split.there)); done))) | (with_reducible apply Ent.skip)))⟩
    case rest =>
      clear hS
      go_wp2_with (fail)
      go_roundw
      case rel => exact ⟨k + 1, by omega, by go_num, hcut⟩
      case measure => simp [intOf]; omega
end
end Go.Proofs.YtndnojbpapjdoaaDoor
