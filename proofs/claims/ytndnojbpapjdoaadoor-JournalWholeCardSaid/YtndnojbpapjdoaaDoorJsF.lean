/- The law JournalAnew walked. -/
import Derived.Test.YtndnojbpapjdoaaDoorJsD
import Derived.Test.YtndnojbpapjdoaaDoorJsE
set_option linter.unusedSimpArgs false
set_option linter.unusedVariables false
set_option linter.unusedSectionVars false
namespace Go.Proofs.YtndnojbpapjdoaaDoor
open Go.Sp Go.RowKit Go.Fld Go.Sha Go.Dr Go.Jr

section
variable (w0 w : World) (L : List Asn)
/-- A list compared with a list of one that was just written down. -/
theorem sameLists_lit (v1 : Value) (xs : List (List UInt8)) (b : Nat) (bv : Value) (l : List UInt8) (hx : xs.length ≤ 140737488355328) (hS : Sat w0 w (Blk b (.cells #[bv] 22) :: RoL w0 v1 xs :: Ro w0 bv l :: L)) :
    Calls Tryd.prog 41 #[v1, .slice (some ⟨b, 0, none⟩) 1 1] w fun r w' => r = .returned (.bool (decide (xs = [l]))) ∧ Sat w0 w' (Ro w0 bv l :: L) := by
  have h1 : Sat w0 w (Ro w0 bv l :: Blk b (.cells #[bv] 22) :: RoL w0 v1 xs :: L) := hS.ent (by (repeat (first | (with_reducible exact Ent.refl _) | ((with_reducible apply Ent.pull); (focus ((repeat (first | with_reducible exact Split.here | with_reducible apply Split.there)); done))))))
  have h2 := h1.dup (pers_ro _ _ _)
  have h3 : Sat w0 w (Blk b (.cells #[bv] 22) :: Ro w0 bv l :: Ro w0 bv l :: RoL w0 v1 xs :: L) := h2.ent (by (repeat (first | (with_reducible exact Ent.refl _) | ((with_reducible apply Ent.pull); (focus ((repeat (first | with_reducible exact Split.here | with_reducible apply Split.there)); done))))))
  have h4 := (recs_one h3).rol
  exact sameLists_two w0 w (Ro w0 bv l :: L) v1 _ xs [l] hx (h4.ent (by (repeat (first | (with_reducible exact Ent.refl _) | ((with_reducible apply Ent.pull); (focus ((repeat (first | with_reducible exact Split.here | with_reducible apply Split.there)); done)))))))
end
section
variable (E : Nat → Addr) (w0 w : World) (L : List Asn)
set_option maxRecDepth 100000 in
set_option maxHeartbeats 4000000 in
theorem anew_law (hT : Table w0) (hEr : Errs E w0) (v0 v1 : Value) (rs : List (List UInt8)) (sn : List UInt8) (hn : rs.length ≤ 140737488355328) (hS : Sat w0 w (RoL w0 v0 rs :: Ro w0 v1 sn :: L)) :
    Calls Tryd.prog 8 #[v0, v1] w fun r w' => r = .returned (.bool true) ∧ Sat w0 w' L := by
  have hE := hEr.jr
  have hg12 := hE.none_
  obtain ⟨a0, c0, rfl, _, _, hs0⟩ := hS.rol_len
  obtain ⟨sa, sc, rfl, hsc⟩ := hS.drop.ro_reads
  have Hal : Hid (∀ (w : World) (L : List Asn), Sat w0 w L → Calls Tryd.prog 36 #[] w fun r w' => r = .returned (.bool true) ∧ Sat w0 w' L) := Lib.hid fun w L h => alive_ok E w0 w L hT hE h
  by_cases hsl : sn.length ≤ 300
  case neg =>
    have hsl' : (300 : Int) < (sn.length : Int) := by omega
    go_enter Tryd.func8, Tryd.ntmps8
    go_wp2_with ((go_at_call 36; ((with_reducible refine' (Hal.out _ _ hS).mono ?sa1x33); (case' sa1x33 => (rintro r4 w4 ⟨rfl, hS1⟩; (clear hS; have hS := hS1; clear hS1))))))
    go_ret
    exact ⟨rfl, hS.drop.drop⟩
  have hsl' : (sn.length : Int) ≤ 300 := by omega
  have hnew : ∀ (w : World) (L : List Asn), Sat w0 w L → Calls Tryd.prog 37 #[.int .i64 60] w fun r w' => ∃ b, r = .returned (.tuple #[.pointer (some ⟨b, 0, none⟩), .nilIface]) ∧ Sat w0 w' (isDrum b (Drum.new 60) :: L) := fun w L h => new_ok 60 (by decide) (by decide) w0 w L h
  have hop0 : ∀ (db : Nat) (w : World) (L : List Asn), Sat w0 w (isDrum db (Drum.new 60) :: L) → Calls Tryd.prog 38 #[.pointer (some ⟨db, 0, none⟩)] w fun r w' => r = .returned (.tuple #[.pointer none, .iface 182 (.pointer (some (E 12)))]) ∧ Sat w0 w' (isDrum db (Drum.new 60) :: L) := fun db w L h => open_bad E db (Drum.new 60) _ _ w0 w L 11 (open_new (by decide)) (new_fresh (by decide)) (by decide) hT hE h
  obtain ⟨j1, d1, hq1, f1, hn1, -⟩ := format_fit (n := 60) (l := []) (by omega) (by omega) (by simp) (by decide)
  have hfm : ∀ (db : Nat) (w : World) (L : List Asn), Sat w0 w (isDrum db (Drum.new 60) :: L) → Calls Tryd.prog 39 #[.pointer (some ⟨db, 0, none⟩), .slice none 0 0] w fun r w' => ∃ b, r = .returned (.tuple #[.pointer (some ⟨b, 0, none⟩), .nilIface]) ∧ Sat w0 w' (isJ w0 b db j1 :: isDrum db d1 :: L) := fun db w L h => format_good E db _ d1 j1 w0 w L _ [] hq1 (by decide) (new_fresh (by decide)) (by decide) hT hE h (fun w' _ => ⟨none, 0, rfl, Nat.le_refl _, Nat.zero_le _, fun _ => rfl, fun _ h => by cases h⟩)
  have Hnew := Lib.hid hnew
  have Hop0 := Lib.hid hop0
  have Hfm := Lib.hid hfm
  have Hf1 := Lib.hid f1
  have Hn1 := Lib.hid hn1
  clear hnew hop0 hfm hq1 f1 hn1
  have hnS := Lib.hid hn
  have hslS := Lib.hid hsl
  clear hn hsl
  go_enter Tryd.func8, Tryd.ntmps8
  go_wp2_with (first | (go_at_call 36; ((with_reducible refine' (Hal.out _ _ hS).mono ?sa1x53); (case' sa1x53 => (rintro r4 w4 ⟨rfl, hS1⟩; (clear hS; have hS := hS1; clear hS1))))) | (go_at_call 37; ((with_reducible refine' (Hnew.out _ _ hS).mono ?snx54); (case' snx54 => (rintro r4 w4 ⟨db, rfl, hS1⟩; (clear hS; have hS := hS1; clear hS1))))) | (go_at_call 38; ((with_reducible refine' (Hop0.out _ _ _ (hS.split ?sc1x55)).mono ?sc3x55); (case sc1x55 => ((repeat (with_reducible exact Split.here)); done)); (case' sc3x55 => (rintro r4 w4 ⟨rfl, hS1⟩; (clear hS; have hS := hS1; clear hS1))))) | (go_at_call 39; ((with_reducible refine' (Hfm.out _ _ _ (hS.split ?sd1x56)).mono ?sd3x56); (case sd1x56 => ((repeat (with_reducible exact Split.here)); done)); (case' sd3x56 => (rintro r4 w4 ⟨b, rfl, hS1⟩; (clear hS; have hS := hS1; clear hS1))))) | ((first | ((with_reducible refine wpList_plain ?_ ?_); (focus rfl); intro K hK) | ((with_reducible refine wpList_runG ?_ ?_); (focus rfl); intro K hK)); first | ((with_reducible refine' wp_err_ne (E := E) ?_ ?_ ?_); rotate_left 1; (focus rfl); (focus rfl); (refine hK _ _ ?_; clear hK K)) | ((with_reducible refine' wp_load_old hS ?_ ?_ ?_ ?_); rotate_left 2; (focus rfl); (focus (with_reducible assumption)); (focus (intro _; (simp; done))); (refine hK _ _ ?_; clear hK K))))
  go_loopw [50] (fun i wr => ∃ (k : Nat) (j : Jr.J) (d : Dr.Drum), k ≤ rs.length ∧ i = .int .i64 k ∧ Fit j d 1 0 ∧ d.n = 60 ∧ Sat w0 wr (isJ w0 b db j :: isDrum db d :: RoL w0 (.slice a0 rs.length c0) rs :: Ro w0 (.slice sa sn.length sc) sn :: L)) (fun i _ => rs.length - (intOf i).toNat)
  case atStart => exact ⟨0, j1, d1, by omega, rfl, Hf1.out, Hn1.out, by (refine Sat.ent hS ?_; repeat ((with_reducible exact Ent.refl _)))⟩
  case round =>
    clear hS
    obtain ⟨k, j, d, hk, rfl, hf, hdn, hS⟩ := hrel
    by_cases hlt : k < rs.length
    case pos =>
      obtain ⟨l, hl⟩ : ∃ l, rs[k]? = some l := ⟨rs[k], List.getElem?_eq_getElem hlt⟩
      obtain ⟨ad, u, rfl, hS1⟩ := (hS.pick 2).rolAt hl
      clear hS
      have hS := hS1
      obtain ⟨ua, uc, rfl, huc⟩ := hS1.rolAt_ro.ro_reads
      clear hS1 hs0
      have hlt' : (k : Int) < (rs.length : Int) := by omega
      have hkb : (k : Int) < 140737488355328 := by have := hnS.out; omega
      have hdnS := Lib.hid hdn
      clear hl hdn
      by_cases hgo : k < 20 ∧ l.length ≤ 200
      case pos =>
        obtain ⟨hk20, hl2⟩ := hgo
        have hk20' : (k : Int) < 20 := by omega
        have hl2' : (l.length : Int) ≤ 200 := by omega
        obtain ⟨e, j', d', hq, hf', hn', he⟩ := hf.trial (l := l) (by omega) (by omega)
        have hap : ∀ (w : World) (L : List Asn) (bv : Value), Sat w0 w (isJ w0 b db j :: isDrum db d :: L) → Under w0 L bv l → Calls Tryd.prog 40 #[.pointer (some ⟨b, 0, none⟩), bv] w fun r w' => r = .returned (erv E e) ∧ Sat w0 w' (isJ w0 b db j' :: isDrum db d' :: L) := fun w L bv h hr => append_to E b db d d' j j' w0 w L e bv l hq (by omega) hf.ok.1 (Nat.le_trans hf.left (by decide)) hf.ok.2 (live_jok hf.live (by omega)) hT hE h hr
        have Hap := Lib.hid hap
        have Hf' := Lib.hid hf'
        have Hn' := Lib.hid hn'
        clear hap hq hf' hn' hf he hk20 hl2
        go_wp2_with (first | (go_at_call 40; ((with_reducible refine' (Hap.out _ _ _ (hS.ent ?sa1x87) (under_rolAt ?sa2x87)).mono ?sa3x87); (case sa1x87 => (repeat (first | (with_reducible exact Ent.refl _) | ((with_reducible apply Ent.pull); (focus ((repeat (first | with_reducible exact Split.here | with_reducible apply Split.there)); done)))))); (case sa2x87 => ((repeat (with_reducible exact Split.here)); done)); (case' sa3x87 => (rintro r4 w4 ⟨rfl, hS1⟩; (clear hS; have hS := hS1; clear hS1))))) | ((first | ((with_reducible refine wpList_plain ?_ ?_); (focus rfl); intro K hK) | ((with_reducible refine wpList_runG ?_ ?_); (focus rfl); intro K hK)); first | ((with_reducible refine' wp_index_any ?_ ?_ ?_ ?_ ?_ ?_ ?_ ?_); rotate_left 8; (focus rfl); (focus rfl); (focus (intro _; (simp; rfl))); (focus (intro _; (simp; rfl))); (focus (omega)); (focus (omega)); (focus (((simp only [Int.toNat_natCast, Int.reduceToNat, Nat.mul_one, Nat.zero_add, Nat.add_zero, Nat.reduceMul, Nat.reduceAdd]); rfl))); (refine hK _ _ ?_; clear hK K)) | ((with_reducible refine' wp_rol_load hS ?_ ?_ ?_ ?_); rotate_left 4; (focus rfl); (focus ((repeat (with_reducible exact Split.here)); done)); (focus (intro _; (simp; done))); (refine hK _ _ ?_; clear hK K))))
        go_roundw
        case rel => exact ⟨k + 1, j', d', by omega, by go_num, Hf'.out, Hn'.out.trans hdnS.out, by (refine Sat.ent hS ?_; repeat (first | (with_reducible exact Ent.refl _) | ((with_reducible apply Ent.pull); (focus ((repeat (first | with_reducible exact Split.here | with_reducible apply Split.there)); done))) | (with_reducible apply Ent.skip)))⟩
        case measure => simp [intOf]; omega
      case neg =>
        have hff := Lib.hid hf
        clear hf
        by_cases hk20 : k < 20
        case pos =>
          have hk20' : (k : Int) < 20 := by omega
          have hl2' : ¬ ((l.length : Int) ≤ 200) := by omega
          clear hgo
          go_wp2_with (((first | ((with_reducible refine wpList_plain ?_ ?_); (focus rfl); intro K hK) | ((with_reducible refine wpList_runG ?_ ?_); (focus rfl); intro K hK)); first | ((with_reducible refine' wp_index_any ?_ ?_ ?_ ?_ ?_ ?_ ?_ ?_); rotate_left 8; (focus rfl); (focus rfl); (focus (intro _; (simp; rfl))); (focus (intro _; (simp; rfl))); (focus (omega)); (focus (omega)); (focus (((simp only [Int.toNat_natCast, Int.reduceToNat, Nat.mul_one, Nat.zero_add, Nat.add_zero, Nat.reduceMul, Nat.reduceAdd]); rfl))); (refine hK _ _ ?_; clear hK K)) | ((with_reducible refine' wp_rol_load hS ?_ ?_ ?_ ?_); rotate_left 4; (focus rfl); (focus ((repeat (with_reducible exact Split.here)); done)); (focus (intro _; (simp; done))); (refine hK _ _ ?_; clear hK K))))
          go_roundw
          case rel => exact ⟨k + 1, j, d, by omega, by go_num, hff.out, hdnS.out, by (refine Sat.ent hS ?_; repeat (first | (with_reducible exact Ent.refl _) | ((with_reducible apply Ent.pull); (focus ((repeat (first | with_reducible exact Split.here | with_reducible apply Split.there)); done))) | (with_reducible apply Ent.skip)))⟩
          case measure => simp [intOf]; omega
        case neg =>
          have hk20' : ¬ ((k : Int) < 20) := by omega
          clear hgo
          go_wp2_with (((((with_reducible refine wpList_plain ?_ ?_); (focus rfl); intro K hK)); first | ((with_reducible refine' wp_index_any ?_ ?_ ?_ ?_ ?_ ?_ ?_ ?_); rotate_left 8; (focus rfl); (focus rfl); (focus (intro _; (simp; rfl))); (focus (intro _; (simp; rfl))); (focus (omega)); (focus (omega)); (focus (((simp only [Int.toNat_natCast, Int.reduceToNat, Nat.mul_one, Nat.zero_add, Nat.add_zero, Nat.reduceMul, Nat.reduceAdd]); rfl))); (refine hK _ _ ?_; clear hK K)) | ((with_reducible refine' wp_rol_load hS ?_ ?_ ?_ ?_); rotate_left 4; (focus rfl); (focus ((repeat (with_reducible exact Split.here)); done)); (focus (intro _; (simp; done))); (refine hK _ _ ?_; clear hK K))))
          go_roundw
          case rel => exact ⟨k + 1, j, d, by omega, by go_num, hff.out, hdnS.out, by (refine Sat.ent hS ?_; repeat (first | (with_reducible exact Ent.refl _) | ((with_reducible apply Ent.pull); (focus ((repeat (first | with_reducible exact Split.here | with_reducible apply Split.there)); done))) | (with_reducible apply Ent.skip)))⟩
          case measure => simp [intOf]; omega
    case neg =>
      obtain rfl : k = rs.length := by omega
      obtain ⟨j2, d2, hq2, f2, hn2, hr2⟩ := hf.again (l := sn) (by omega) (by have := hslS.out; omega) (by have := hslS.out; rw [hdn]; unfold need half; omega)
      obtain ⟨j3, d3, hq3, f3, hn3, hr3, -⟩ := f2.live.rest.fit f2.live.off f2.calm (by omega)
      have hfm : ∀ (w : World) (L : List Asn) (bv : Value), Sat w0 w (isDrum db d :: L) → Under w0 L bv sn → Calls Tryd.prog 39 #[.pointer (some ⟨db, 0, none⟩), bv] w fun r w' => ∃ b, r = .returned (.tuple #[.pointer (some ⟨b, 0, none⟩), .nilIface]) ∧ Sat w0 w' (isJ w0 b db j2 :: isDrum db d2 :: L) := fun w L bv h hr => format_good E db d d2 j2 w0 w L bv sn hq2 (by have := hslS.out; omega) hf.ok.1 (Nat.le_trans hf.left (by decide)) hT hE h hr
      have hop : ∀ (w : World) (L : List Asn), Sat w0 w (isDrum db d2 :: L) → Calls Tryd.prog 38 #[.pointer (some ⟨db, 0, none⟩)] w fun r w' => ∃ b, r = .returned (.tuple #[.pointer (some ⟨b, 0, none⟩), .nilIface]) ∧ Sat w0 w' (isJ w0 b db j3 :: isDrum db d3 :: L) := fun w L h => open_good E db d2 d3 j3 w0 w L hq3 f2.ok.1 (Nat.le_trans f2.left (by decide)) hT hE h
      have hre : ∀ (b : Nat) (j : Jr.J) (w : World) (L : List Asn), j.records = [sn] → Sat w0 w (isJ w0 b db j :: L) → Calls Tryd.prog 42 #[.pointer (some ⟨b, 0, none⟩)] w fun r w' => ∃ a c, r = .returned (.slice a 1 c) ∧ Sat w0 w' (RoL w0 (.slice a 1 c) [sn] :: isJ w0 b db j :: L) := fun b j w L hr h => records_to b db j w0 w L hr (by simp) (by intro l hl; have := hslS.out; simp at hl; rw [hl]; omega) h
      have hsl2 : ∀ (w : World) (L : List Asn) (v1 : Value) (b : Nat) (bv : Value), Sat w0 w (Blk b (.cells #[bv] 22) :: RoL w0 v1 [sn] :: Ro w0 bv sn :: L) → Calls Tryd.prog 41 #[v1, .slice (some ⟨b, 0, none⟩) 1 1] w fun r w' => r = .returned (.bool true) ∧ Sat w0 w' (Ro w0 bv sn :: L) := fun w L v1 b bv h => by
        have := sameLists_lit w0 w L v1 [sn] b bv sn (by simp) h
        rw [show decide ([sn] = [sn]) = true from decide_eq_true rfl] at this
        exact this
      have Hfm := Lib.hid hfm
      have Hop := Lib.hid hop
      have Hre := Lib.hid hre
      have Hsl := Lib.hid hsl2
      have Hr2 := Lib.hid hr2
      have Hr3 := Lib.hid (hr3.trans hr2)
      clear hfm hop hre hsl2 hr2 hr3 hq2 f2 hn2 hq3 f3 hn3 hf hdn
      go_wp2_with (first | (go_at_call 39; ((with_reducible refine' (Hfm.out _ _ _ (hS.split ?sd1x132) (under_ro ?sd2x132)).mono ?sd3x132); (case sd1x132 => ((repeat (first | with_reducible exact Split.here | with_reducible apply Split.there)); done)); (case sd2x132 => ((repeat (first | with_reducible exact Split.here | with_reducible apply Split.there)); done)); (case' sd3x132 => (rintro r4 w4 ⟨b2, rfl, hS1⟩; (clear hS; have hS := hS1; clear hS1))))) | (go_at_call 38; ((with_reducible refine' (Hop.out _ _ (hS.split ?sc1x133)).mono ?sc3x133); (case sc1x133 => ((repeat (first | with_reducible exact Split.here | with_reducible apply Split.there)); done)); (case' sc3x133 => (rintro r4 w4 ⟨b3, rfl, hS1⟩; (clear hS; have hS := hS1; clear hS1))))) | (go_at_call 42; ((with_reducible refine' (Hre.out _ _ _ _ Hr3.out (hS.split ?sf1x134)).mono ?sf3x134); (case sf1x134 => ((repeat (first | with_reducible exact Split.here | with_reducible apply Split.there)); done)); (case' sf3x134 => (rintro r4 w4 ⟨ra, rc, rfl, hS1⟩; (clear hS; have hS := hS1; clear hS1))))) | (go_at_call 42; ((with_reducible refine' (Hre.out _ _ _ _ Hr2.out (hS.split ?sg1x136)).mono ?sg3x136); (case sg1x136 => ((repeat (with_reducible exact Split.here)); done)); (case' sg3x136 => (rintro r4 w4 ⟨ra, rc, rfl, hS1⟩; (clear hS; have hS := hS1; clear hS1))))) | (go_at_call 41; ((with_reducible refine' (Hsl.out _ _ _ _ _ (hS.ent ?sh1x137)).mono ?sh4x137); (case sh1x137 => (repeat (first | (with_reducible exact Ent.refl _) | ((with_reducible apply Ent.pull); (focus ((repeat (first | with_reducible exact Split.here | with_reducible apply Split.there)); done)))))); (case' sh4x137 => (rintro r4 w4 ⟨rfl, hS1⟩; (clear hS; have hS := hS1; clear hS1))))) | (go_at_call 41; ((with_reducible refine' (Hsl.out _ _ _ _ _ (hS.ent ?sh1x138)).mono ?sh4x138); (case sh1x138 => (repeat (first | (with_reducible exact Ent.refl _) | ((with_reducible apply Ent.pull); (focus ((repeat (first | with_reducible exact Split.here | with_reducible apply Split.there)); done)))))); (case' sh4x138 => (rintro r4 w4 ⟨rfl, hS1⟩; (clear hS; have hS := hS1; clear hS1))))) | ((first | ((with_reducible refine wpList_plain ?_ ?_); (focus rfl); intro K hK) | ((with_reducible refine wpList_runG ?_ ?_); (focus rfl); intro K hK)); ((with_reducible refine' wp_lit1 hS ?_ ?_ ?_ ?_ ?_ ?_); rotate_left 3; (focus (intro _; (simp; rfl))); (focus (intro _; (simp; done))); (focus (intro _; (simp; rfl))); (focus (conv => lhs; whnf)); (focus rfl); intro w' b'; clear hS; intro hS; (refine hK _ _ ?_; clear hK K))))
      go_ret
      exact ⟨rfl, by (refine Sat.ent hS ?_; repeat (first | (with_reducible exact Ent.refl _) | (with_reducible apply Ent.skip)))⟩
end
end Go.Proofs.YtndnojbpapjdoaaDoor
