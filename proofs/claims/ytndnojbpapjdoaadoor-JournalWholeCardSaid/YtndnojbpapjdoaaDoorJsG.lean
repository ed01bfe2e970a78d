/- The law JournalOpens walked. -/
import Derived.Test.YtndnojbpapjdoaaDoorJsF
set_option linter.unusedSimpArgs false
set_option linter.unusedVariables false
set_option linter.unusedSectionVars false
namespace Go.Proofs.YtndnojbpapjdoaaDoor
open Go.Sp Go.RowKit Go.Fld Go.Sha Go.Dr Go.Jr

def sBegin : List UInt8 := [98, 101, 103, 105, 110]
section
variable (E : Nat → Addr) (w0 w : World) (L : List Asn)
set_option maxRecDepth 100000 in
set_option maxHeartbeats 8000000 in
theorem opens_law (hT : Table w0) (hEr : Errs E w0) (v0 v1 : Value) (rs : List (List UInt8)) (bs : List Bool) (hn : rs.length ≤ 140737488355328) (hbn : bs.length ≤ 140737488355328) (hb : CellsL w0 v1 (bs.map .bool)) (hS : Sat w0 w (RoL w0 v0 rs :: L)) :
    Calls Tryd.prog 9 #[v0, v1] w fun r w' => r = .returned (.bool true) ∧ Sat w0 w' L := by
  have hE := hEr.jr
  have hg6 := hE.dr.power
  obtain ⟨a0, c0, rfl, _, _, hs0⟩ := hS.rol_len
  obtain ⟨b0, e0, rfl, hb1, hb2, hb3, hb4⟩ := hb
  simp only [List.length_map] at hb1
  rw [List.length_map]
  have hbc : ∀ k c, bs[k]? = some c → ∃ ad, b0 = some ad ∧ w0.cell? (ad.add k) = some (.bool c) := fun k c hk => by
    cases b0 with
    | none => have := hb3 rfl; rw [List.map_eq_nil_iff] at this; rw [this] at hk; cases hk
    | some ad => exact ⟨ad, rfl, hb4 ad rfl k (.bool c) (by rw [List.getElem?_map, hk]; rfl)⟩
  have Hbc := Lib.hid hbc
  clear hbc hb1 hb2 hb3 hb4
  have Hal : Hid (∀ (w : World) (L : List Asn), Sat w0 w L → Calls Tryd.prog 36 #[] w fun r w' => r = .returned (.bool true) ∧ Sat w0 w' L) := Lib.hid fun w L h => alive_ok E w0 w L hT hE h
  have Hnew : Hid (∀ (w : World) (L : List Asn), Sat w0 w L → Calls Tryd.prog 37 #[.int .i64 400] w fun r w' => ∃ b, r = .returned (.tuple #[.pointer (some ⟨b, 0, none⟩), .nilIface]) ∧ Sat w0 w' (isDrum b (Drum.new 400) :: L)) := Lib.hid fun w L h => new_ok 400 (by decide) (by decide) w0 w L h
  obtain ⟨j1, d1, hq1, f1, hn1, hr1, hu1, he1, -⟩ := format_fit (n := 400) (l := sBegin) (by omega) (by omega) (by decide) (by decide)
  have Hfm : Hid (∀ (db : Nat) (w : World) (L : List Asn) (bv : Value), Sat w0 w (isDrum db (Drum.new 400) :: L) → Under w0 L bv sBegin → Calls Tryd.prog 39 #[.pointer (some ⟨db, 0, none⟩), bv] w fun r w' => ∃ b, r = .returned (.tuple #[.pointer (some ⟨b, 0, none⟩), .nilIface]) ∧ Sat w0 w' (isJ w0 b db j1 :: isDrum db d1 :: L)) := Lib.hid fun db w L bv h hr => format_good E db _ d1 j1 w0 w L bv sBegin hq1 (by decide) (new_fresh (by decide)) (by decide) hT hE h hr
  have Hf1 := Lib.hid f1
  have Hx1 := Lib.hid (And.intro hn1 (And.intro hr1 (And.intro hu1 he1)))
  clear hq1 f1 hn1 hr1 hu1 he1
  have hnS := Lib.hid hn
  have hbnS := Lib.hid hbn
  clear hn hbn
  go_enter Tryd.func9, Tryd.ntmps9
  go_upto_block 0 with (first | (go_at_call 36; ((with_reducible refine' (Hal.out _ _ hS).mono ?sa1x36); (case' sa1x36 => (rintro r4 w4 ⟨rfl, hS1⟩; (clear hS; have hS := hS1; clear hS1))))) | (go_at_call 37; ((with_reducible refine' (Hnew.out _ _ hS).mono ?snx37); (case' snx37 => (rintro r4 w4 ⟨db, rfl, hS1⟩; (clear hS; have hS := hS1; clear hS1))))) | (go_at_call 39; ((with_reducible refine' (Hfm.out _ _ _ _ (hS.split ?sd1x38) (under_own ?sd2x38)).mono ?sd3x38); (case sd1x38 => ((repeat (first | with_reducible exact Split.here | with_reducible apply Split.there)); done)); (case sd2x38 => ((repeat (with_reducible exact Split.here)); done)); (case' sd3x38 => (rintro r4 w4 ⟨b, rfl, hS1⟩; (clear hS; have hS := hS1; clear hS1))))) | ((first | ((with_reducible refine wpList_plain ?_ ?_); (focus rfl); intro K hK) | ((with_reducible refine wpList_runG ?_ ?_); (focus rfl); intro K hK)); (with_reducible refine' wp_slice_lit (t := 22) (cs := ((sBegin : List UInt8).map B).toArray) hS ?_ ?_ ?_ ?_ ?_ ?_ ?_ ?_); rotate_left 4; (focus (intro _; (simp; rfl))); (focus (intro _; (simp; rfl))); (focus (intro _; (simp; rfl))); (focus decide); (focus decide); (focus rfl); (focus kernel_rfl); intro w' b'; clear hS; intro hS; (refine hK _ _ ?_; clear hK K)) | ((first | ((with_reducible refine wpList_plain ?_ ?_); (focus rfl); intro K hK) | ((with_reducible refine wpList_runG ?_ ?_); (focus rfl); intro K hK)); (with_reducible refine' wp_lit_conv (l := sBegin) hS ?_ ?_ ?_ ?_ ?_ ?_ ?_); rotate_left 5; (focus rfl); (focus ((repeat (with_reducible exact Split.here)); done)); (focus rfl); (focus ((simp; rfl))); (focus ((simp; done))); (focus decide); intro w'; clear hS; intro hS; (refine hK _ _ ?_; clear hK K)) | ((first | ((with_reducible refine wpList_plain ?_ ?_); (focus rfl); intro K hK) | ((with_reducible refine wpList_runG ?_ ?_); (focus rfl); intro K hK)); ((with_reducible refine' wp_lit1 hS ?_ ?_ ?_ ?_ ?_ ?_); rotate_left 3; (focus (intro _; (simp; rfl))); (focus (intro _; (simp; done))); (focus (intro _; (simp; rfl))); (focus (conv => lhs; whnf)); (focus rfl); intro w' b'; clear hS; intro hS; (refine hK _ _ ?_; clear hK K))))
  clear Hfm Hnew Hal
  have hS1 := recs_one ((hS.pick 1).ro.ent (Ent.pick 1 _))
  clear hS
  have hS := hS1
  clear hS1
  go_cut [8] (fun v wc => ∃ (j : Jr.J) (d : Dr.Drum) (a : Option Addr) (c : Nat), Fit j d 1 0 ∧ j.head.epoch = 1 ∧ v = .slice a j.records.length c ∧ Sat w0 wc (Recs w0 (.slice a j.records.length c) j.records :: isJ w0 b db j :: isDrum db d :: RoL w0 (.slice a0 rs.length c0) rs :: L))
  case first =>
    go_wp2_with (fail)
    go_loopw [48, 8] (fun i v wr => ∃ (k : Nat) (j : Jr.J) (d : Dr.Drum) (a : Option Addr) (c : Nat), k ≤ rs.length ∧ k ≤ 13 ∧ i = .int .i64 k ∧ v = .slice a j.records.length c ∧ Fit j d 1 0 ∧ d.n = 400 ∧ j.used ≤ 1 + 11 * k ∧ j.head.epoch = 1 ∧ Sat w0 wr (Recs w0 (.slice a j.records.length c) j.records :: isJ w0 b db j :: isDrum db d :: RoL w0 (.slice a0 rs.length c0) rs :: L)) (fun i _ _ => rs.length - (intOf i).toNat)
    case atStart =>
      obtain ⟨hn1, hr1, hu1, he1⟩ := Hx1.out
      refine ⟨0, j1, d1, _, _, by omega, by omega, rfl, by rw [hr1]; rfl, Hf1.out, hn1, by rw [hu1]; decide, he1, ?_⟩
      rw [hr1]
      show Sat w0 _ (Recs w0 (.slice (some ⟨b', 0, none⟩) 1 1) [sBegin] :: _ :: _ :: _ :: _)
      exact hS.ent (by (repeat (first | (with_reducible exact Ent.refl _) | ((with_reducible apply Ent.pull); (focus ((repeat (first | with_reducible exact Split.here | with_reducible apply Split.there)); done))) | (with_reducible apply Ent.skip))))
    case round =>
      clear hS
      obtain ⟨k, j, d, a, c, hk, hk13, rfl, rfl, hf, hdn, hu, hep, hS⟩ := hrel
      have hep' := Lib.hid hep
      have hrl := hf.live.len.1
      by_cases hlt : k < rs.length
      case pos =>
        obtain ⟨l, hl⟩ : ∃ l, rs[k]? = some l := ⟨rs[k], List.getElem?_eq_getElem hlt⟩
        obtain ⟨ad, u, rfl, hS1⟩ := (hS.pick 3).rolAt hl
        obtain ⟨ua, uc, rfl, huc⟩ := hS1.rolAt_ro.ro_reads
        clear hS hs0
        have hlt' : (k : Int) < (rs.length : Int) := by omega
        have hk13' : (k : Int) ≤ 13 := by omega
        have hdn' := Lib.hid hdn
        clear hl hep
        by_cases hgo : k ≤ 12 ∧ l.length ≤ 500
        case pos =>
          obtain ⟨hk12, hl5⟩ := hgo
          have hk12' : (k : Int) ≤ 12 := by omega
          have hl5' : (l.length : Int) ≤ 500 := by omega
          obtain ⟨j', d', hq, hf', hn', hr', hu', hh'⟩ := hf.append (l := l) (by omega) (by omega) (by rw [hdn]; unfold need half; omega)
          have Hap : Hid (∀ (w : World) (L : List Asn) (bv : Value), Sat w0 w (isJ w0 b db j :: isDrum db d :: L) → Under w0 L bv l → Calls Tryd.prog 40 #[.pointer (some ⟨b, 0, none⟩), bv] w fun r w' => r = .returned .nilIface ∧ Sat w0 w' (isJ w0 b db j' :: isDrum db d' :: L)) := Lib.hid fun w L bv h hr => append_to E b db d d' j j' w0 w L 0 bv l hq (by omega) hf.ok.1 (Nat.le_trans hf.left (by decide)) hf.ok.2 (live_jok hf.live (by omega)) hT hE h hr
          have Hx := Lib.hid (And.intro hf' (And.intro hn' (And.intro hr' (And.intro hu' hh'))))
          clear hq hf' hn' hr' hu' hh' hf hdn hk12 hl5
          obtain ⟨vs, hvs, hS⟩ := recs_open (hS1.ent (show Ent _ (Recs w0 (.slice a j.records.length c) j.records :: RoLAt w0 (ad.add k) (.slice ua l.length uc) l :: RoL w0 (.slice (some ad) rs.length c0) rs :: isJ w0 b db j :: isDrum db d :: L) by (repeat (first | (with_reducible exact Ent.refl _) | ((with_reducible apply Ent.pull); (focus ((repeat (first | with_reducible exact Split.here | with_reducible apply Split.there)); done)))))))
          clear hS1
          go_wp2_with (first | (go_at_call 40; ((with_reducible refine' (Hap.out _ _ _ (hS.ent ?sa1x85) (under_rolAt ?sa2x85)).mono ?sa3x85); (case sa1x85 => (repeat (first | (with_reducible exact Ent.refl _) | ((with_reducible apply Ent.pull); (focus ((repeat (first | with_reducible exact Split.here | with_reducible apply Split.there)); done)))))); (case sa2x85 => ((repeat (first | with_reducible exact Split.here | with_reducible apply Split.there)); done)); (case' sa3x85 => (rintro r4 w4 ⟨rfl, hS1⟩; (clear hS; have hS := hS1; clear hS1))))) | ((((with_reducible refine wpList_plain ?_ ?_); (focus rfl); intro K hK)); first | ((with_reducible refine' wp_index_any ?_ ?_ ?_ ?_ ?_ ?_ ?_ ?_); rotate_left 8; (focus rfl); (focus rfl); (focus (intro _; (simp; rfl))); (focus (intro _; (simp; rfl))); (focus (omega)); (focus (omega)); (focus (((simp only [Int.toNat_natCast, Int.reduceToNat, Nat.mul_one, Nat.zero_add, Nat.add_zero, Nat.reduceMul, Nat.reduceAdd]); rfl))); (refine hK _ _ ?_; clear hK K)) | ((with_reducible refine' wp_rol_load hS ?_ ?_ ?_ ?_); rotate_left 4; (focus rfl); (focus ((repeat (first | with_reducible exact Split.here | with_reducible apply Split.there)); done)); (focus (intro _; (simp; done))); (refine hK _ _ ?_; clear hK K)) | ((with_reducible refine' wp_append_row (m := 1) (news := [.slice ua l.length uc]) slRec (hS.split ?raax86) ?rbax86 ?rcax86 ?rdax86 ?reax86 ?rfax86 ?rgax86); (case raax86 => ((repeat (first | with_reducible exact Split.here | with_reducible apply Split.there)); done)); (case rbax86 => rfl); (case rcax86 => rfl); (case rdax86 => (exact srcOne hS (by ((repeat (with_reducible exact Split.here)); done)) rfl)); (case reax86 => (unfold maxLen; omega)); (case rfax86 => omega); (case' rgax86 => (intro v' w'; clear hS; intro hS; obtain ⟨ra, rc, rfl, -⟩ := hS.row_len; (refine hK _ _ ?_; clear hK K)))) | ((with_reducible refine' wp_lit1 hS ?_ ?_ ?_ ?_ ?_ ?_); rotate_left 3; (focus (intro _; (simp; rfl))); (focus (intro _; (simp; done))); (focus (intro _; (simp; rfl))); (focus (conv => lhs; whnf)); (focus rfl); intro w' b'; clear hS; intro hS; (refine hK _ _ ?_; clear hK K))))
          go_roundw
          case rel =>
            obtain ⟨hf', hn', hr', hu', hh'⟩ := Hx.out
            refine ⟨k + 1, j', d', ra, rc, by omega, by omega, by go_num, by rw [hr', List.length_append]; rfl, hf', hn'.trans hdn'.out, by rw [hu']; unfold need; omega, by rw [hh']; exact hep'.out, ?_⟩
            have h1 : Sat w0 _ (Ro w0 (.slice ua l.length uc) l :: _) := ((hS.ent (show Ent _ (RoLAt w0 (ad.add k) (.slice ua l.length uc) l :: Row 22 1 (.slice ra (j.records.length + 1) rc) (j.records.length + 1) (vs ++ [.slice ua l.length uc]) :: RoAll w0 (vs.zip j.records) :: isJ w0 b db j' :: isDrum db d' :: RoL w0 (.slice (some ad) rs.length c0) rs :: L) by (repeat (first | (with_reducible exact Ent.refl _) | ((with_reducible apply Ent.pull); (focus ((repeat (first | with_reducible exact Split.here | with_reducible apply Split.there)); done))) | (with_reducible apply Ent.skip)))))).rolAt_ro
            have h2 := recs_snoc hvs (h1.ent (by (repeat (first | (with_reducible exact Ent.refl _) | ((with_reducible apply Ent.pull); (focus ((repeat (first | with_reducible exact Split.here | with_reducible apply Split.there)); done)))))))
            rw [hr', List.length_append]
            exact h2
          case measure => simp [intOf]; omega
        case neg =>
          have hS := hS1
          clear hS1
          have hff := Lib.hid hf
          clear hf
          by_cases hk12 : k ≤ 12
          case pos =>
            have hk12' : (k : Int) ≤ 12 := by omega
            have hl5' : (500 : Int) < (l.length : Int) := by omega
            clear hgo
            go_wp2_with (((((with_reducible refine wpList_plain ?_ ?_); (focus rfl); intro K hK)); first | ((with_reducible refine' wp_index_any ?_ ?_ ?_ ?_ ?_ ?_ ?_ ?_); rotate_left 8; (focus rfl); (focus rfl); (focus (intro _; (simp; rfl))); (focus (intro _; (simp; rfl))); (focus (omega)); (focus (omega)); (focus (((simp only [Int.toNat_natCast, Int.reduceToNat, Nat.mul_one, Nat.zero_add, Nat.add_zero, Nat.reduceMul, Nat.reduceAdd]); rfl))); (refine hK _ _ ?_; clear hK K)) | ((with_reducible refine' wp_rol_load hS ?_ ?_ ?_ ?_); rotate_left 4; (focus rfl); (focus ((repeat (with_reducible exact Split.here)); done)); (focus (intro _; (simp; done))); (refine hK _ _ ?_; clear hK K))))
            go_meet
            case rel => exact ⟨j, d, a, c, hff.out, hep'.out, rfl, by (refine Sat.ent hS ?_; repeat (first | (with_reducible exact Ent.refl _) | ((with_reducible apply Ent.pull); (focus ((repeat (first | with_reducible exact Split.here | with_reducible apply Split.there)); done))) | (with_reducible apply Ent.skip)))⟩
          case neg =>
            have hk12' : (12 : Int) < (k : Int) := by omega
            clear hgo
            go_wp2_with (((((with_reducible refine wpList_plain ?_ ?_); (focus rfl); intro K hK)); first | ((with_reducible refine' wp_index_any ?_ ?_ ?_ ?_ ?_ ?_ ?_ ?_); rotate_left 8; (focus rfl); (focus rfl); (focus (intro _; (simp; rfl))); (focus (intro _; (simp; rfl))); (focus (omega)); (focus (omega)); (focus (((simp only [Int.toNat_natCast, Int.reduceToNat, Nat.mul_one, Nat.zero_add, Nat.add_zero, Nat.reduceMul, Nat.reduceAdd]); rfl))); (refine hK _ _ ?_; clear hK K)) | ((with_reducible refine' wp_rol_load hS ?_ ?_ ?_ ?_); rotate_left 4; (focus rfl); (focus ((repeat (with_reducible exact Split.here)); done)); (focus (intro _; (simp; done))); (refine hK _ _ ?_; clear hK K))))
            go_meet
            case rel => exact ⟨j, d, a, c, hff.out, hep'.out, rfl, by (refine Sat.ent hS ?_; repeat (first | (with_reducible exact Ent.refl _) | ((with_reducible apply Ent.pull); (focus ((repeat (first | with_reducible exact Split.here | with_reducible apply Split.there)); done))) | (with_reducible apply Ent.skip)))⟩
      case neg =>
        obtain rfl : k = rs.length := by omega
        have hff := Lib.hid hf
        clear hf
        go_wp2_with (fail)
        go_meet
        case rel => exact ⟨j, d, a, c, hff.out, hep'.out, rfl, by (refine Sat.ent hS ?_; repeat ((with_reducible exact Ent.refl _)))⟩
  case rest =>
    clear hS
    obtain ⟨j, d, a, c, hf, hep, rfl, hS1⟩ := hcut
    obtain ⟨want, hwant⟩ : ∃ want, want = j.records := ⟨_, rfl⟩
    have hS := hS1.rol
    clear hS1
    have hrest := hf.live.rest
    have hoff := hf.live.off
    have harm := hf.calm
    have hlef : d.left ≤ 0 := hf.left
    rw [hep] at hrest
    have Hep : Hid (∀ (w : World) (L : List Asn), Sat w0 w (isJ w0 b db j :: L) → Calls Tryd.prog 43 #[.pointer (some ⟨b, 0, none⟩)] w fun r w' => r = .returned (.int .i64 1) ∧ Sat w0 w' (isJ w0 b db j :: L)) := Lib.hid fun w L h => by
      have := epoch_any b db j w0 w L h
      rw [hep] at this
      exact this
    rw [← hwant] at hrest hS ⊢
    have hre := Lib.hid (And.intro hrest (And.intro hoff (And.intro harm hlef)))
    clear hf hep hwant hrest hoff harm hlef
    go_wp2_with ((go_at_call 43; ((with_reducible refine' (Hep.out _ _ (hS.split ?sg1x144)).mono ?sg3x144); (case sg1x144 => ((repeat (first | with_reducible exact Split.here | with_reducible apply Split.there)); done)); (case' sg3x144 => (rintro r4 w4 ⟨rfl, hS1⟩; (clear hS; have hS := hS1; clear hS1))))))
    go_loopw [73, 11] (fun i v wr => ∃ (k e : Nat) (d : Dr.Drum), k ≤ bs.length ∧ k ≤ 21 ∧ e = 1 + k ∧ i = .int .i64 k ∧ v = .int .i64 e ∧ Jr.Rest d want e (1 + k) ∧ d.off = false ∧ d.armed = false ∧ d.left ≤ 0 ∧ Sat w0 wr (isDrum db d :: RoL w0 (.slice a want.length c) want :: L)) (fun i _ _ => bs.length - (intOf i).toNat)
    case atStart => exact ⟨0, 1, d, by omega, by omega, rfl, rfl, rfl, hre.out.1, hre.out.2.1, hre.out.2.2.1, hre.out.2.2.2, by (refine Sat.ent hS ?_; repeat (first | (with_reducible exact Ent.refl _) | ((with_reducible apply Ent.pull); (focus ((repeat (first | with_reducible exact Split.here | with_reducible apply Split.there)); done))) | (with_reducible apply Ent.skip)))⟩
    case round =>
      clear hS hre Hep
      obtain ⟨k, e, d, hk, hk21, he, rfl, rfl, hre, hoff, harm, hlef, hS⟩ := hrel
      by_cases hlt : k < bs.length
      case neg =>
        obtain rfl : k = bs.length := by omega
        go_wp2_with (fail)
        go_ret
        exact ⟨rfl, by (refine Sat.ent hS ?_; repeat (first | (with_reducible exact Ent.refl _) | (with_reducible apply Ent.skip)))⟩
      obtain ⟨cu, hcu⟩ : ∃ c, bs[k]? = some c := ⟨bs[k], List.getElem?_eq_getElem hlt⟩
      obtain ⟨ad, rfl, hcell⟩ := Hbc.out k cu hcu
      clear hcu Hbc
      have hlt' : (k : Int) < (bs.length : Int) := by omega
      by_cases hk20 : k ≤ 20
      case neg =>
        have hk20' : (20 : Int) < (k : Int) := by omega
        go_wp2_with (((((with_reducible refine wpList_plain ?_ ?_); (focus rfl); intro K hK)); first | ((with_reducible refine' wp_index_any ?_ ?_ ?_ ?_ ?_ ?_ ?_ ?_); rotate_left 8; (focus rfl); (focus rfl); (focus (intro _; (simp; rfl))); (focus (intro _; (simp; rfl))); (focus (omega)); (focus (omega)); (focus (((simp only [Int.toNat_natCast, Int.reduceToNat, Nat.mul_one, Nat.zero_add, Nat.add_zero, Nat.reduceMul, Nat.reduceAdd]); rfl))); (refine hK _ _ ?_; clear hK K)) | ((with_reducible refine' wp_load_old hS ?_ ?_ ?_ ?_); rotate_left 2; (focus rfl); (focus (with_reducible assumption)); (focus (intro _; (simp; done))); (refine hK _ _ ?_; clear hK K))))
        go_ret
        exact ⟨rfl, by (refine Sat.ent hS ?_; repeat (first | (with_reducible exact Ent.refl _) | (with_reducible apply Ent.skip)))⟩
      have hk20' : (k : Int) ≤ 20 := by omega
      have hsm : ∀ (w : World) (L : List Asn) (v1 : Value), Sat w0 w (RoL w0 v1 want :: RoL w0 (.slice a want.length c) want :: L) → Calls Tryd.prog 41 #[v1, .slice a want.length c] w fun r w' => r = .returned (.bool true) ∧ Sat w0 w' (RoL w0 (.slice a want.length c) want :: L) := fun w L v1 h => by
        have h1 := (h.pick 1).dup (pers_rol _ _ _)
        have := sameLists_two w0 w (RoL w0 (.slice a want.length c) want :: L) v1 (.slice a want.length c) want want (by have := hre.ok.2.2.1; omega) (h1.ent (by (repeat (first | (with_reducible exact Ent.refl _) | ((with_reducible apply Ent.pull); (focus ((repeat (first | with_reducible exact Split.here | with_reducible apply Split.there)); done)))))))
        rw [show decide (want = want) = true from decide_eq_true rfl] at this
        exact this
      have Hsm := Lib.hid hsm
      have hrec : ∀ (b : Nat) (j : Jr.J) (w : World) (L : List Asn), j.records = want → Sat w0 w (isJ w0 b db j :: L) → Calls Tryd.prog 42 #[.pointer (some ⟨b, 0, none⟩)] w fun r w' => ∃ a c, r = .returned (.slice a want.length c) ∧ Sat w0 w' (RoL w0 (.slice a want.length c) want :: isJ w0 b db j :: L) := fun b j w L hr h => records_to b db j w0 w L hr (by have := hre.ok.2.2.1; omega) hre.ok.2.2.2 h
      have Hrec := Lib.hid hrec
      clear hsm hrec
      cases cu
      case false =>
        obtain ⟨j3, d3, hq3, f3, hn3, hr3, he3⟩ := hre.fit hoff harm (by omega)
        have Hop : Hid (∀ (w : World) (L : List Asn), Sat w0 w (isDrum db d :: L) → Calls Tryd.prog 38 #[.pointer (some ⟨db, 0, none⟩)] w fun r w' => ∃ b, r = .returned (.tuple #[.pointer (some ⟨b, 0, none⟩), .nilIface]) ∧ Sat w0 w' (isJ w0 b db j3 :: isDrum db d3 :: L)) := Lib.hid fun w L h => open_good E db d d3 j3 w0 w L hq3 hre.ok.1 (Nat.le_trans hlef (by decide)) hT hE h
        have Hep : Hid (∀ (b : Nat) (w : World) (L : List Asn), Sat w0 w (isJ w0 b db j3 :: L) → Calls Tryd.prog 43 #[.pointer (some ⟨b, 0, none⟩)] w fun r w' => r = .returned (.int .i64 ((e : Int) + 1)) ∧ Sat w0 w' (isJ w0 b db j3 :: L)) := Lib.hid fun b w L h => by
          have := epoch_any b db j3 w0 w L h
          rw [he3] at this
          exact this
        have Hx := Lib.hid (And.intro f3 (And.intro hr3 (And.intro he3 hlef)))
        clear hq3 f3 hn3 hr3 he3 hre hoff harm hlef
        have heb : (e : Int) ≤ 22 := by omega
        go_wp2_with (first | (go_at_call 38; ((with_reducible refine' (Hop.out _ _ (hS.split ?sc1x191)).mono ?sc3x191); (case sc1x191 => ((repeat (with_reducible exact Split.here)); done)); (case' sc3x191 => (rintro r4 w4 ⟨b3, rfl, hS1⟩; (clear hS; have hS := hS1; clear hS1))))) | (go_at_call 43; ((with_reducible refine' (Hep.out _ _ _ (hS.split ?sg1x192)).mono ?sg3x192); (case sg1x192 => ((repeat (with_reducible exact Split.here)); done)); (case' sg3x192 => (rintro r4 w4 ⟨rfl, hS1⟩; (clear hS; have hS := hS1; clear hS1))))) | (go_at_call 43; ((with_reducible refine' (Hep.out _ _ _ (hS.split ?sg1x193)).mono ?sg3x193); (case sg1x193 => ((repeat (first | with_reducible exact Split.here | with_reducible apply Split.there)); done)); (case' sg3x193 => (rintro r4 w4 ⟨rfl, hS1⟩; (clear hS; have hS := hS1; clear hS1))))) | (go_at_call 42; ((with_reducible refine' (Hrec.out _ _ _ _ Hx.out.2.1 (hS.split ?sf1x194)).mono ?sf3x194); (case sf1x194 => ((repeat (with_reducible exact Split.here)); done)); (case' sf3x194 => (rintro r4 w4 ⟨ra, rc, rfl, hS1⟩; (clear hS; have hS := hS1; clear hS1))))) | (go_at_call 41; ((with_reducible refine' (Hsm.out _ _ _ (hS.ent ?sh1x195)).mono ?sh4x195); (case sh1x195 => (repeat (first | (with_reducible exact Ent.refl _) | ((with_reducible apply Ent.pull); (focus ((repeat (first | with_reducible exact Split.here | with_reducible apply Split.there)); done)))))); (case' sh4x195 => (rintro r4 w4 ⟨rfl, hS1⟩; (clear hS; have hS := hS1; clear hS1))))) | ((first | ((with_reducible refine wpList_plain ?_ ?_); (focus rfl); intro K hK) | ((with_reducible refine wpList_runG ?_ ?_); (focus rfl); intro K hK)); first | ((with_reducible refine' wp_index_any ?_ ?_ ?_ ?_ ?_ ?_ ?_ ?_); rotate_left 8; (focus rfl); (focus rfl); (focus (intro _; (simp; rfl))); (focus (intro _; (simp; rfl))); (focus (omega)); (focus (omega)); (focus (((simp only [Int.toNat_natCast, Int.reduceToNat, Nat.mul_one, Nat.zero_add, Nat.add_zero, Nat.reduceMul, Nat.reduceAdd]); rfl))); (refine hK _ _ ?_; clear hK K)) | ((with_reducible refine' wp_load_old hS ?_ ?_ ?_ ?_); rotate_left 2; (focus rfl); (focus (with_reducible assumption)); (focus (intro _; (simp; done))); (refine hK _ _ ?_; clear hK K))))
        go_roundw
        case rel =>
          obtain ⟨f3, hr3, he3, hlef⟩ := Hx.out
          refine ⟨k + 1, e + 1, d3, by omega, by omega, by omega, by go_num, by go_num, ?_, f3.live.off, f3.calm, Nat.le_trans f3.left hlef, by (refine Sat.ent hS ?_; repeat (first | (with_reducible exact Ent.refl _) | ((with_reducible apply Ent.pull); (focus ((repeat (first | with_reducible exact Split.here | with_reducible apply Split.there)); done))) | (with_reducible apply Ent.skip)))⟩
          have h9 := f3.live.rest
          rw [hr3, he3] at h9
          exact h9
        case measure => simp [intOf]; omega
      case true =>
        obtain ⟨j2, d2, hq2, hr2, hl2, hn2⟩ := hre.cut hoff (by omega)
        obtain ⟨j3, d3, hq3, f3, hn3, hr3, he3⟩ := hr2.on.fit rfl rfl (by omega)
        have Hop1 : Hid (∀ (w : World) (L : List Asn), Sat w0 w (isDrum db (d.arm 0) :: L) → Calls Tryd.prog 38 #[.pointer (some ⟨db, 0, none⟩)] w fun r w' => r = .returned (.tuple #[.pointer none, .iface 182 (.pointer (some (E 6)))]) ∧ Sat w0 w' (isDrum db d2 :: L)) := Lib.hid fun w L h => open_bad E db (d.arm 0) d2 j2 w0 w L 5 hq2 (hre.arm 0).ok.1 (by show (0 : Nat) ≤ _; omega) hT hE h
        have Hop : Hid (∀ (w : World) (L : List Asn), Sat w0 w (isDrum db d2.on :: L) → Calls Tryd.prog 38 #[.pointer (some ⟨db, 0, none⟩)] w fun r w' => ∃ b, r = .returned (.tuple #[.pointer (some ⟨b, 0, none⟩), .nilIface]) ∧ Sat w0 w' (isJ w0 b db j3 :: isDrum db d3 :: L)) := Lib.hid fun w L h => open_good E db d2.on d3 j3 w0 w L hq3 hr2.on.ok.1 (by show (0 : Nat) ≤ _; omega) hT hE h
        have Hep : Hid (∀ (b : Nat) (w : World) (L : List Asn), Sat w0 w (isJ w0 b db j3 :: L) → Calls Tryd.prog 43 #[.pointer (some ⟨b, 0, none⟩)] w fun r w' => r = .returned (.int .i64 ((e : Int) + 1)) ∧ Sat w0 w' (isJ w0 b db j3 :: L)) := Lib.hid fun b w L h => by
          have := epoch_any b db j3 w0 w L h
          rw [he3] at this
          exact this
        have Harm : Hid (∀ (w : World) (L : List Asn), Sat w0 w (isDrum db d :: L) → Calls Tryd.prog 44 #[.pointer (some ⟨db, 0, none⟩), .int .i64 0] w fun r w' => r = .returned (.tuple #[]) ∧ Sat w0 w' (isDrum db (d.arm 0) :: L)) := Lib.hid fun w L h => arm_any db d 0 (by omega) w0 w L h
        have Hon : Hid (∀ (w : World) (L : List Asn), Sat w0 w (isDrum db d2 :: L) → Calls Tryd.prog 45 #[.pointer (some ⟨db, 0, none⟩)] w fun r w' => r = .returned (.tuple #[]) ∧ Sat w0 w' (isDrum db d2.on :: L)) := Lib.hid fun w L h => on_any db d2 w0 w L h
        have Hx := Lib.hid (And.intro f3 (And.intro hr3 he3))
        clear hq3 f3 hn3 hr3 he3 hre hoff harm hlef hq2 hr2 hl2 hn2
        have heb : (e : Int) ≤ 22 := by omega
        go_wp2_with (first | (go_at_call 38; ((with_reducible refine' (Hop.out _ _ (hS.split ?sc1x220)).mono ?sc3x220); (case sc1x220 => ((repeat (first | with_reducible exact Split.here | with_reducible apply Split.there)); done)); (case' sc3x220 => (rintro r4 w4 ⟨b3, rfl, hS1⟩; (clear hS; have hS := hS1; clear hS1))))) | (go_at_call 38; ((with_reducible refine' (Hop1.out _ _ (hS.split ?sc1x221)).mono ?sc3x221); (case sc1x221 => ((repeat (with_reducible exact Split.here)); done)); (case' sc3x221 => (rintro r4 w4 ⟨rfl, hS1⟩; (clear hS; have hS := hS1; clear hS1))))) | (go_at_call 44; ((with_reducible refine' (Harm.out _ _ (hS.split ?sc1x222)).mono ?sc3x222); (case sc1x222 => ((repeat (with_reducible exact Split.here)); done)); (case' sc3x222 => (rintro r4 w4 ⟨rfl, hS1⟩; (clear hS; have hS := hS1; clear hS1))))) | (go_at_call 45; ((with_reducible refine' (Hon.out _ _ (hS.split ?sc1x223)).mono ?sc3x223); (case sc1x223 => ((repeat (with_reducible exact Split.here)); done)); (case' sc3x223 => (rintro r4 w4 ⟨rfl, hS1⟩; (clear hS; have hS := hS1; clear hS1))))) | (go_at_call 43; ((with_reducible refine' (Hep.out _ _ _ (hS.split ?sg1x224)).mono ?sg3x224); (case sg1x224 => ((repeat (with_reducible exact Split.here)); done)); (case' sg3x224 => (rintro r4 w4 ⟨rfl, hS1⟩; (clear hS; have hS := hS1; clear hS1))))) | (go_at_call 43; ((with_reducible refine' (Hep.out _ _ _ (hS.split ?sg1x225)).mono ?sg3x225); (case sg1x225 => ((repeat (first | with_reducible exact Split.here | with_reducible apply Split.there)); done)); (case' sg3x225 => (rintro r4 w4 ⟨rfl, hS1⟩; (clear hS; have hS := hS1; clear hS1))))) | (go_at_call 42; ((with_reducible refine' (Hrec.out _ _ _ _ Hx.out.2.1 (hS.split ?sf1x226)).mono ?sf3x226); (case sf1x226 => ((repeat (with_reducible exact Split.here)); done)); (case' sf3x226 => (rintro r4 w4 ⟨ra, rc, rfl, hS1⟩; (clear hS; have hS := hS1; clear hS1))))) | (go_at_call 41; ((with_reducible refine' (Hsm.out _ _ _ (hS.ent ?sh1x227)).mono ?sh4x227); (case sh1x227 => (repeat (first | (with_reducible exact Ent.refl _) | ((with_reducible apply Ent.pull); (focus ((repeat (first | with_reducible exact Split.here | with_reducible apply Split.there)); done)))))); (case' sh4x227 => (rintro r4 w4 ⟨rfl, hS1⟩; (clear hS; have hS := hS1; clear hS1))))) | ((first | ((with_reducible refine wpList_plain ?_ ?_); (focus rfl); intro K hK) | ((with_reducible refine wpList_runG ?_ ?_); (focus rfl); intro K hK)); first | ((with_reducible refine' wp_index_any ?_ ?_ ?_ ?_ ?_ ?_ ?_ ?_); rotate_left 8; (focus rfl); (focus rfl); (focus (intro _; (simp; rfl))); (focus (intro _; (simp; rfl))); (focus (omega)); (focus (omega)); (focus (((simp only [Int.toNat_natCast, Int.reduceToNat, Nat.mul_one, Nat.zero_add, Nat.add_zero, Nat.reduceMul, Nat.reduceAdd]); rfl))); (refine hK _ _ ?_; clear hK K)) | ((with_reducible refine' wp_err_ne (E := E) ?_ ?_ ?_); rotate_left 1; (focus rfl); (focus rfl); (refine hK _ _ ?_; clear hK K)) | ((with_reducible refine' wp_load_old hS ?_ ?_ ?_ ?_); rotate_left 2; (focus rfl); (focus (with_reducible assumption)); (focus (intro _; (simp; done))); (refine hK _ _ ?_; clear hK K))))
        go_roundw
        case rel =>
          obtain ⟨f3, hr3, he3⟩ := Hx.out
          refine ⟨k + 1, e + 1, d3, by omega, by omega, by omega, by go_num, by go_num, ?_, f3.live.off, f3.calm, f3.left, by (refine Sat.ent hS ?_; repeat (first | (with_reducible exact Ent.refl _) | ((with_reducible apply Ent.pull); (focus ((repeat (first | with_reducible exact Split.here | with_reducible apply Split.there)); done))) | (with_reducible apply Ent.skip)))⟩
          have h9 := f3.live.rest
          rw [hr3, he3] at h9
          exact h9
        case measure => simp [intOf]; omega
end
end Go.Proofs.YtndnojbpapjdoaaDoor
