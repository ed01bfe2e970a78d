/- The law JournalCuts walked. -/
import Derived.Test.YtndnojbpapjdoaaDoorJsG
set_option linter.unusedSimpArgs false
set_option linter.unusedVariables false
set_option linter.unusedSectionVars false
namespace Go.Proofs.YtndnojbpapjdoaaDoor
open Go.Sp Go.RowKit Go.Fld Go.Sha Go.Dr Go.Jr

section
variable (E : Nat → Addr) (w0 w : World) (L : List Asn)
set_option maxRecDepth 100000 in
set_option maxHeartbeats 8000000 in
theorem cuts_law (hT : Table w0) (hEr : Errs E w0) (v0 v1 : Value) (rs : List (List UInt8)) (la : List UInt8) (cmp : Bool) (hn : rs.length ≤ 140737488355328) (hS : Sat w0 w (RoL w0 v0 rs :: Ro w0 v1 la :: L)) :
    Calls Tryd.prog 12 #[v0, v1, .bool cmp] w fun r w' => r = .returned (.bool true) ∧ Sat w0 w' L := by
  have hE := hEr.jr
  have hg6 := hE.dr.power
  obtain ⟨a0, c0, rfl, _, _, hs0⟩ := hS.rol_len
  obtain ⟨sa, sc, rfl, _⟩ := hS.drop.ro_reads
  have Hal : Hid (∀ (w : World) (L : List Asn), Sat w0 w L → Calls Tryd.prog 36 #[] w fun r w' => r = .returned (.bool true) ∧ Sat w0 w' L) := Lib.hid fun w L h => alive_ok E w0 w L hT hE h
  by_cases hsl : la.length ≤ 600
  case neg =>
    have hsl' : (600 : Int) < (la.length : Int) := by omega
    go_enter Tryd.func12, Tryd.ntmps12
    go_wp2_with ((go_at_call 36; ((with_reducible refine' (Hal.out _ _ hS).mono ?sa1x21); (case' sa1x21 => (rintro r4 w4 ⟨rfl, hS1⟩; (clear hS; have hS := hS1; clear hS1))))))
    go_ret
    exact ⟨rfl, hS.drop.drop⟩
  have hsl' : (la.length : Int) ≤ 600 := by omega
  have Hnew : Hid (∀ (w : World) (L : List Asn), Sat w0 w L → Calls Tryd.prog 37 #[.int .i64 200] w fun r w' => ∃ b, r = .returned (.tuple #[.pointer (some ⟨b, 0, none⟩), .nilIface]) ∧ Sat w0 w' (isDrum b (Drum.new 200) :: L)) := Lib.hid fun w L h => new_ok 200 (by decide) (by decide) w0 w L h
  obtain ⟨j1, d1, hq1, f1, hn1, hr1, hu1, he1, -⟩ := format_fit (n := 200) (l := sBegin) (by omega) (by omega) (by decide) (by decide)
  have Hfm : Hid (∀ (db : Nat) (w : World) (L : List Asn) (bv : Value), Sat w0 w (isDrum db (Drum.new 200) :: L) → Under w0 L bv sBegin → Calls Tryd.prog 39 #[.pointer (some ⟨db, 0, none⟩), bv] w fun r w' => ∃ b, r = .returned (.tuple #[.pointer (some ⟨b, 0, none⟩), .nilIface]) ∧ Sat w0 w' (isJ w0 b db j1 :: isDrum db d1 :: L)) := Lib.hid fun db w L bv h hr => format_good E db _ d1 j1 w0 w L bv sBegin hq1 (by decide) (new_fresh (by decide)) (by decide) hT hE h hr
  have Hx1 := Lib.hid (And.intro f1 (And.intro hn1 (And.intro hr1 (And.intro hu1 he1))))
  have hnS := Lib.hid hn
  have hslS := Lib.hid hsl
  clear hq1 f1 hn1 hr1 hu1 he1 hn hsl
  go_enter Tryd.func12, Tryd.ntmps12
  go_wp2_with ((go_at_call 36; ((with_reducible refine' (Hal.out _ _ hS).mono ?sa1x35); (case' sa1x35 => (rintro r4 w4 ⟨rfl, hS1⟩; (clear hS; have hS := hS1; clear hS1))))))
  go_loopw [7] (fun i wr => ∃ (cut : Nat), cut ≤ 20 ∧ i = .int .i64 cut ∧ Sat w0 wr (RoL w0 (.slice a0 rs.length c0) rs :: Ro w0 (.slice sa la.length sc) la :: L)) (fun i _ => 20 - (intOf i).toNat)
  case atStart => exact ⟨0, by omega, rfl, hS⟩
  case round =>
    clear hS
    obtain ⟨cut, hcut, rfl, hS⟩ := hrel
    by_cases hlt : cut < 20
    case neg =>
      obtain rfl : cut = 20 := by omega
      go_wp2_with (fail)
      go_ret
      exact ⟨rfl, by (refine Sat.ent hS ?_; repeat (first | (with_reducible exact Ent.refl _) | (with_reducible apply Ent.skip)))⟩
    have hlt' : (cut : Int) < 20 := by omega
    have hcut' := Lib.hid hlt
    clear hcut hlt
    go_upto_block 2 with (first | (go_at_call 37; ((with_reducible refine' (Hnew.out _ _ hS).mono ?snx53); (case' snx53 => (rintro r4 w4 ⟨db, rfl, hS1⟩; (clear hS; have hS := hS1; clear hS1))))) | (go_at_call 39; ((with_reducible refine' (Hfm.out _ _ _ _ (hS.split ?sd1x54) (under_own ?sd2x54)).mono ?sd3x54); (case sd1x54 => ((repeat (first | with_reducible exact Split.here | with_reducible apply Split.there)); done)); (case sd2x54 => ((repeat (with_reducible exact Split.here)); done)); (case' sd3x54 => (rintro r4 w4 ⟨b, rfl, hS1⟩; (clear hS; have hS := hS1; clear hS1))))) | ((first | ((with_reducible refine wpList_plain ?_ ?_); (focus rfl); intro K hK) | ((with_reducible refine wpList_runG ?_ ?_); (focus rfl); intro K hK)); (with_reducible refine' wp_slice_lit (t := 22) (cs := ((sBegin : List UInt8).map B).toArray) hS ?_ ?_ ?_ ?_ ?_ ?_ ?_ ?_); rotate_left 4; (focus (intro _; (simp; rfl))); (focus (intro _; (simp; rfl))); (focus (intro _; (simp; rfl))); (focus decide); (focus decide); (focus rfl); (focus kernel_rfl); intro w' b'; clear hS; intro hS; (refine hK _ _ ?_; clear hK K)) | ((first | ((with_reducible refine wpList_plain ?_ ?_); (focus rfl); intro K hK) | ((with_reducible refine wpList_runG ?_ ?_); (focus rfl); intro K hK)); (with_reducible refine' wp_lit_conv (l := sBegin) hS ?_ ?_ ?_ ?_ ?_ ?_ ?_); rotate_left 5; (focus rfl); (focus ((repeat (with_reducible exact Split.here)); done)); (focus rfl); (focus ((simp; rfl))); (focus ((simp; done))); (focus decide); intro w'; clear hS; intro hS; (refine hK _ _ ?_; clear hK K)) | ((first | ((with_reducible refine wpList_plain ?_ ?_); (focus rfl); intro K hK) | ((with_reducible refine wpList_runG ?_ ?_); (focus rfl); intro K hK)); ((with_reducible refine' wp_lit1 hS ?_ ?_ ?_ ?_ ?_ ?_); rotate_left 3; (focus (intro _; (simp; rfl))); (focus (intro _; (simp; done))); (focus (intro _; (simp; rfl))); (focus (conv => lhs; whnf)); (focus rfl); intro w' b'; clear hS; intro hS; (refine hK _ _ ?_; clear hK K))))
    have hS1 := recs_one ((hS.pick 1).ro.ent (Ent.pick 1 _))
    clear hS
    have hS := hS1
    clear hS1
    go_cut [11] (fun v wc => ∃ (j : Jr.J) (d : Dr.Drum) (a : Option Addr) (c : Nat), Fit j d 1 0 ∧ d.n = 200 ∧ j.used ≤ 29 ∧ j.head.epoch = 1 ∧ v = .slice a j.records.length c ∧ Sat w0 wc (Recs w0 (.slice a j.records.length c) j.records :: isJ w0 b db j :: isDrum db d :: RoL w0 (.slice a0 rs.length c0) rs :: Ro w0 (.slice sa la.length sc) la :: L))
    case first =>
      go_wp2_with (fail)
      go_loopw [56, 11] (fun i v wr => ∃ (k : Nat) (j : Jr.J) (d : Dr.Drum) (a : Option Addr) (c : Nat), k ≤ rs.length ∧ i = .int .i64 k ∧ v = .slice a j.records.length c ∧ Fit j d 1 0 ∧ d.n = 200 ∧ j.used ≤ 1 + 7 * min k 4 ∧ j.head.epoch = 1 ∧ Sat w0 wr (Recs w0 (.slice a j.records.length c) j.records :: isJ w0 b db j :: isDrum db d :: RoL w0 (.slice a0 rs.length c0) rs :: Ro w0 (.slice sa la.length sc) la :: L)) (fun i _ _ => rs.length - (intOf i).toNat)
      case atStart =>
        obtain ⟨f1, hn1, hr1, hu1, he1⟩ := Hx1.out
        refine ⟨0, j1, d1, _, _, by omega, rfl, by rw [hr1]; rfl, f1, hn1, by rw [hu1]; decide, he1, ?_⟩
        rw [hr1]
        show Sat w0 _ (Recs w0 (.slice (some ⟨b', 0, none⟩) 1 1) [sBegin] :: _ :: _ :: _ :: _)
        exact hS.ent (by (repeat (first | (with_reducible exact Ent.refl _) | ((with_reducible apply Ent.pull); (focus ((repeat (first | with_reducible exact Split.here | with_reducible apply Split.there)); done))) | (with_reducible apply Ent.skip))))
      case round =>
        clear hS
        obtain ⟨k, j, d, a, c, hk, rfl, rfl, hf, hdn, hu, hep, hS⟩ := hrel
        have hep' := Lib.hid hep
        have hrl := hf.live.len.1
        have hdn' := Lib.hid hdn
        have huS := Lib.hid hu
        clear hep hdn hu
        by_cases hlt : k < rs.length
        case neg =>
          obtain rfl : k = rs.length := by omega
          have hff := Lib.hid hf
          clear hf
          go_wp2_with (fail)
          go_meet
          case rel => exact ⟨j, d, a, c, hff.out, hdn'.out, by have := huS.out; omega, hep'.out, rfl, by (refine Sat.ent hS ?_; repeat ((with_reducible exact Ent.refl _)))⟩
        obtain ⟨l, hl⟩ : ∃ l, rs[k]? = some l := ⟨rs[k], List.getElem?_eq_getElem hlt⟩
        obtain ⟨ad, u, rfl, hS1⟩ := (hS.pick 3).rolAt hl
        obtain ⟨ua, uc, rfl, huc⟩ := hS1.rolAt_ro.ro_reads
        clear hS hs0
        have hlt' : (k : Int) < (rs.length : Int) := by omega
        clear hl
        by_cases hgo : k < 4 ∧ l.length ≤ 300
        case pos =>
          obtain ⟨hk4, hl3⟩ := hgo
          have hk4' : (k : Int) < 4 := by omega
          have hl3' : (l.length : Int) ≤ 300 := by omega
          obtain ⟨j', d', hq, hf', hn', hr', hu', hh'⟩ := hf.append (l := l) (by omega) (by omega) (by rw [hdn'.out]; have := huS.out; unfold need half; omega)
          have Hap : Hid (∀ (w : World) (L : List Asn) (bv : Value), Sat w0 w (isJ w0 b db j :: isDrum db d :: L) → Under w0 L bv l → Calls Tryd.prog 40 #[.pointer (some ⟨b, 0, none⟩), bv] w fun r w' => r = .returned .nilIface ∧ Sat w0 w' (isJ w0 b db j' :: isDrum db d' :: L)) := Lib.hid fun w L bv h hr => append_to E b db d d' j j' w0 w L 0 bv l hq (by omega) hf.ok.1 (Nat.le_trans hf.left (by decide)) hf.ok.2 (live_jok hf.live (by omega)) hT hE h hr
          have Hx := Lib.hid (And.intro hf' (And.intro hn' (And.intro hr' (And.intro hu' hh'))))
          have hk4S := Lib.hid (And.intro hk4 hl3)
          clear hq hf' hn' hr' hu' hh' hf hk4 hl3
          obtain ⟨vs, hvs, hS⟩ := recs_open (hS1.ent (show Ent _ (Recs w0 (.slice a j.records.length c) j.records :: RoLAt w0 (ad.add k) (.slice ua l.length uc) l :: RoL w0 (.slice (some ad) rs.length c0) rs :: isJ w0 b db j :: isDrum db d :: Ro w0 (.slice sa la.length sc) la :: L) by (repeat (first | (with_reducible exact Ent.refl _) | ((with_reducible apply Ent.pull); (focus ((repeat (first | with_reducible exact Split.here | with_reducible apply Split.there)); done)))))))
          clear hS1
          go_wp2_with (first | (go_at_call 40; ((with_reducible refine' (Hap.out _ _ _ (hS.ent ?sa1x109) (under_rolAt ?sa2x109)).mono ?sa3x109); (case sa1x109 => (repeat (first | (with_reducible exact Ent.refl _) | ((with_reducible apply Ent.pull); (focus ((repeat (first | with_reducible exact Split.here | with_reducible apply Split.there)); done)))))); (case sa2x109 => ((repeat (first | with_reducible exact Split.here | with_reducible apply Split.there)); done)); (case' sa3x109 => (rintro r4 w4 ⟨rfl, hS1⟩; (clear hS; have hS := hS1; clear hS1))))) | ((first | ((with_reducible refine wpList_plain ?_ ?_); (focus rfl); intro K hK) | ((with_reducible refine wpList_runG ?_ ?_); (focus rfl); intro K hK)); first | ((with_reducible refine' wp_index_any ?_ ?_ ?_ ?_ ?_ ?_ ?_ ?_); rotate_left 8; (focus rfl); (focus rfl); (focus (intro _; (simp; rfl))); (focus (intro _; (simp; rfl))); (focus (omega)); (focus (omega)); (focus (((simp only [Int.toNat_natCast, Int.reduceToNat, Nat.mul_one, Nat.zero_add, Nat.add_zero, Nat.reduceMul, Nat.reduceAdd]); rfl))); (refine hK _ _ ?_; clear hK K)) | ((with_reducible refine' wp_rol_load hS ?_ ?_ ?_ ?_); rotate_left 4; (focus rfl); (focus ((repeat (first | with_reducible exact Split.here | with_reducible apply Split.there)); done)); (focus (intro _; (simp; done))); (refine hK _ _ ?_; clear hK K)) | ((with_reducible refine' wp_append_row (m := 1) (news := [.slice ua l.length uc]) slRec (hS.split ?raax110) ?rbax110 ?rcax110 ?rdax110 ?reax110 ?rfax110 ?rgax110); (case raax110 => ((repeat (first | with_reducible exact Split.here | with_reducible apply Split.there)); done)); (case rbax110 => rfl); (case rcax110 => rfl); (case rdax110 => (exact srcOne hS (by ((repeat (with_reducible exact Split.here)); done)) rfl)); (case reax110 => (unfold maxLen; omega)); (case rfax110 => omega); (case' rgax110 => (intro v' w'; clear hS; intro hS; obtain ⟨ra, rc, rfl, -⟩ := hS.row_len; (refine hK _ _ ?_; clear hK K)))) | ((with_reducible refine' wp_lit1 hS ?_ ?_ ?_ ?_ ?_ ?_); rotate_left 3; (focus (intro _; (simp; rfl))); (focus (intro _; (simp; done))); (focus (intro _; (simp; rfl))); (focus (conv => lhs; whnf)); (focus rfl); intro w' b'; clear hS; intro hS; (refine hK _ _ ?_; clear hK K))))
          go_roundw
          case rel =>
            obtain ⟨hf', hn', hr', hu', hh'⟩ := Hx.out
            refine ⟨k + 1, j', d', ra, rc, by omega, by go_num, by rw [hr', List.length_append]; rfl, hf', hn'.trans hdn'.out, by have := huS.out; have := hk4S.out; rw [hu']; unfold need; omega, by rw [hh']; exact hep'.out, ?_⟩
            have h1 : Sat w0 _ (Ro w0 (.slice ua l.length uc) l :: _) := ((hS.ent (show Ent _ (RoLAt w0 (ad.add k) (.slice ua l.length uc) l :: Row 22 1 (.slice ra (j.records.length + 1) rc) (j.records.length + 1) (vs ++ [.slice ua l.length uc]) :: RoAll w0 (vs.zip j.records) :: isJ w0 b db j' :: isDrum db d' :: RoL w0 (.slice (some ad) rs.length c0) rs :: Ro w0 (.slice sa la.length sc) la :: L) by (repeat (first | (with_reducible exact Ent.refl _) | ((with_reducible apply Ent.pull); (focus ((repeat (first | with_reducible exact Split.here | with_reducible apply Split.there)); done))) | (with_reducible apply Ent.skip)))))).rolAt_ro
            have h2 := recs_snoc hvs (h1.ent (by (repeat (first | (with_reducible exact Ent.refl _) | ((with_reducible apply Ent.pull); (focus ((repeat (first | with_reducible exact Split.here | with_reducible apply Split.there)); done)))))))
            rw [hr', List.length_append]
            exact h2
          case measure => simp [intOf]; omega
        case neg =>
          have hS := hS1
          clear hS1
          have hff := Lib.hid hf
          clear hf
          have hkb : (k : Int) + 1 ≤ 9223372036854775807 := by have := hnS.out; omega
          by_cases hk4 : k < 4
          case pos =>
            have hk4' : (k : Int) < 4 := by omega
            have hl3' : ¬ ((l.length : Int) ≤ 300) := by omega
            clear hgo hk4
            go_wp2_with (((first | ((with_reducible refine wpList_plain ?_ ?_); (focus rfl); intro K hK) | ((with_reducible refine wpList_runG ?_ ?_); (focus rfl); intro K hK)); first | ((with_reducible refine' wp_index_any ?_ ?_ ?_ ?_ ?_ ?_ ?_ ?_); rotate_left 8; (focus rfl); (focus rfl); (focus (intro _; (simp; rfl))); (focus (intro _; (simp; rfl))); (focus (omega)); (focus (omega)); (focus (((simp only [Int.toNat_natCast, Int.reduceToNat, Nat.mul_one, Nat.zero_add, Nat.add_zero, Nat.reduceMul, Nat.reduceAdd]); rfl))); (refine hK _ _ ?_; clear hK K)) | ((with_reducible refine' wp_rol_load hS ?_ ?_ ?_ ?_); rotate_left 4; (focus rfl); (focus ((repeat (with_reducible exact Split.here)); done)); (focus (intro _; (simp; done))); (refine hK _ _ ?_; clear hK K))))
            go_roundw
            case rel => exact ⟨k + 1, j, d, a, c, by omega, by go_num, rfl, hff.out, hdn'.out, by have := huS.out; omega, hep'.out, by (refine Sat.ent hS ?_; repeat (first | (with_reducible exact Ent.refl _) | ((with_reducible apply Ent.pull); (focus ((repeat (first | with_reducible exact Split.here | with_reducible apply Split.there)); done))) | (with_reducible apply Ent.skip)))⟩
            case measure => simp [intOf]; omega
          case neg =>
            have hk4' : ¬ ((k : Int) < 4) := by omega
            clear hgo hk4
            go_wp2_with (((((with_reducible refine wpList_plain ?_ ?_); (focus rfl); intro K hK)); first | ((with_reducible refine' wp_index_any ?_ ?_ ?_ ?_ ?_ ?_ ?_ ?_); rotate_left 8; (focus rfl); (focus rfl); (focus (intro _; (simp; rfl))); (focus (intro _; (simp; rfl))); (focus (omega)); (focus (omega)); (focus (((simp only [Int.toNat_natCast, Int.reduceToNat, Nat.mul_one, Nat.zero_add, Nat.add_zero, Nat.reduceMul, Nat.reduceAdd]); rfl))); (refine hK _ _ ?_; clear hK K)) | ((with_reducible refine' wp_rol_load hS ?_ ?_ ?_ ?_); rotate_left 4; (focus rfl); (focus ((repeat (with_reducible exact Split.here)); done)); (focus (intro _; (simp; done))); (refine hK _ _ ?_; clear hK K))))
            go_roundw
            case rel => exact ⟨k + 1, j, d, a, c, by omega, by go_num, rfl, hff.out, hdn'.out, by have := huS.out; omega, hep'.out, by (refine Sat.ent hS ?_; repeat (first | (with_reducible exact Ent.refl _) | ((with_reducible apply Ent.pull); (focus ((repeat (first | with_reducible exact Split.here | with_reducible apply Split.there)); done))) | (with_reducible apply Ent.skip)))⟩
            case measure => simp [intOf]; omega
    case rest =>
      clear hS
      obtain ⟨j, d, a, c, hf, hdn, hu, hep, rfl, hS1⟩ := hcut
      obtain ⟨vs, hvs, hS⟩ := recs_open hS1
      clear hS1
      have hone := Lib.hid (roAll_one (hS.pick 1) hvs)
      have hrl := hf.live.len.1
      have Harm : Hid (∀ (w : World) (L : List Asn), Sat w0 w (isDrum db d :: L) → Calls Tryd.prog 44 #[.pointer (some ⟨db, 0, none⟩), .int .i64 (cut : Int)] w fun r w' => r = .returned (.tuple #[]) ∧ Sat w0 w' (isDrum db (d.arm (cut : Int)) :: L)) := Lib.hid fun w L h => arm_any db d (cut : Int) (by have := hcut'.out; omega) w0 w L h
      have hfS := Lib.hid (And.intro hf (And.intro hdn (And.intro hu hep)))
      clear hf hdn hu hep
      go_upto_if 86 with (first | (go_at_call 44; ((with_reducible refine' (Harm.out _ _ (hS.split ?sc1x155)).mono ?sc3x155); (case sc1x155 => ((repeat (first | with_reducible exact Split.here | with_reducible apply Split.there)); done)); (case' sc3x155 => (rintro r4 w4 ⟨rfl, hS1⟩; (clear hS; have hS := hS1; clear hS1))))) | ((((with_reducible refine wpList_plain ?_ ?_); (focus rfl); intro K hK)); (with_reducible refine' wp_lit_row (t := 60) (e' := 22) hS ?_ ?_ ?_); rotate_left 2; (focus (intro _; (simp; rfl))); (focus (intro _; (simp; rfl))); intro w' b'; clear hS; intro hS; (refine hK _ _ ?_; clear hK K)) | ((((with_reducible refine wpList_plain ?_ ?_); (focus rfl); intro K hK)); first | ((with_reducible refine' wp_append_row (m := j.records.length) (news := vs) slRec (hS.split ?raax157) ?rbax157 ?rcax157 ?rdax157 ?reax157 ?rfax157 ?rgax157); (case raax157 => ((repeat (with_reducible exact Split.here)); done)); (case rbax157 => rfl); (case rcax157 => rfl); (case rdax157 => (exact srcRow hS (by ((repeat (first | with_reducible exact Split.here | with_reducible apply Split.there)); done)) hone.out)); (case reax157 => (unfold maxLen; omega)); (case rfax157 => omega); (case' rgax157 => (intro v' w'; clear hS; intro hS; simp only [Nat.zero_add, List.nil_append] at hS; obtain ⟨ra, rc, rfl, -⟩ := hS.row_len; (refine hK _ _ ?_; clear hK K)))) | ((with_reducible refine' wp_append_row (m := 1) (news := [.slice sa la.length sc]) slRec (hS.split ?rabx157) ?rbbx157 ?rcbx157 ?rdbx157 ?rebx157 ?rfbx157 ?rgbx157); (case rabx157 => ((repeat (first | with_reducible exact Split.here | with_reducible apply Split.there)); done)); (case rbbx157 => rfl); (case rcbx157 => rfl); (case rdbx157 => (exact srcOne hS (by ((repeat (with_reducible exact Split.here)); done)) rfl)); (case rebx157 => (unfold maxLen; omega)); (case rfbx157 => omega); (case' rgbx157 => (intro v' w'; clear hS; intro hS; obtain ⟨ra, rc, rfl, -⟩ := hS.row_len; (refine hK _ _ ?_; clear hK K)))) | ((with_reducible refine' wp_lit1 hS ?_ ?_ ?_ ?_ ?_ ?_); rotate_left 3; (focus (intro _; (simp; rfl))); (focus (intro _; (simp; done))); (focus (intro _; (simp; rfl))); (focus (conv => lhs; whnf)); (focus rfl); intro w' b'; clear hS; intro hS; (refine hK _ _ ?_; clear hK K))))
      clear Harm
      obtain ⟨hf, hdn, hu, hep⟩ := hfS.out
      have hS1 := hS.ent (show Ent _ (RoAll w0 (vs.zip j.records) :: Row 22 1 (.slice ra (j.records.length + 1) rc) (j.records.length + 1) (vs ++ [.slice sa la.length sc]) :: Row 22 1 (.slice a j.records.length c) j.records.length vs :: Ro w0 (.slice sa la.length sc) la :: isJ w0 b db j :: isDrum db (d.arm (cut : Int)) :: RoL w0 (.slice a0 rs.length c0) rs :: L) by (repeat (first | (with_reducible exact Ent.refl _) | ((with_reducible apply Ent.pull); (focus ((repeat (first | with_reducible exact Split.here | with_reducible apply Split.there)); done))) | (with_reducible apply Ent.skip))))
      have hS2 := recs_shut vs hvs ((hS1.dup (pers_roAll _ _)).ent (show Ent _ (Row 22 1 (.slice a j.records.length c) j.records.length vs :: RoAll w0 (vs.zip j.records) :: Ro w0 (.slice sa la.length sc) la :: RoAll w0 (vs.zip j.records) :: Row 22 1 (.slice ra (j.records.length + 1) rc) (j.records.length + 1) (vs ++ [.slice sa la.length sc]) :: isJ w0 b db j :: isDrum db (d.arm (cut : Int)) :: RoL w0 (.slice a0 rs.length c0) rs :: L) by (repeat (first | (with_reducible exact Ent.refl _) | ((with_reducible apply Ent.pull); (focus ((repeat (first | with_reducible exact Split.here | with_reducible apply Split.there)); done)))))))
      have hS3 := ((hS2.pick 1).dup (pers_ro _ _ _)).ent (show Ent _ (Row 22 1 (.slice ra (j.records.length + 1) rc) (j.records.length + 1) (vs ++ [.slice sa la.length sc]) :: RoAll w0 (vs.zip j.records) :: Ro w0 (.slice sa la.length sc) la :: Recs w0 (.slice a j.records.length c) j.records :: Ro w0 (.slice sa la.length sc) la :: isJ w0 b db j :: isDrum db (d.arm (cut : Int)) :: RoL w0 (.slice a0 rs.length c0) rs :: L) by (repeat (first | (with_reducible exact Ent.refl _) | ((with_reducible apply Ent.pull); (focus ((repeat (first | with_reducible exact Split.here | with_reducible apply Split.there)); done))))))
      have hS4 := (((recs_snoc hvs hS3).rol).pick 1).rol
      clear hS hS1 hS2 hS3
      have hS := hS4
      clear hS4
      obtain ⟨bef, hbef⟩ : ∃ bef, bef = j.records := ⟨_, rfl⟩
      have haft : j.records.length + 1 = (bef ++ [la]).length := by rw [hbef, List.length_append]; rfl
      rw [haft, ← hbef] at hS ⊢
      have hrest := hf.live.rest
      have hbl : bef.length ≤ 4096 ∧ ∀ l ∈ bef, l.length ≤ 2000 := by rw [hbef]; exact ⟨hf.live.len.1, hf.live.len.2.1⟩
      obtain ⟨e1, k1, d1', hq1, hkp1, hcs1⟩ := (hf.live.arm (cut : Int)).compactE (l := la) (by omega) (by have := hslS.out; omega) (by show need la.length ≤ half d.n; rw [hdn]; have := hslS.out; unfold need half; omega)
      obtain ⟨e2, k2, d2', hq2, hkp2, hcs2⟩ := (hf.live.arm (cut : Int)).appendE (l := la) (by omega) (by have := hslS.out; omega)
      have hleft : (d.arm (cut : Int)).left ≤ 20 := by
        show (if (cut : Int) < 0 then (0 : Int) else (cut : Int)).toNat ≤ 20
        have := hcut'.out
        rw [if_neg (by omega)]
        omega
      have harm := hf.live.arm (cut : Int)
      have Hcp : Hid (∀ (w : World) (L : List Asn) (bv : Value), Sat w0 w (isJ w0 b db j :: isDrum db (d.arm (cut : Int)) :: L) → Under w0 L bv la → Calls Tryd.prog 48 #[.pointer (some ⟨b, 0, none⟩), bv] w fun r w' => r = .returned (erv E e1) ∧ Sat w0 w' (isJ w0 b db k1 :: isDrum db d1' :: L)) := Lib.hid fun w L bv h hr => compact_to E b db _ d1' j k1 w0 w L e1 bv la hq1 (by have := hslS.out; omega) harm.bears.ok (Nat.le_trans hleft (by decide)) harm.bears.n (live_jok harm (by omega)) hT hE h hr
      have Hap : Hid (∀ (w : World) (L : List Asn) (bv : Value), Sat w0 w (isJ w0 b db j :: isDrum db (d.arm (cut : Int)) :: L) → Under w0 L bv la → Calls Tryd.prog 40 #[.pointer (some ⟨b, 0, none⟩), bv] w fun r w' => r = .returned (erv E e2) ∧ Sat w0 w' (isJ w0 b db k2 :: isDrum db d2' :: L)) := Lib.hid fun w L bv h hr => append_to E b db _ d2' j k2 w0 w L e2 bv la hq2 (by have := hslS.out; omega) harm.bears.ok (Nat.le_trans hleft (by decide)) harm.bears.n (live_jok harm (by omega)) hT hE h hr
      have Hc1 : Hid ((e1 = 0 ∧ Jr.Rest d1' [la] 1 2) ∨ (e1 = 6 ∧ k1.dead = true ∧ Jr.Rest d1' bef 1 2)) := Lib.hid (by
        rcases hcs1 with ⟨h1, h2, _⟩ | ⟨h1, h2, h3⟩
        · exact .inl ⟨h1, by rw [hep] at h2; exact h2⟩
        · exact .inr ⟨h1, h2, by rw [hep, ← hbef] at h3; exact h3⟩)
      have Hc2 : Hid ((e2 = 0 ∧ Jr.Rest d2' (bef ++ [la]) 1 2) ∨ (e2 = 6 ∧ k2.dead = true ∧ Jr.Rest d2' bef 1 2)) := Lib.hid (by
        rcases hcs2 with ⟨h1, h2, _⟩ | ⟨h1, h2, h3⟩ | ⟨_, _, _, h4⟩
        · exact .inl ⟨h1, by rw [hep, ← hbef] at h2; exact h2⟩
        · exact .inr ⟨h1, h2, by rw [hep, ← hbef] at h3; exact h3⟩
        · have h5 : half (d.arm (cut : Int)).n = half d.n := rfl
          rw [h5, hdn] at h4
          have := hslS.out
          unfold need half at h4
          omega)
      have Hlf : Hid (d1'.left ≤ 20 ∧ d2'.left ≤ 20) := Lib.hid ⟨Nat.le_trans hkp1.left hleft, Nat.le_trans hkp2.left hleft⟩
      have Hbl := Lib.hid hbl
      clear hf hdn hu hep haft hbef hrest hq1 hkp1 hcs1 hq2 hkp2 hcs2 hleft harm hbl hone hfS hvs
      go_cut [14, 9] (fun va ve wc => ∃ (e : Nat) (j' : Jr.J) (d' : Dr.Drum) (aft : List (List UInt8)) (aa : Option Addr) (ac : Nat), va = .slice aa aft.length ac ∧ ve = erv E e ∧ ((e = 0 ∧ Jr.Rest d' aft 1 2) ∨ (e = 6 ∧ j'.dead = true ∧ Jr.Rest d' bef 1 2)) ∧ d'.left ≤ 20 ∧ aft.length ≤ 5000 ∧ Sat w0 wc (RoL w0 (.slice aa aft.length ac) aft :: RoL w0 (.slice a bef.length c) bef :: isJ w0 b db j' :: isDrum db d' :: RoL w0 (.slice a0 rs.length c0) rs :: Ro w0 (.slice sa la.length sc) la :: L))
      case first =>
        cases cmp
        case true =>
          go_wp2_with (first | (go_at_call 48; ((with_reducible refine' (Hcp.out _ _ _ (hS.ent ?sa1x203) (under_ro ?sa2x203)).mono ?sa3x203); (case sa1x203 => (repeat (first | (with_reducible exact Ent.refl _) | ((with_reducible apply Ent.pull); (focus ((repeat (first | with_reducible exact Split.here | with_reducible apply Split.there)); done)))))); (case sa2x203 => ((repeat (first | with_reducible exact Split.here | with_reducible apply Split.there)); done)); (case' sa3x203 => (rintro r4 w4 ⟨rfl, hS1⟩; (clear hS; have hS := hS1; clear hS1))))) | ((((with_reducible refine wpList_plain ?_ ?_); (focus rfl); intro K hK)); ((with_reducible refine' wp_lit1 hS ?_ ?_ ?_ ?_ ?_ ?_); rotate_left 3; (focus (intro _; (simp; rfl))); (focus (intro _; (simp; done))); (focus (intro _; (simp; rfl))); (focus (conv => lhs; whnf)); (focus rfl); intro w' b'; clear hS; intro hS; (refine hK _ _ ?_; clear hK K))))
          go_meet
          case rel =>
            have h1 := ((hS.ent (show Ent _ (Ro w0 (.slice sa la.length sc) la :: Blk b' (.cells #[.slice sa la.length sc] 22) :: RoL w0 (.slice a bef.length c) bef :: isJ w0 b db k1 :: isDrum db d1' :: RoL w0 (.slice a0 rs.length c0) rs :: L) by (repeat (first | (with_reducible exact Ent.refl _) | ((with_reducible apply Ent.pull); (focus ((repeat (first | with_reducible exact Split.here | with_reducible apply Split.there)); done))) | (with_reducible apply Ent.skip))))).dup (pers_ro _ _ _))
            have h2 := recs_one (h1.ent (show Ent _ (Blk b' (.cells #[.slice sa la.length sc] 22) :: Ro w0 (.slice sa la.length sc) la :: Ro w0 (.slice sa la.length sc) la :: RoL w0 (.slice a bef.length c) bef :: isJ w0 b db k1 :: isDrum db d1' :: RoL w0 (.slice a0 rs.length c0) rs :: L) by (repeat (first | (with_reducible exact Ent.refl _) | ((with_reducible apply Ent.pull); (focus ((repeat (first | with_reducible exact Split.here | with_reducible apply Split.there)); done)))))))
            have h3 : Sat w0 _ (RoL w0 (.slice (some ⟨b', 0, none⟩) 1 1) [la] :: _) := h2.rol
            refine ⟨e1, k1, d1', [la], some ⟨b', 0, none⟩, 1, rfl, rfl, Hc1.out, Hlf.out.1, by simp, ?_⟩
            show Sat w0 _ (RoL w0 (.slice (some ⟨b', 0, none⟩) 1 1) [la] :: _)
            exact h3.ent (by (repeat (first | (with_reducible exact Ent.refl _) | ((with_reducible apply Ent.pull); (focus ((repeat (first | with_reducible exact Split.here | with_reducible apply Split.there)); done))))))
        case false =>
          go_wp2_with ((go_at_call 40; ((with_reducible refine' (Hap.out _ _ _ (hS.ent ?sa1x215) (under_ro ?sa2x215)).mono ?sa3x215); (case sa1x215 => (repeat (first | (with_reducible exact Ent.refl _) | ((with_reducible apply Ent.pull); (focus ((repeat (first | with_reducible exact Split.here | with_reducible apply Split.there)); done)))))); (case sa2x215 => ((repeat (first | with_reducible exact Split.here | with_reducible apply Split.there)); done)); (case' sa3x215 => (rintro r4 w4 ⟨rfl, hS1⟩; (clear hS; have hS := hS1; clear hS1))))))
          go_meet
          case rel => exact ⟨e2, k2, d2', bef ++ [la], ra, rc, by rw [List.length_append]; rfl, rfl, Hc2.out, Hlf.out.2, by have := Hbl.out.1; rw [List.length_append]; simp; omega, by (refine Sat.ent hS ?_; repeat (first | (with_reducible exact Ent.refl _) | ((with_reducible apply Ent.pull); (focus ((repeat (first | with_reducible exact Split.here | with_reducible apply Split.there)); done)))))⟩
      case rest =>
        clear hS Hcp Hap Hc1 Hc2 Hlf
        obtain ⟨e, j', d', aft, aa, ac, rfl, rfl, hcs, hlf, hal, hS⟩ := hcut
        rcases hcs with ⟨rfl, hr⟩ | ⟨rfl, hdd, hr⟩
        · obtain ⟨j3, d3, hq3, f3, hn3, hr3, he3⟩ := hr.on.fit rfl rfl (by omega)
          have Hon : Hid (∀ (w : World) (L : List Asn), Sat w0 w (isDrum db d' :: L) → Calls Tryd.prog 45 #[.pointer (some ⟨db, 0, none⟩)] w fun r w' => r = .returned (.tuple #[]) ∧ Sat w0 w' (isDrum db d'.on :: L)) := Lib.hid fun w L h => on_any db d' w0 w L h
          have Hop : Hid (∀ (w : World) (L : List Asn), Sat w0 w (isDrum db d'.on :: L) → Calls Tryd.prog 38 #[.pointer (some ⟨db, 0, none⟩)] w fun r w' => ∃ b, r = .returned (.tuple #[.pointer (some ⟨b, 0, none⟩), .nilIface]) ∧ Sat w0 w' (isJ w0 b db j3 :: isDrum db d3 :: L)) := Lib.hid fun w L h => open_good E db d'.on d3 j3 w0 w L hq3 hr.on.ok.1 (by show (0 : Nat) ≤ _; omega) hT hE h
          have Hrec : Hid (∀ (b : Nat) (w : World) (L : List Asn), Sat w0 w (isJ w0 b db j3 :: L) → Calls Tryd.prog 42 #[.pointer (some ⟨b, 0, none⟩)] w fun r w' => ∃ a c, r = .returned (.slice a aft.length c) ∧ Sat w0 w' (RoL w0 (.slice a aft.length c) aft :: isJ w0 b db j3 :: L)) := Lib.hid fun b w L h => records_to b db j3 w0 w L hr3 (by have := hr.ok.2.2.1; omega) hr.ok.2.2.2 h
          have HsA : Hid (∀ (w : World) (L : List Asn) (v1 : Value), Sat w0 w (RoL w0 v1 aft :: RoL w0 (.slice aa aft.length ac) aft :: L) → Calls Tryd.prog 41 #[v1, .slice aa aft.length ac] w fun r w' => r = .returned (.bool (decide (aft = aft))) ∧ Sat w0 w' L) := Lib.hid fun w L v1 h => sameLists_two w0 w L v1 _ aft aft (by have := hr.ok.2.2.1; omega) h
          have HsB : Hid (∀ (w : World) (L : List Asn) (v1 : Value), Sat w0 w (RoL w0 v1 aft :: RoL w0 (.slice a bef.length c) bef :: L) → Calls Tryd.prog 41 #[v1, .slice a bef.length c] w fun r w' => r = .returned (.bool (decide (aft = bef))) ∧ Sat w0 w' L) := Lib.hid fun w L v1 h => sameLists_two w0 w L v1 _ aft bef (by have := hr.ok.2.2.1; omega) h
          rw [show decide (aft = aft) = true from decide_eq_true rfl] at HsA
          obtain ⟨b1, hb1⟩ : ∃ b1, b1 = decide (aft = bef) := ⟨_, rfl⟩
          rw [← hb1] at HsB
          clear hq3 f3 hn3 hr3 he3 hr hb1 hlf hal Hbl Hx1
          dsimp only [erv]
          go_wp2_with (first | (go_at_call 45; ((with_reducible refine' (Hon.out _ _ (hS.split ?sc1x235)).mono ?sc3x235); (case sc1x235 => ((repeat (first | with_reducible exact Split.here | with_reducible apply Split.there)); done)); (case' sc3x235 => (rintro r4 w4 ⟨rfl, hS1⟩; (clear hS; have hS := hS1; clear hS1))))) | (go_at_call 38; ((with_reducible refine' (Hop.out _ _ (hS.split ?sc1x236)).mono ?sc3x236); (case sc1x236 => ((repeat (with_reducible exact Split.here)); done)); (case' sc3x236 => (rintro r4 w4 ⟨b3, rfl, hS1⟩; (clear hS; have hS := hS1; clear hS1))))) | (go_at_call 42; ((with_reducible refine' (Hrec.out _ _ _ (hS.split ?sf1x237)).mono ?sf3x237); (case sf1x237 => ((repeat (with_reducible exact Split.here)); done)); (case' sf3x237 => (rintro r4 w4 ⟨ra, rc, rfl, hS1⟩; (clear hS; have hS := hS1; clear hS1))))) | (go_at_call 42; ((with_reducible refine' (Hrec.out _ _ _ (hS.split ?sf1x238)).mono ?sf3x238); (case sf1x238 => ((repeat (with_reducible exact Split.here)); done)); (case' sf3x238 => (rintro r4 w4 ⟨ra, rc, rfl, hS1⟩; (clear hS; have hS := hS1; clear hS1))))) | (go_at_call 41; ((with_reducible refine' (HsA.out _ _ _ (hS.ent ?sh1x239)).mono ?sh4x239); (case sh1x239 => (repeat (first | (with_reducible exact Ent.refl _) | ((with_reducible apply Ent.pull); (focus ((repeat (first | with_reducible exact Split.here | with_reducible apply Split.there)); done)))))); (case' sh4x239 => (rintro r4 w4 ⟨rfl, hS1⟩; (clear hS; have hS := hS1; clear hS1))))) | (go_at_call 41; ((with_reducible refine' (HsB.out _ _ _ (hS.ent ?sh1x240)).mono ?sh4x240); (case sh1x240 => (repeat (first | (with_reducible exact Ent.refl _) | ((with_reducible apply Ent.pull); (focus ((repeat (first | with_reducible exact Split.here | with_reducible apply Split.there)); done)))))); (case' sh4x240 => (rintro r4 w4 ⟨rfl, hS1⟩; (clear hS; have hS := hS1; clear hS1))))))
          go_ret
          exact ⟨rfl, by (refine Sat.ent hS ?_; repeat (first | (with_reducible exact Ent.refl _) | (with_reducible apply Ent.skip)))⟩
        · obtain ⟨j3, d3, hq3, f3, hn3, hr3, he3⟩ := hr.on.fit rfl rfl (by omega)
          have Hon : Hid (∀ (w : World) (L : List Asn), Sat w0 w (isDrum db d' :: L) → Calls Tryd.prog 45 #[.pointer (some ⟨db, 0, none⟩)] w fun r w' => r = .returned (.tuple #[]) ∧ Sat w0 w' (isDrum db d'.on :: L)) := Lib.hid fun w L h => on_any db d' w0 w L h
          have Hop : Hid (∀ (w : World) (L : List Asn), Sat w0 w (isDrum db d'.on :: L) → Calls Tryd.prog 38 #[.pointer (some ⟨db, 0, none⟩)] w fun r w' => ∃ b, r = .returned (.tuple #[.pointer (some ⟨b, 0, none⟩), .nilIface]) ∧ Sat w0 w' (isJ w0 b db j3 :: isDrum db d3 :: L)) := Lib.hid fun w L h => open_good E db d'.on d3 j3 w0 w L hq3 hr.on.ok.1 (by show (0 : Nat) ≤ _; omega) hT hE h
          have Hrec : Hid (∀ (b : Nat) (w : World) (L : List Asn), Sat w0 w (isJ w0 b db j3 :: L) → Calls Tryd.prog 42 #[.pointer (some ⟨b, 0, none⟩)] w fun r w' => ∃ a c, r = .returned (.slice a bef.length c) ∧ Sat w0 w' (RoL w0 (.slice a bef.length c) bef :: isJ w0 b db j3 :: L)) := Lib.hid fun b w L h => records_to b db j3 w0 w L hr3 (by have := hr.ok.2.2.1; omega) hr.ok.2.2.2 h
          have HsA : Hid (∀ (w : World) (L : List Asn) (v1 : Value), Sat w0 w (RoL w0 v1 bef :: RoL w0 (.slice aa aft.length ac) aft :: L) → Calls Tryd.prog 41 #[v1, .slice aa aft.length ac] w fun r w' => r = .returned (.bool (decide (bef = aft))) ∧ Sat w0 w' L) := Lib.hid fun w L v1 h => sameLists_two w0 w L v1 _ bef aft (by have := hr.ok.2.2.1; omega) h
          have HsB : Hid (∀ (w : World) (L : List Asn) (v1 : Value), Sat w0 w (RoL w0 v1 bef :: RoL w0 (.slice a bef.length c) bef :: L) → Calls Tryd.prog 41 #[v1, .slice a bef.length c] w fun r w' => r = .returned (.bool (decide (bef = bef))) ∧ Sat w0 w' L) := Lib.hid fun w L v1 h => sameLists_two w0 w L v1 _ bef bef (by have := hr.ok.2.2.1; omega) h
          rw [show decide (bef = bef) = true from decide_eq_true rfl] at HsB
          obtain ⟨b1, hb1⟩ : ∃ b1, b1 = decide (bef = aft) := ⟨_, rfl⟩
          rw [← hb1] at HsA
          have Hdd : Hid (∀ (w : World) (L : List Asn), Sat w0 w (isJ w0 b db j' :: L) → Calls Tryd.prog 47 #[.pointer (some ⟨b, 0, none⟩)] w fun r w' => r = .returned (.bool true) ∧ Sat w0 w' (isJ w0 b db j' :: L)) := Lib.hid fun w L h => by
            have := dead_any b db j' w0 w L h
            rw [hdd] at this
            exact this
          clear hq3 f3 hn3 hr3 he3 hr hb1 hlf hal Hbl Hx1 hdd
          dsimp only [erv]
          cases b1
          case' false =>
            go_wp2_with (first | (go_at_call 45; ((with_reducible refine' (Hon.out _ _ (hS.split ?sc1x262)).mono ?sc3x262); (case sc1x262 => ((repeat (first | with_reducible exact Split.here | with_reducible apply Split.there)); done)); (case' sc3x262 => (rintro r4 w4 ⟨rfl, hS1⟩; (clear hS; have hS := hS1; clear hS1))))) | (go_at_call 38; ((with_reducible refine' (Hop.out _ _ (hS.split ?sc1x263)).mono ?sc3x263); (case sc1x263 => ((repeat (with_reducible exact Split.here)); done)); (case' sc3x263 => (rintro r4 w4 ⟨b3, rfl, hS1⟩; (clear hS; have hS := hS1; clear hS1))))) | (go_at_call 42; ((with_reducible refine' (Hrec.out _ _ _ (hS.split ?sf1x264)).mono ?sf3x264); (case sf1x264 => ((repeat (with_reducible exact Split.here)); done)); (case' sf3x264 => (rintro r4 w4 ⟨ra, rc, rfl, hS1⟩; (clear hS; have hS := hS1; clear hS1))))) | (go_at_call 42; ((with_reducible refine' (Hrec.out _ _ _ (hS.split ?sf1x265)).mono ?sf3x265); (case sf1x265 => ((repeat (with_reducible exact Split.here)); done)); (case' sf3x265 => (rintro r4 w4 ⟨ra, rc, rfl, hS1⟩; (clear hS; have hS := hS1; clear hS1))))) | (go_at_call 41; ((with_reducible refine' (HsA.out _ _ _ (hS.ent ?sh1x266)).mono ?sh4x266); (case sh1x266 => (repeat (first | (with_reducible exact Ent.refl _) | ((with_reducible apply Ent.pull); (focus ((repeat (first | with_reducible exact Split.here | with_reducible apply Split.there)); done)))))); (case' sh4x266 => (rintro r4 w4 ⟨rfl, hS1⟩; (clear hS; have hS := hS1; clear hS1))))) | (go_at_call 41; ((with_reducible refine' (HsB.out _ _ _ (hS.ent ?sh1x267)).mono ?sh4x267); (case sh1x267 => (repeat (first | (with_reducible exact Ent.refl _) | ((with_reducible apply Ent.pull); (focus ((repeat (first | with_reducible exact Split.here | with_reducible apply Split.there)); done)))))); (case' sh4x267 => (rintro r4 w4 ⟨rfl, hS1⟩; (clear hS; have hS := hS1; clear hS1))))) | (go_at_call 47; ((with_reducible refine' (Hdd.out _ _ (hS.split ?sf1x268)).mono ?sf3x268); (case sf1x268 => ((repeat (first | with_reducible exact Split.here | with_reducible apply Split.there)); done)); (case' sf3x268 => (rintro r4 w4 ⟨rfl, hS1⟩; (clear hS; have hS := hS1; clear hS1))))) | ((first | ((with_reducible refine wpList_plain ?_ ?_); (focus rfl); intro K hK) | ((with_reducible refine wpList_runG ?_ ?_); (focus rfl); intro K hK)); first | ((with_reducible refine' wp_err_ne (E := E) ?_ ?_ ?_); rotate_left 1; (focus rfl); (focus rfl); (refine hK _ _ ?_; clear hK K)) | ((with_reducible refine' wp_load_old hS ?_ ?_ ?_ ?_); rotate_left 2; (focus rfl); (focus (with_reducible assumption)); (focus (intro _; (simp; done))); (refine hK _ _ ?_; clear hK K))))
          case' true =>
            go_wp2_with (first | (go_at_call 45; ((with_reducible refine' (Hon.out _ _ (hS.split ?sc1x272)).mono ?sc3x272); (case sc1x272 => ((repeat (first | with_reducible exact Split.here | with_reducible apply Split.there)); done)); (case' sc3x272 => (rintro r4 w4 ⟨rfl, hS1⟩; (clear hS; have hS := hS1; clear hS1))))) | (go_at_call 38; ((with_reducible refine' (Hop.out _ _ (hS.split ?sc1x273)).mono ?sc3x273); (case sc1x273 => ((repeat (with_reducible exact Split.here)); done)); (case' sc3x273 => (rintro r4 w4 ⟨b3, rfl, hS1⟩; (clear hS; have hS := hS1; clear hS1))))) | (go_at_call 42; ((with_reducible refine' (Hrec.out _ _ _ (hS.split ?sf1x274)).mono ?sf3x274); (case sf1x274 => ((repeat (with_reducible exact Split.here)); done)); (case' sf3x274 => (rintro r4 w4 ⟨ra, rc, rfl, hS1⟩; (clear hS; have hS := hS1; clear hS1))))) | (go_at_call 42; ((with_reducible refine' (Hrec.out _ _ _ (hS.split ?sf1x275)).mono ?sf3x275); (case sf1x275 => ((repeat (with_reducible exact Split.here)); done)); (case' sf3x275 => (rintro r4 w4 ⟨ra, rc, rfl, hS1⟩; (clear hS; have hS := hS1; clear hS1))))) | (go_at_call 41; ((with_reducible refine' (HsA.out _ _ _ (hS.ent ?sh1x276)).mono ?sh4x276); (case sh1x276 => (repeat (first | (with_reducible exact Ent.refl _) | ((with_reducible apply Ent.pull); (focus ((repeat (first | with_reducible exact Split.here | with_reducible apply Split.there)); done)))))); (case' sh4x276 => (rintro r4 w4 ⟨rfl, hS1⟩; (clear hS; have hS := hS1; clear hS1))))) | (go_at_call 41; ((with_reducible refine' (HsB.out _ _ _ (hS.ent ?sh1x277)).mono ?sh4x277); (case sh1x277 => (repeat (first | (with_reducible exact Ent.refl _) | ((with_reducible apply Ent.pull); (focus ((repeat (first | with_reducible exact Split.here | with_reducible apply Split.there)); done)))))); (case' sh4x277 => (rintro r4 w4 ⟨rfl, hS1⟩; (clear hS; have hS := hS1; clear hS1))))) | (go_at_call 47; ((with_reducible refine' (Hdd.out _ _ (hS.split ?sf1x278)).mono ?sf3x278); (case sf1x278 => ((repeat (first | with_reducible exact Split.here | with_reducible apply Split.there)); done)); (case' sf3x278 => (rintro r4 w4 ⟨rfl, hS1⟩; (clear hS; have hS := hS1; clear hS1))))) | ((first | ((with_reducible refine wpList_plain ?_ ?_); (focus rfl); intro K hK) | ((with_reducible refine wpList_runG ?_ ?_); (focus rfl); intro K hK)); first | ((with_reducible refine' wp_err_ne (E := E) ?_ ?_ ?_); rotate_left 1; (focus rfl); (focus rfl); (refine hK _ _ ?_; clear hK K)) | ((with_reducible refine' wp_load_old hS ?_ ?_ ?_ ?_); rotate_left 2; (focus rfl); (focus (with_reducible assumption)); (focus (intro _; (simp; done))); (refine hK _ _ ?_; clear hK K))))
          all_goals
            go_roundw
            case rel => exact ⟨cut + 1, by have := hcut'.out; omega, by go_num, by (refine Sat.ent hS ?_; repeat (first | (with_reducible exact Ent.refl _) | ((with_reducible apply Ent.pull); (focus ((repeat (first | with_reducible exact Split.here | with_reducible apply Split.there)); done))) | (with_reducible apply Ent.skip)))⟩
            case measure => simp [intOf]; have := hcut'.out; omega
end
end Go.Proofs.YtndnojbpapjdoaaDoor
