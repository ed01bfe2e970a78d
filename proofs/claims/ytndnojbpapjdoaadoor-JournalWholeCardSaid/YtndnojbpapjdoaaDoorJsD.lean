/- The chapter's example walked. -/
import Derived.Test.YtndnojbpapjdoaaDoorJsC
import Derived.Test.YtndnojbpapjdoaaDoorSpc
set_option linter.unusedSimpArgs false
set_option linter.unusedVariables false
set_option linter.unusedSectionVars false
namespace Go.Proofs.YtndnojbpapjdoaaDoor
open Go.Sp Go.RowKit Go.Fld Go.Sha Go.Dr Go.Jr

section
variable (E : Nat → Addr) (w0 w : World) (L : List Asn)
set_option maxRecDepth 100000 in
set_option maxHeartbeats 4000000 in
theorem alive_ok (hT : Table w0) (hE : JrErrs E w0) (hS : Sat w0 w L) : Calls Tryd.prog 36 #[] w fun r w' => r = .returned (.bool true) ∧ Sat w0 w' L := by
  obtain ⟨j1, d1, j2, d2, j3, d3, hq1, f1, hq2, f2, hw2, hq3, f3, hw3, hr3, he3⟩ := alive_plain
  have hnew : ∀ (w : World) (L : List Asn), Sat w0 w L → Calls Tryd.prog 37 #[.int .i64 20] w fun r w' => ∃ b, r = .returned (.tuple #[.pointer (some ⟨b, 0, none⟩), .nilIface]) ∧ Sat w0 w' (isDrum b (Drum.new 20) :: L) := fun w L h => new_ok 20 (by decide) (by decide) w0 w L h
  have hfm : ∀ (db : Nat) (w : World) (L : List Asn) (bv : Value), Sat w0 w (isDrum db (Drum.new 20) :: L) → Under w0 L bv [115] → Calls Tryd.prog 39 #[.pointer (some ⟨db, 0, none⟩), bv] w fun r w' => ∃ b, r = .returned (.tuple #[.pointer (some ⟨b, 0, none⟩), .nilIface]) ∧ Sat w0 w' (isJ w0 b db j1 :: isDrum db d1 :: L) := fun db w L bv h hr => format_good E db _ d1 j1 w0 w L bv [115] hq1 (by decide) (new_fresh (by decide)) (by decide) hT hE h hr
  have hap : ∀ (b db : Nat) (w : World) (L : List Asn) (bv : Value), Sat w0 w (isJ w0 b db j1 :: isDrum db d1 :: L) → Under w0 L bv (List.replicate 100 0) → Calls Tryd.prog 40 #[.pointer (some ⟨b, 0, none⟩), bv] w fun r w' => r = .returned .nilIface ∧ Sat w0 w' (isJ w0 b db j2 :: isDrum db d2 :: L) := fun b db w L bv h hr => append_to E b db d1 d2 j1 j2 w0 w L 0 bv _ hq2 (by simp) f1.ok.1 (Nat.le_trans f1.left (by decide)) f1.ok.2 (live_jok f1.live (by omega)) hT hE h hr
  have hop : ∀ (db : Nat) (w : World) (L : List Asn), Sat w0 w (isDrum db d2 :: L) → Calls Tryd.prog 38 #[.pointer (some ⟨db, 0, none⟩)] w fun r w' => ∃ b, r = .returned (.tuple #[.pointer (some ⟨b, 0, none⟩), .nilIface]) ∧ Sat w0 w' (isJ w0 b db j3 :: isDrum db d3 :: L) := fun db w L h => open_good E db d2 d3 j3 w0 w L hq3 f2.ok.1 (Nat.le_trans f2.left (by decide)) hT hE h
  have hwa : ∀ (db : Nat) (w : World) (L : List Asn), Sat w0 w (isDrum db d2 :: L) → Calls Tryd.prog 55 #[.pointer (some ⟨db, 0, none⟩)] w fun r w' => r = .returned (.int .i64 5) ∧ w = w' := fun db w L h => by
    have := writes_any db d2 w0 w L h
    rw [hw2] at this
    exact this
  have hwb : ∀ (db : Nat) (w : World) (L : List Asn), Sat w0 w (isDrum db d3 :: L) → Calls Tryd.prog 55 #[.pointer (some ⟨db, 0, none⟩)] w fun r w' => r = .returned (.int .i64 6) ∧ w = w' := fun db w L h => by
    have := writes_any db d3 w0 w L h
    rw [hw3] at this
    exact this
  have hre : ∀ (b db : Nat) (w : World) (L : List Asn), Sat w0 w (isJ w0 b db j3 :: L) → Calls Tryd.prog 42 #[.pointer (some ⟨b, 0, none⟩)] w fun r w' => ∃ ad u c, r = .returned (.slice (some ad) 2 c) ∧ Sat w0 w' (RoLAt w0 (ad.add 0) u [115] :: isJ w0 b db j3 :: L) := fun b db w L h => by
    refine (records_to b db j3 w0 w L hr3 (by simp) (by intro l hl; simp at hl; rcases hl with rfl | rfl <;> simp) h).mono ?_
    rintro r w' ⟨a, c, rfl, h1⟩
    obtain ⟨ad, u, rfl, h2⟩ := h1.rolAt (k := 0) (l := [115]) rfl
    exact ⟨ad, u, c, rfl, (h2.pick 1).drop⟩
  have hep : ∀ (b db : Nat) (w : World) (L : List Asn), Sat w0 w (isJ w0 b db j3 :: L) → Calls Tryd.prog 43 #[.pointer (some ⟨b, 0, none⟩)] w fun r w' => r = .returned (.int .i64 2) ∧ Sat w0 w' (isJ w0 b db j3 :: L) := fun b db w L h => by
    have := epoch_any b db j3 w0 w L h
    rw [he3] at this
    exact this
  have Hnew := Lib.hid hnew
  have Hfm := Lib.hid hfm
  have Hap := Lib.hid hap
  have Hop := Lib.hid hop
  have Hwa := Lib.hid hwa
  have Hwb := Lib.hid hwb
  have Hre := Lib.hid hre
  have Hep := Lib.hid hep
  clear hnew hfm hap hop hwa hwb hre hep hq1 f1 hq2 f2 hw2 hq3 f3 hw3 hr3 he3
  go_enter Tryd.func36, Tryd.ntmps36
  go_wp2_with (first | (go_at_call 37; ((with_reducible refine' (Hnew.out _ _ hS).mono ?snx44); (case' snx44 => (rintro r4 w4 ⟨db, rfl, hS1⟩; (clear hS; have hS := hS1; clear hS1))))) | (go_at_call 39; ((with_reducible refine' (Hfm.out _ _ _ _ (hS.split ?sa1x45) (under_own ?sa2x45)).mono ?sa3x45); (case sa1x45 => ((repeat (first | with_reducible exact Split.here | with_reducible apply Split.there)); done)); (case sa2x45 => ((repeat (with_reducible exact Split.here)); done)); (case' sa3x45 => (rintro r4 w4 ⟨b, rfl, hS1⟩; (clear hS; have hS := hS1; clear hS1))))) | (go_at_call 40; ((with_reducible refine' (Hap.out _ _ _ _ _ (hS.ent ?sb1x46) (under_own ?sb2x46)).mono ?sb3x46); (case sb1x46 => (repeat (first | (with_reducible exact Ent.refl _) | ((with_reducible apply Ent.pull); (focus ((repeat (first | with_reducible exact Split.here | with_reducible apply Split.there)); done)))))); (case sb2x46 => ((repeat (with_reducible exact Split.here)); done)); (case' sb3x46 => (rintro r4 w4 ⟨rfl, hS1⟩; (clear hS; have hS := hS1; clear hS1))))) | (go_at_call 38; ((with_reducible refine' (Hop.out _ _ _ (hS.split ?sc1x47)).mono ?sc3x47); (case sc1x47 => ((repeat (first | with_reducible exact Split.here | with_reducible apply Split.there)); done)); (case' sc3x47 => (rintro r4 w4 ⟨b3, rfl, hS1⟩; (clear hS; have hS := hS1; clear hS1))))) | (go_at_call 55; ((with_reducible refine' (Hwb.out _ _ _ (hS.split ?sd1x48)).mono ?sd3x48); (case sd1x48 => ((repeat (first | with_reducible exact Split.here | with_reducible apply Split.there)); done)); (case' sd3x48 => (rintro r4 w4 ⟨rfl, rfl⟩)))) | (go_at_call 55; ((with_reducible refine' (Hwa.out _ _ _ (hS.split ?se1x49)).mono ?se3x49); (case se1x49 => ((repeat (first | with_reducible exact Split.here | with_reducible apply Split.there)); done)); (case' se3x49 => (rintro r4 w4 ⟨rfl, rfl⟩)))) | (go_at_call 42; ((with_reducible refine' (Hre.out _ _ _ _ (hS.split ?sf1x50)).mono ?sf3x50); (case sf1x50 => ((repeat (with_reducible exact Split.here)); done)); (case' sf3x50 => (rintro r4 w4 ⟨ad, u, c, rfl, hS1⟩; (clear hS; have hS := hS1; clear hS1))))) | (go_at_call 42; ((with_reducible refine' (Hre.out _ _ _ _ (hS.split ?sf1x51)).mono ?sf3x51); (case sf1x51 => ((repeat (first | with_reducible exact Split.here | with_reducible apply Split.there)); done)); (case' sf3x51 => (rintro r4 w4 ⟨ad, u, c, rfl, hS1⟩; (clear hS; have hS := hS1; clear hS1))))) | (go_at_call 43; ((with_reducible refine' (Hep.out _ _ _ _ (hS.split ?sg1x52)).mono ?sg3x52); (case sg1x52 => ((repeat (first | with_reducible exact Split.here | with_reducible apply Split.there)); done)); (case' sg3x52 => (rintro r4 w4 ⟨rfl, hS1⟩; (clear hS; have hS := hS1; clear hS1))))) | ((first | ((with_reducible refine wpList_plain ?_ ?_); (focus rfl); intro K hK) | ((with_reducible refine wpList_runG ?_ ?_); (focus rfl); intro K hK)); (with_reducible refine' wp_slice_lit (t := 22) (cs := (([115] : List UInt8).map B).toArray) hS ?_ ?_ ?_ ?_ ?_ ?_ ?_ ?_); rotate_left 4; (focus (intro _; (simp; rfl))); (focus (intro _; (simp; rfl))); (focus (intro _; (simp; rfl))); (focus decide); (focus decide); (focus rfl); (focus kernel_rfl); intro w' b'; clear hS; intro hS; (refine hK _ _ ?_; clear hK K)) | ((first | ((with_reducible refine wpList_plain ?_ ?_); (focus rfl); intro K hK) | ((with_reducible refine wpList_runG ?_ ?_); (focus rfl); intro K hK)); (with_reducible refine' wp_lit_conv (l := [115]) hS ?_ ?_ ?_ ?_ ?_ ?_ ?_); rotate_left 5; (focus rfl); (focus ((repeat (with_reducible exact Split.here)); done)); (focus rfl); (focus ((simp; rfl))); (focus ((simp; done))); (focus decide); intro w'; clear hS; intro hS; (refine hK _ _ ?_; clear hK K)) | ((first | ((with_reducible refine wpList_plain ?_ ?_); (focus rfl); intro K hK) | ((with_reducible refine wpList_runG ?_ ?_); (focus rfl); intro K hK)); (with_reducible refine' wp_make_bytes 100 100 sl22 ?_ hS ?_ ?_ ?_ ?_ ?_ ?_ ?_); rotate_left 4; (focus (intro _; (simp; done))); (focus rfl); (focus rfl); (focus (rfl)); (focus (rfl)); (focus omega); (focus omega); intro w' b'; clear hS; intro hS; (try simp only [List.replicate_zero] at hS); (refine hK _ _ ?_; clear hK K)) | ((first | ((with_reducible refine wpList_plain ?_ ?_); (focus rfl); intro K hK) | ((with_reducible refine wpList_runG ?_ ?_); (focus rfl); intro K hK)); first | ((with_reducible refine' wp_index_any ?_ ?_ ?_ ?_ ?_ ?_ ?_ ?_); rotate_left 8; (focus rfl); (focus rfl); (focus (intro _; (simp; rfl))); (focus (intro _; (simp; rfl))); (focus (omega)); (focus (omega)); (focus (((simp only [Int.toNat_natCast, Int.reduceToNat, Nat.mul_one, Nat.zero_add, Nat.add_zero, Nat.reduceMul, Nat.reduceAdd]); rfl))); (refine hK _ _ ?_; clear hK K)) | ((with_reducible refine' wp_rol_load hS ?_ ?_ ?_ ?_); rotate_left 4; (focus rfl); (focus ((repeat (with_reducible exact Split.here)); done)); (focus (intro _; (simp; done))); (refine hK _ _ ?_; clear hK K)) | ((with_reducible refine' wp_rol_string hS ?_ ?_ ?_ ?_ ?_ ?_); rotate_left 5; (focus (conv => lhs; whnf)); (focus ((repeat (with_reducible exact Split.here)); done)); (focus ((simp; rfl))); (focus ((simp; done))); (focus ((simp; done))); (refine hK _ _ ?_; clear hK K))))
  trace_state
  go_ret
  exact ⟨rfl, by (refine Sat.ent hS ?_; repeat (first | (with_reducible exact Ent.refl _) | (with_reducible apply Ent.skip)))⟩
end
end Go.Proofs.YtndnojbpapjdoaaDoor
