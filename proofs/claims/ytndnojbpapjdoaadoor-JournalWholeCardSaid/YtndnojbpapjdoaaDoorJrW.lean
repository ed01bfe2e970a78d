/- Package journal walked: Dead, Epoch, Free. -/
import Derived.Test.YtndnojbpapjdoaaDoorJrO
set_option linter.unusedSimpArgs false
set_option linter.unusedVariables false
set_option linter.unusedSectionVars false
namespace Go.Proofs.YtndnojbpapjdoaaDoor
open Go.Sp Go.RowKit Go.Fld Go.Sha Go.Dr Go.Jr

section
variable (b db : Nat) (d : Dr.Drum) (j : Jr.J) (w0 w : World) (L : List Asn)
set_option maxRecDepth 100000 in
set_option maxHeartbeats 4000000 in
theorem dead_any (hS : Sat w0 w (isJ w0 b db j :: L)) :
    Calls Tryd.prog 47 #[.pointer (some ⟨b, 0, none⟩)] w fun r w' => r = .returned (.bool j.dead) ∧ Sat w0 w' (isJ w0 b db j :: L) := by
  obtain ⟨a0, n0, c0, hS1⟩ := isJ_open hS
  clear hS
  have hS := hS1
  clear hS1
  go_enter Tryd.func47, Tryd.ntmps47
  go_wp2_with (((((with_reducible refine wpList_plain ?_ ?_); (focus rfl); intro K hK)); ((with_reducible refine' wp_load hS ?_ ?_ ?_ ?_ ?_); rotate_left 7; (focus rfl); (focus ((repeat (with_reducible exact Split.here)); done)); (focus (((simp only [List.getElem?_toArray, List.getElem?_cons_zero, List.getElem?_cons_succ]); rfl))); (focus (intro _; (simp; done))); (refine hK _ _ ?_; clear hK K))))
  go_ret
  exact ⟨rfl, isJ_shut a0 n0 c0 hS (by (repeat ((with_reducible exact Ent.refl _))))⟩
set_option maxRecDepth 100000 in
set_option maxHeartbeats 4000000 in
theorem epoch_any (hS : Sat w0 w (isJ w0 b db j :: L)) :
    Calls Tryd.prog 43 #[.pointer (some ⟨b, 0, none⟩)] w fun r w' => r = .returned (.int .i64 (j.head.epoch : Int)) ∧ Sat w0 w' (isJ w0 b db j :: L) := by
  obtain ⟨a0, n0, c0, hS1⟩ := isJ_open hS
  clear hS
  have hS := hS1
  clear hS1
  go_enter Tryd.func43, Tryd.ntmps43
  go_wp2_with (((((with_reducible refine wpList_plain ?_ ?_); (focus rfl); intro K hK)); ((with_reducible refine' wp_load hS ?_ ?_ ?_ ?_ ?_); rotate_left 7; (focus rfl); (focus ((repeat (with_reducible exact Split.here)); done)); (focus (((simp only [List.getElem?_toArray, List.getElem?_cons_zero, List.getElem?_cons_succ]); rfl))); (focus (intro _; (simp; done))); (refine hK _ _ ?_; clear hK K))))
  go_ret
  exact ⟨rfl, isJ_shut a0 n0 c0 hS (by (repeat ((with_reducible exact Ent.refl _))))⟩
set_option maxRecDepth 100000 in
set_option maxHeartbeats 4000000 in
theorem free_any (hn : 2 ≤ d.n) (hk : d.n ≤ 4096) (hu : j.used ≤ 4096) (hS : Sat w0 w (isJ w0 b db j :: isDrum db d :: L)) :
    Calls Tryd.prog 46 #[.pointer (some ⟨b, 0, none⟩)] w fun r w' => r = .returned (.int .i64 (j.free d.n)) ∧ Sat w0 w' (isJ w0 b db j :: isDrum db d :: L) := by
  obtain ⟨a0, n0, c0, hS1⟩ := isJ_open hS
  clear hS
  have hS := hS1
  clear hS1
  have hha := half_any db d hn hk w0
  have hm2 : Jr.half d.n ≤ 2047 := by unfold half; omega
  unfold Jr.J.free
  obtain ⟨m, hm⟩ : ∃ m, m = half d.n := ⟨_, rfl⟩
  rw [← hm] at hha hm2 ⊢
  have Hha := Lib.hid hha
  clear hha hm
  have hu' : (j.used : Int) ≤ 4096 := by omega
  have hm' : (m : Int) ≤ 2047 := by omega
  by_cases hf : m ≤ j.used
  case pos =>
    rw [if_pos hf]
    have hf' : (m : Int) - (j.used : Int) < 1 := by omega
    clear hf
    go_enter Tryd.func46, Tryd.ntmps46
    go_wp2_with (first | (have hS1 := hS.drew; clear hS; have hS := hS1; clear hS1; (with_reducible refine' Txh.wp_region_held (id := 1) (fun w => ∃ M, Sat w0 w (isDrum db d :: M)) [(4, .int .i64 (m : Int))] [4] 11 rfl ?hm1x57 ?hB1x57 ?hI1x57 ?hh1x57); (case hm1x57 => kernel_rfl); (case hB1x57 => decide +kernel); (case hI1x57 => exact ⟨_, hS.split (by ((repeat (first | with_reducible exact Split.here | with_reducible apply Split.there)); done))⟩); (case' hh1x57 => (intro Q' hQ'))) | (with_reducible refine Txh.wpHeld_nil ?_) | (((with_reducible refine' Txh.wpHeld_held ?_ ?_ ?_ ?_); rotate_left 1; (focus rfl); (focus rfl); (focus ((with_reducible refine' fixed_call1 (f := 62) ?_ ?_ ?_); rotate_left 1; (focus (conv => lhs; whnf)); (focus (intro _ _; simp)); (focus (intro w5 hI5; (obtain ⟨M5, hM5⟩ := hI5; exact Hha.out w5 M5 hM5))))))) | ((with_reducible refine Txh.wpHeld_free ?_ ?_ ?_ ?_ ?_); (focus rfl); (focus rfl); (focus rfl); (focus decide +kernel); intro K hK; ((with_reducible refine' wp_load hS ?_ ?_ ?_ ?_ ?_); rotate_left 7; (focus rfl); (focus ((repeat (with_reducible exact Split.here)); done)); (focus (((simp only [List.getElem?_toArray, List.getElem?_cons_zero, List.getElem?_cons_succ]); rfl))); (focus (intro _; (simp; done))); (refine hK _ _ ?_; clear hK K))) | (((with_reducible refine Txh.wpHeld_free ?_ ?_ ?_ ?_ ?_); (focus rfl); (focus rfl); (focus rfl); (focus decide +kernel); intro _ _)))
    go_ret
    exact ⟨rfl, isJ_shut a0 n0 c0 hS (by (repeat ((with_reducible exact Ent.refl _))))⟩
  rw [if_neg hf]
  have e9 : (((m - j.used) * 46 - 2 : Nat) : Int) = ((m : Int) - (j.used : Int)) * 46 - 2 := by omega
  have hf' : 1 ≤ (m : Int) - (j.used : Int) := by omega
  rw [e9]
  clear hf e9
  go_enter Tryd.func46, Tryd.ntmps46
  go_wp2_with (first | (have hS1 := hS.drew; clear hS; have hS := hS1; clear hS1; (with_reducible refine' Txh.wp_region_held (id := 1) (fun w => ∃ M, Sat w0 w (isDrum db d :: M)) [(4, .int .i64 (m : Int))] [4] 11 rfl ?hm1x69 ?hB1x69 ?hI1x69 ?hh1x69); (case hm1x69 => kernel_rfl); (case hB1x69 => decide +kernel); (case hI1x69 => exact ⟨_, hS.split (by ((repeat (first | with_reducible exact Split.here | with_reducible apply Split.there)); done))⟩); (case' hh1x69 => (intro Q' hQ'))) | (with_reducible refine Txh.wpHeld_nil ?_) | (((with_reducible refine' Txh.wpHeld_held ?_ ?_ ?_ ?_); rotate_left 1; (focus rfl); (focus rfl); (focus ((with_reducible refine' fixed_call1 (f := 62) ?_ ?_ ?_); rotate_left 1; (focus (conv => lhs; whnf)); (focus (intro _ _; simp)); (focus (intro w5 hI5; (obtain ⟨M5, hM5⟩ := hI5; exact Hha.out w5 M5 hM5))))))) | ((with_reducible refine Txh.wpHeld_free ?_ ?_ ?_ ?_ ?_); (focus rfl); (focus rfl); (focus rfl); (focus decide +kernel); intro K hK; ((with_reducible refine' wp_load hS ?_ ?_ ?_ ?_ ?_); rotate_left 7; (focus rfl); (focus ((repeat (with_reducible exact Split.here)); done)); (focus (((simp only [List.getElem?_toArray, List.getElem?_cons_zero, List.getElem?_cons_succ]); rfl))); (focus (intro _; (simp; done))); (refine hK _ _ ?_; clear hK K))) | (((with_reducible refine Txh.wpHeld_free ?_ ?_ ?_ ?_ ?_); (focus rfl); (focus rfl); (focus rfl); (focus decide +kernel); intro _ _)))
  go_ret
  exact ⟨rfl, isJ_shut a0 n0 c0 hS (by (repeat ((with_reducible exact Ent.refl _))))⟩
end
end Go.Proofs.YtndnojbpapjdoaaDoor
