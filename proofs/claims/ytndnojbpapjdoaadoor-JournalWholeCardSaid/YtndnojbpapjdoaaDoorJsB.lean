/- SameLists walked: two lists of bytes' lists that may be read for good. -/
import Derived.Test.YtndnojbpapjdoaaDoorJsA
set_option linter.unusedSimpArgs false
set_option linter.unusedVariables false
set_option linter.unusedSectionVars false
namespace Go.Proofs.YtndnojbpapjdoaaDoor
open Go.Sp Go.RowKit Go.Fld Go.Sha Go.Dr Go.Jr

section
variable (w0 w : World) (L : List Asn)
set_option maxRecDepth 100000 in
set_option maxHeartbeats 4000000 in
theorem sameLists_two (v1 v2 : Value) (xs ys : List (List UInt8)) (hx : xs.length ≤ 140737488355328) (hS : Sat w0 w (RoL w0 v1 xs :: RoL w0 v2 ys :: L)) :
    Calls Tryd.prog 41 #[v1, v2] w fun r w' => r = .returned (.bool (decide (xs = ys))) ∧ Sat w0 w' L := by
  obtain ⟨a1, c1, rfl, _, _, hs1⟩ := hS.rol_len
  obtain ⟨a2, c2, rfl, _, _, hs2⟩ := (hS.pick 1).rol_len
  by_cases hne : xs.length = ys.length
  case neg =>
    have hne' : (xs.length : Int) ≠ (ys.length : Int) := by omega
    have hxy : decide (xs = ys) = false := by simp; intro h; rw [h] at hne; exact hne rfl
    rw [hxy]
    clear hs1 hs2 hne
    go_enter Tryd.func41, Tryd.ntmps41
    go_wp2_with (fail)
    go_ret
    exact ⟨rfl, hS.drop.drop⟩
  have hne' : (xs.length : Int) = (ys.length : Int) := by omega
  have hn := Lib.hid hne
  clear hne
  go_enter Tryd.func41, Tryd.ntmps41
  go_wp2_with (fail)
  go_loopw [13] (fun i wr => ∃ k : Nat, k ≤ xs.length ∧ xs.take k = ys.take k ∧ i = .int .i64 k ∧ Sat w0 wr (RoL w0 (.slice a1 xs.length c1) xs :: RoL w0 (.slice a2 ys.length c2) ys :: L)) (fun i _ => xs.length - (intOf i).toNat)
  case atStart => exact ⟨0, by omega, rfl, rfl, hS⟩
  case round =>
    clear hS
    obtain ⟨k, hk, htk, rfl, hS⟩ := hrel
    by_cases hlt : k < xs.length
    case pos =>
      obtain ⟨l, hl⟩ : ∃ l, xs[k]? = some l := ⟨xs[k], List.getElem?_eq_getElem hlt⟩
      obtain ⟨m, hm⟩ : ∃ m, ys[k]? = some m := ⟨ys[k]'(by have := hn.out; omega), List.getElem?_eq_getElem _⟩
      obtain ⟨ad1, u1, rfl, hS1⟩ := hS.rolAt hl
      obtain ⟨ad2, u2, rfl, hS2⟩ := (hS1.pick 2).rolAt hm
      obtain ⟨ua, uc, rfl, _⟩ := hS1.rolAt_ro.ro_reads
      obtain ⟨va, vc, rfl, _⟩ := hS2.rolAt_ro.ro_reads
      clear hS hS1
      have hS := hS2
      clear hS2 hs1 hs2
      have hlt' : (k : Int) < (xs.length : Int) := by omega
      have hlt2 : (k : Int) < (ys.length : Int) := by have := hn.out; omega
      have htk' := Lib.hid htk
      have hl' := Lib.hid hl
      have hm' := Lib.hid hm
      clear htk hl hm
      by_cases hlm : l = m
      case pos =>
        go_wp2_with (first | ((with_reducible refine Txt.wp_region_text ?_ ?_ ?_); (focus kernel_rfl); (focus decide +kernel); intro Q' hQ'; have hS1 := hS.drew; clear hS; have hS := hS1; clear hS1) | (with_reducible refine Txt.wpTxt_nil ?_) | ((first | ((with_reducible refine wpList_plain ?_ ?_); (focus rfl); intro K hK) | ((with_reducible refine Txt.wpTxt_plain ?_ ?_ ?_); (focus rfl); (focus rfl); intro K hK)); first | ((with_reducible refine' wp_index_any ?_ ?_ ?_ ?_ ?_ ?_ ?_ ?_); rotate_left 8; (focus rfl); (focus rfl); (focus (intro _; (simp; rfl))); (focus (intro _; (simp; rfl))); (focus (omega)); (focus (omega)); (focus (((simp only [Int.toNat_natCast, Int.reduceToNat, Nat.mul_one, Nat.zero_add, Nat.add_zero, Nat.reduceMul, Nat.reduceAdd]); rfl))); (refine hK _ _ ?_; clear hK K)) | ((with_reducible refine' wp_rol_load hS ?_ ?_ ?_ ?_); rotate_left 4; (focus rfl); (focus ((repeat (first | with_reducible exact Split.here | with_reducible apply Split.there)); done)); (focus (intro _; (simp; done))); (refine hK _ _ ?_; clear hK K)) | ((with_reducible refine' wp_rol_string hS ?_ ?_ ?_ ?_ ?_ ?_); rotate_left 5; (focus (conv => lhs; whnf)); (focus ((repeat (first | with_reducible exact Split.here | with_reducible apply Split.there)); done)); (focus ((simp; rfl))); (focus ((simp; done))); (focus ((simp; done))); (refine hK _ _ ?_; clear hK K))) | ((with_reducible refine Txt.wpTxt_plain ?_ ?_ ?_); (focus with_reducible rfl); (focus rfl); intro _ _))
        go_roundw
        case rel =>
          refine ⟨k + 1, by omega, ?_, by go_num, by (refine Sat.ent hS ?_; repeat (first | (with_reducible exact Ent.refl _) | ((with_reducible apply Ent.pull); (focus ((repeat (first | with_reducible exact Split.here | with_reducible apply Split.there)); done))) | (with_reducible apply Ent.skip)))⟩
          rw [List.take_add_one, List.take_add_one, htk'.out, hl'.out, hm'.out, hlm]
        case measure => simp [intOf]; omega
      case neg =>
        have hxy : decide (xs = ys) = false := by
          simp only [decide_eq_false_iff_not]; intro h; rw [h, hm'.out] at hl'; exact hlm (Option.some.inj hl'.out).symm
        go_wp2_with (first | ((first | ((with_reducible refine wpList_plain ?_ ?_); (focus rfl); intro K hK) | ((with_reducible refine Txt.wpTxt_plain ?_ ?_ ?_); (focus rfl); (focus rfl); intro K hK)); (with_reducible refine' wp_strne_other ?_ ?_ ?_ ?_); rotate_left 2; (focus (conv => lhs; whnf)); (focus (conv => lhs; whnf)); (focus exact hlm); (refine hK _ _ ?_; clear hK K)) | ((with_reducible refine Txt.wp_region_text ?_ ?_ ?_); (focus kernel_rfl); (focus decide +kernel); intro Q' hQ'; have hS1 := hS.drew; clear hS; have hS := hS1; clear hS1) | (with_reducible refine Txt.wpTxt_nil ?_) | ((first | ((with_reducible refine wpList_plain ?_ ?_); (focus rfl); intro K hK) | ((with_reducible refine Txt.wpTxt_plain ?_ ?_ ?_); (focus rfl); (focus rfl); intro K hK)); first | ((with_reducible refine' wp_index_any ?_ ?_ ?_ ?_ ?_ ?_ ?_ ?_); rotate_left 8; (focus rfl); (focus rfl); (focus (intro _; (simp; rfl))); (focus (intro _; (simp; rfl))); (focus (omega)); (focus (omega)); (focus (((simp only [Int.toNat_natCast, Int.reduceToNat, Nat.mul_one, Nat.zero_add, Nat.add_zero, Nat.reduceMul, Nat.reduceAdd]); rfl))); (refine hK _ _ ?_; clear hK K)) | ((with_reducible refine' wp_rol_load hS ?_ ?_ ?_ ?_); rotate_left 4; (focus rfl); (focus ((repeat (first | with_reducible exact Split.here | with_reducible apply Split.there)); done)); (focus (intro _; (simp; done))); (refine hK _ _ ?_; clear hK K)) | ((with_reducible refine' wp_rol_string hS ?_ ?_ ?_ ?_ ?_ ?_); rotate_left 5; (focus (conv => lhs; whnf)); (focus ((repeat (first | with_reducible exact Split.here | with_reducible apply Split.there)); done)); (focus ((simp; rfl))); (focus ((simp; done))); (focus ((simp; done))); (refine hK _ _ ?_; clear hK K))) | ((with_reducible refine Txt.wpTxt_plain ?_ ?_ ?_); (focus with_reducible rfl); (focus rfl); intro _ _))
        go_ret
        refine ⟨by rw [hxy]; rfl, ?_⟩
        exact Sat.drop (A := RoL w0 (.slice (some ad1) xs.length c1) xs) (by (refine Sat.ent hS ?_; repeat (first | (with_reducible exact Ent.refl _) | ((with_reducible apply Ent.pull); (focus ((repeat (first | with_reducible exact Split.here | with_reducible apply Split.there)); done))) | (with_reducible apply Ent.skip))))
    case neg =>
      obtain rfl : k = xs.length := by omega
      rw [List.take_length, hn.out, List.take_length] at htk
      have hxy : decide (xs = ys) = true := by simp [htk]
      go_wp2_with (fail)
      go_ret
      exact ⟨by rw [hxy]; rfl, hS.drop.drop⟩
/-- Two lists, compared. -/
theorem sameLists_any {M1 M2 : List Asn} (v1 v2 : Value) (xs ys : List (List UInt8)) (hx : xs.length ≤ 140737488355328) (hS : Sat w0 w L) (s1 : Split L (RoL w0 v1 xs) M1) (s2 : Split L (RoL w0 v2 ys) M2) :
    Calls Tryd.prog 41 #[v1, v2] w fun r w' => r = .returned (.bool (decide (xs = ys))) ∧ Sat w0 w' L :=
  sameLists_two w0 w L v1 v2 xs ys hx ((hS.has s2 (pers_rol _ _ _)).has (.there s1) (pers_rol _ _ _))
end
end Go.Proofs.YtndnojbpapjdoaaDoor
