/- Package journal walked: what is written. -/
import Derived.Test.YtndnojbpapjdoaaDoorJrH
import Derived.Test.YtndnojbpapjdoaaDoorChk
import Derived.Test.YtndnojbpapjdoaaDoorErrI
set_option linter.unusedSimpArgs false
set_option linter.unusedVariables false
set_option linter.unusedSectionVars false
namespace Go.Proofs.YtndnojbpapjdoaaDoor
open Go.Sp Go.RowKit Go.Fld Go.Sha Go.Dr Go.Jr

section
variable (E : Nat → Addr) (b db : Nat) (d : Dr.Drum) (j : Jr.J) (v : Value) (w0 w : World) (L : List Asn)
set_option maxRecDepth 100000 in
theorem wrote_any (hD : DrErrs E w0) (hS : Sat w0 w (JBlk b j db v :: L)) :
    Calls Tryd.prog 72 #[.pointer (some ⟨b, 0, none⟩), .iface 182 (.pointer (some (E 6)))] w fun r w' => r = .returned (.iface 182 (.pointer (some (E 6)))) ∧ Sat w0 w' (JBlk b { j with dead := true } db v :: L) := by
  have hg6 := hD.power
  go_enter Tryd.func72, Tryd.ntmps72
  go_wp2_with (first | (go_at_call 82; ((with_reducible refine' (is_same _ _).mono ?sa1x15); (case' sa1x15 => (rintro r4 w4 ⟨rfl, rfl⟩)))) | ((((with_reducible refine wpList_plain ?_ ?_); (focus rfl); intro K hK)); first | ((with_reducible refine' wp_store hS ?_ ?_ ?_ ?_ ?_ ?_ ?_); rotate_left 6; (focus rfl); (focus ((repeat (with_reducible exact Split.here)); done)); (focus (conv => lhs; whnf)); (focus (intro _; (simp; done))); (focus rfl); (focus (simp; done)); intro w'; clear hS; intro hS; (try simp only [List.setIfInBounds_toArray, List.set_cons_succ, List.set_cons_zero] at hS); (refine hK _ _ ?_; clear hK K)) | ((with_reducible refine' wp_load_old hS ?_ ?_ ?_ ?_); rotate_left 2; (focus rfl); (focus (with_reducible assumption)); (focus (intro _; (simp; done))); (refine hK _ _ ?_; clear hK K))))
  go_ret
  exact ⟨rfl, by (refine Sat.ent hS ?_; repeat ((with_reducible exact Ent.refl _)))⟩
set_option maxRecDepth 100000 in
set_option maxHeartbeats 4000000 in
/-- A head is written, or the power goes. -/
theorem crown_any (h : Head) (place : Nat) (hd : d.ok) (hl : d.left ≤ 4611686018427387904) (hoff : d.off = false) (hp : place < d.n) (hh : above h = false) (ha : h.area ≤ 255) (hT : Table w0) (hD : DrErrs E w0) (hS : Sat w0 w (JBlk b j db v :: isDrum db d :: L)) :
    Calls Tryd.prog 60 #[.pointer (some ⟨b, 0, none⟩), HeadV h, .int .i64 (place : Int)] w fun r w' => r = .returned (erv E (Jr.crown d h place).1) ∧ Sat w0 w' (JBlk b (if (Jr.crown d h place).1 = 0 then { j with head := h, place := place } else { j with dead := true }) db v :: isDrum db (Jr.crown d h place).2 :: L) := by
  unfold above at hh
  have hh' := of_decide_eq_false hh
  have hok : Block.ok ⟨3, h.serial, h.gen, h.epoch, [UInt8.ofNat h.area]⟩ := ⟨show 3 ≤ 255 by decide, show h.serial ≤ 4294967295 by omega, show h.gen ≤ 4294967295 by omega, show h.epoch ≤ 4294967295 by omega, show 1 ≤ 46 by decide⟩
  have hlp := Jr.length_put hok
  unfold Jr.crown
  obtain ⟨p, hp2⟩ : ∃ p, p = Block.put ⟨3, h.serial, h.gen, h.epoch, [UInt8.ofNat h.area]⟩ := ⟨_, rfl⟩
  have hput := fun (v : Value) (w : World) (L : List Asn) => put_ok ⟨3, h.serial, h.gen, h.epoch, [UInt8.ofNat h.area]⟩ hok v w0 w L
  rw [← hp2] at hlp hput ⊢
  have hwr := fun (w : World) (L : List Asn) => Go.Proofs.YtndnojbpapjdoaaDoor.write_any E db d (place : Int) p hlp hd hl w0 w L
  have hne : (d.write (place : Int) p).1 = 0 ∨ (d.write (place : Int) p).1 = 6 := by
    unfold Drum.write
    have : d.ask (place : Int) = 0 := by unfold Drum.ask; rw [hoff, if_neg (by simp), if_neg (by omega)]
    rw [this]
    simp only [ne_eq, not_true_eq_false, if_false]
    split <;> simp
  obtain ⟨q, hq⟩ : ∃ q, q = d.write (place : Int) p := ⟨_, rfl⟩
  rw [← hq] at hwr hne ⊢
  obtain ⟨qe, qd⟩ := q
  simp only at hne hwr ⊢
  obtain ⟨u, hu⟩ : ∃ u, u = UInt8.ofNat h.area := ⟨_, rfl⟩
  have hput2 : ∀ (v : Value) (w : World) (L : List Asn), Table w0 → Sat w0 w L → Under w0 L v [u] → Calls Tryd.prog 70 #[.agg #[.int .i64 3, .int .i64 h.serial, .int .i64 h.gen, .int .i64 h.epoch, v]] w fun r w' => r = .returned (.tuple #[.agg (p.map B).toArray, .nilIface]) ∧ Sat w0 w' L := by rw [hu]; exact hput
  have Hput := Lib.hid hput2
  have Hwr := Lib.hid hwr
  have hb1 : IntKind.u8.wrap (h.area : Int) = (u.toNat : Int) := by rw [hu]; exact wrap_n_b _
  have Hb1 := Lib.hid hb1
  clear hput2 hb1 hu
  clear hput hwr hq hp2 hh hh' hok hd hl hoff hp
  rcases hne with rfl | rfl
  · unfold HeadV
    go_enter Tryd.func60, Tryd.ntmps60
    go_wp2_with (first | (go_at_call 70; ((with_reducible refine' (Hput.out _ _ _ hT hS (under_own ?sa2x55)).mono ?sa1x55); (case sa2x55 => ((repeat (with_reducible exact Split.here)); done)); (case' sa1x55 => (rintro r4 w4 ⟨rfl, hS1⟩; (clear hS; have hS := hS1; clear hS1))))) | (go_at_call 71; ((with_reducible refine' (Hwr.out _ _ hD (hS.split ?sb1x56)).mono ?sb2x56); (case sb1x56 => ((repeat (first | with_reducible exact Split.here | with_reducible apply Split.there)); done)); (case' sb2x56 => (rintro r4 w4 ⟨rfl, hS1⟩; (clear hS; have hS := hS1; clear hS1); dsimp only [erv])))) | ((with_reducible refine Txt.wp_region_text ?_ ?_ ?_); (focus kernel_rfl); (focus decide +kernel); intro Q' hQ'; have hS1 := hS.drew; clear hS; have hS := hS1; clear hS1) | (with_reducible refine Txt.wpTxt_nil ?_) | ((first | ((with_reducible refine wpList_plain ?_ ?_); (focus rfl); intro K hK) | ((with_reducible refine Txt.wpTxt_plain ?_ ?_ ?_); (focus rfl); (focus rfl); intro K hK)); first | ((with_reducible refine' wp_conv ?_ ?_ ?_ ?_ ?_); rotate_left 5; (focus (conv => lhs; whnf)); (focus (intro _; (simp; rfl))); (focus (intro _; (simp; rfl))); (focus (exact Hb1.out)); (refine hK _ _ ?_; clear hK K)) | ((with_reducible refine' wp_bytes_lit [u] hS ?_ ?_ ?_ ?_ ?_ ?_ ?_ ?_ ?_); rotate_left 3; (focus (intro _; (simp; rfl))); (focus (intro _; (simp; done))); (focus (intro _; (simp; rfl))); (focus rfl); (focus decide); (focus decide); (focus rfl); (focus kernel_rfl); intro w' b'; clear hS; intro hS; (refine hK _ _ ?_; clear hK K)) | ((with_reducible refine' wp_alloc_ba hS ?_ ?_); rotate_left 1; (focus (exact zero117)); intro w' b'; clear hS; intro hS; (refine hK _ _ ?_; clear hK K)) | ((with_reducible refine' wp_load_ba hS ?_ ?_ ?_ ?_ ?_ ?_); rotate_left 6; (focus rfl); (focus ((repeat (first | with_reducible exact Split.here | with_reducible apply Split.there)); done)); (focus (exact agg117)); (focus (exact sz117)); (focus (omega)); (refine hK _ _ ?_; clear hK K)) | ((with_reducible refine' wp_store_ba hS ?_ ?_ ?_ ?_ ?_ ?_ ?_); rotate_left 6; (focus rfl); (focus ((repeat (first | with_reducible exact Split.here | with_reducible apply Split.there)); done)); (focus rfl); (focus (exact sz117)); (focus (omega)); (focus ((simp; done))); intro w'; clear hS; intro hS; (refine hK _ _ ?_; clear hK K)) | ((with_reducible refine' wp_load hS ?_ ?_ ?_ ?_ ?_); rotate_left 7; (focus rfl); (focus ((repeat (first | with_reducible exact Split.here | with_reducible apply Split.there)); done)); (focus (((simp only [List.getElem?_toArray, List.getElem?_cons_zero, List.getElem?_cons_succ]); rfl))); (focus (intro _; (simp; done))); (refine hK _ _ ?_; clear hK K)) | ((with_reducible refine' wp_loadN hS ?_ ?_ ?_ ?_ ?_ ?_ ?_); rotate_left 8; (focus rfl); (focus ((repeat (first | with_reducible exact Split.here | with_reducible apply Split.there)); done)); (focus (intro _; (simp; done))); (focus (intro _; (simp; rfl))); (focus (simp; done)); (focus (simp; rfl)); (refine hK _ _ ?_; clear hK K)) | ((with_reducible refine' wp_store hS ?_ ?_ ?_ ?_ ?_ ?_ ?_); rotate_left 6; (focus rfl); (focus ((repeat (first | with_reducible exact Split.here | with_reducible apply Split.there)); done)); (focus (conv => lhs; whnf)); (focus (intro _; (simp; done))); (focus rfl); (focus (simp; done)); intro w'; clear hS; intro hS; (try simp only [List.setIfInBounds_toArray, List.set_cons_succ, List.set_cons_zero] at hS); (refine hK _ _ ?_; clear hK K)) | ((with_reducible refine' wp_storeN hS ?_ ?_ ?_ ?_ ?_ ?_ ?_ ?_); rotate_left 7; (focus rfl); (focus ((repeat (first | with_reducible exact Split.here | with_reducible apply Split.there)); done)); (focus (conv => lhs; whnf)); (focus (intro _; (simp; rfl))); (focus rfl); (focus (simp [Value.cells, Value.oneCell']; done)); (focus (simp; done)); intro w'; clear hS; intro hS; (try simp only [setCells, Value.cells, List.take_succ_cons, List.take_zero, List.drop_succ_cons, List.drop_zero, List.append_nil, List.nil_append, List.cons_append, List.length_cons, List.length_nil, Nat.zero_add, Nat.reduceAdd, List.drop_nil] at hS); (refine hK _ _ ?_; clear hK K)) | ((with_reducible refine' wp_box hS ?_ ?_); rotate_left 1; (focus (conv => lhs; whnf)); intro w' b'; clear hS; intro hS; (try simp only [Value.cells] at hS); (refine hK _ _ ?_; clear hK K))) | ((with_reducible refine Txt.wpTxt_plain ?_ ?_ ?_); (focus with_reducible rfl); (focus rfl); intro _ _))
    go_ret
    exact ⟨rfl, by (refine Sat.ent hS ?_; repeat (first | (with_reducible exact Ent.refl _) | ((with_reducible apply Ent.pull); (focus ((repeat (with_reducible exact Split.here)); done))) | (with_reducible apply Ent.skip)))⟩
  · unfold HeadV
    go_enter Tryd.func60, Tryd.ntmps60
    go_wp2_with (first | (go_at_call 70; ((with_reducible refine' (Hput.out _ _ _ hT hS (under_own ?sa2x63)).mono ?sa1x63); (case sa2x63 => ((repeat (with_reducible exact Split.here)); done)); (case' sa1x63 => (rintro r4 w4 ⟨rfl, hS1⟩; (clear hS; have hS := hS1; clear hS1))))) | (go_at_call 71; ((with_reducible refine' (Hwr.out _ _ hD (hS.split ?sb1x64)).mono ?sb2x64); (case sb1x64 => ((repeat (first | with_reducible exact Split.here | with_reducible apply Split.there)); done)); (case' sb2x64 => (rintro r4 w4 ⟨rfl, hS1⟩; (clear hS; have hS := hS1; clear hS1); dsimp only [erv])))) | (go_at_call 72; ((with_reducible refine' (wrote_any E b db j v w0 _ _ hD (hS.split ?sc1x65)).mono ?sc2x65); (case sc1x65 => ((repeat (first | with_reducible exact Split.here | with_reducible apply Split.there)); done)); (case' sc2x65 => (rintro r4 w4 ⟨rfl, hS1⟩; (clear hS; have hS := hS1; clear hS1))))) | ((with_reducible refine Txt.wp_region_text ?_ ?_ ?_); (focus kernel_rfl); (focus decide +kernel); intro Q' hQ'; have hS1 := hS.drew; clear hS; have hS := hS1; clear hS1) | (with_reducible refine Txt.wpTxt_nil ?_) | ((first | ((with_reducible refine wpList_plain ?_ ?_); (focus rfl); intro K hK) | ((with_reducible refine Txt.wpTxt_plain ?_ ?_ ?_); (focus rfl); (focus rfl); intro K hK)); first | ((with_reducible refine' wp_conv ?_ ?_ ?_ ?_ ?_); rotate_left 5; (focus (conv => lhs; whnf)); (focus (intro _; (simp; rfl))); (focus (intro _; (simp; rfl))); (focus (exact Hb1.out)); (refine hK _ _ ?_; clear hK K)) | ((with_reducible refine' wp_bytes_lit [u] hS ?_ ?_ ?_ ?_ ?_ ?_ ?_ ?_ ?_); rotate_left 3; (focus (intro _; (simp; rfl))); (focus (intro _; (simp; done))); (focus (intro _; (simp; rfl))); (focus rfl); (focus decide); (focus decide); (focus rfl); (focus kernel_rfl); intro w' b'; clear hS; intro hS; (refine hK _ _ ?_; clear hK K)) | ((with_reducible refine' wp_alloc_ba hS ?_ ?_); rotate_left 1; (focus (exact zero117)); intro w' b'; clear hS; intro hS; (refine hK _ _ ?_; clear hK K)) | ((with_reducible refine' wp_load_ba hS ?_ ?_ ?_ ?_ ?_ ?_); rotate_left 6; (focus rfl); (focus ((repeat (first | with_reducible exact Split.here | with_reducible apply Split.there)); done)); (focus (exact agg117)); (focus (exact sz117)); (focus (omega)); (refine hK _ _ ?_; clear hK K)) | ((with_reducible refine' wp_store_ba hS ?_ ?_ ?_ ?_ ?_ ?_ ?_); rotate_left 6; (focus rfl); (focus ((repeat (with_reducible exact Split.here)); done)); (focus rfl); (focus (exact sz117)); (focus (omega)); (focus ((simp; done))); intro w'; clear hS; intro hS; (refine hK _ _ ?_; clear hK K)) | ((with_reducible refine' wp_load hS ?_ ?_ ?_ ?_ ?_); rotate_left 7; (focus rfl); (focus ((repeat (first | with_reducible exact Split.here | with_reducible apply Split.there)); done)); (focus (((simp only [List.getElem?_toArray, List.getElem?_cons_zero, List.getElem?_cons_succ]); rfl))); (focus (intro _; (simp; done))); (refine hK _ _ ?_; clear hK K)) | ((with_reducible refine' wp_box hS ?_ ?_); rotate_left 1; (focus (conv => lhs; whnf)); intro w' b'; clear hS; intro hS; (try simp only [Value.cells] at hS); (refine hK _ _ ?_; clear hK K))) | ((with_reducible refine Txt.wpTxt_plain ?_ ?_ ?_); (focus with_reducible rfl); (focus rfl); intro _ _))
    go_ret
    exact ⟨rfl, by (refine Sat.ent hS ?_; repeat (first | (with_reducible exact Ent.refl _) | ((with_reducible apply Ent.pull); (focus ((repeat (with_reducible exact Split.here)); done))) | (with_reducible apply Ent.skip)))⟩
end
end Go.Proofs.YtndnojbpapjdoaaDoor
