/- Package journal walked: Open. -/
import Derived.Test.YtndnojbpapjdoaaDoorJrQ
set_option linter.unusedSimpArgs false
set_option linter.unusedVariables false
set_option linter.unusedSectionVars false
namespace Go.Proofs.YtndnojbpapjdoaaDoor
open Go.Sp Go.RowKit Go.Fld Go.Sha Go.Dr Go.Jr

theorem recs_n {w0 w : World} {L : List Asn} {a : Option Addr} {n c : Nat} {rs : List (List UInt8)} (h : Sat w0 w (Recs w0 (.slice a n c) rs :: L)) : n = rs.length := by
  obtain ⟨vs, hl, h1⟩ := recs_open h
  obtain ⟨_, _, hve, _⟩ := h1.row_len
  injection hve
section
variable (E : Nat → Addr) (db : Nat) (d : Dr.Drum) (w0 w : World) (L : List Asn)
set_option maxRecDepth 100000 in
set_option maxHeartbeats 8000000 in
theorem open_any (hd : d.ok) (hl : d.left ≤ 4611686018427387904) (hT : Table w0) (hE : JrErrs E w0) (hS : Sat w0 w (isDrum db d :: L)) :
    Calls Tryd.prog 38 #[.pointer (some ⟨db, 0, none⟩)] w fun r w' => FPost E db w0 L (Jr.open_ d) r w' := by
  have hask := fun (w : World) (L : List Asn) => jask_any E db d w0 w L hE.dr
  have hg8 := hE.full
  have hg12 := hE.none_
  unfold Jr.open_
  by_cases hak : Jr.ask d = 0
  case neg =>
    obtain ⟨k, hk⟩ := ask_succ hak
    rw [if_pos hak]
    rw [hk] at hask ⊢
    have Hask := Lib.hid hask
    clear hask hak hk hg8 hg12
    go_enter Tryd.func38, Tryd.ntmps38
    go_wp2_with ((go_at_call 56; ((with_reducible refine' (Hask.out _ _ hS).mono ?sa1x28); (case' sa1x28 => (rintro r4 w4 ⟨rfl, rfl⟩; dsimp only [erv])))))
    go_ret2
    exact ⟨rfl, hS⟩
  rw [if_neg (by simpa using hak)]
  rw [hak] at hask
  have Hask := Lib.hid hask
  have hoff : d.off = false ∧ 10 ≤ d.n := by
    unfold Jr.ask at hak
    split at hak
    · cases hak
    · rename_i h1
      split at hak
      · cases hak
      · exact ⟨by simpa using h1, by omega⟩
  obtain ⟨hoff, hn⟩ := hoff
  clear hask hak
  have hfd : ∀ (b : Nat) (w : World) (L : List Asn), Sat w0 w (Blk b (.cells #[.int .i64 0, .int .i64 0, .int .i64 0, .int .i64 0, .pointer (some ⟨db, 0, none⟩), .int .i64 0, .slice none 0 0, .int .i64 0, .bool false] 103) :: isDrum db d :: L) → Calls Tryd.prog 57 #[.pointer (some ⟨b, 0, none⟩)] w fun r w' => r = .returned (.tuple #[.bool (Jr.find d).isSome, .nilIface]) ∧ Sat w0 w' (JBlk b (withHead J.zero (Jr.find d)) db (.slice none 0 0) :: isDrum db d :: L) := fun b w L hS => find_any E b db d J.zero (.slice none 0 0) hd hoff (by omega) rfl w0 w L hT hE.fld hE.dr hS
  have hle := fun h p => find_le (d := d) (h := h) (p := p)
  obtain ⟨o, ho⟩ : ∃ o, o = Jr.find d := ⟨_, rfl⟩
  rw [← ho] at hfd ⊢
  have Hfd := Lib.hid hfd
  clear hfd
  cases o
  case none =>
    dsimp only
    clear ho hle
    go_enter Tryd.func38, Tryd.ntmps38
    go_wp2_with (first | (go_at_call 56; ((with_reducible refine' (Hask.out _ _ hS).mono ?sa1x57); (case' sa1x57 => (rintro r4 w4 ⟨rfl, rfl⟩; dsimp only [erv])))) | (go_at_call 57; ((with_reducible refine' (Hfd.out _ _ _ hS).mono ?sb1x58); (case' sb1x58 => (rintro r4 w4 ⟨rfl, hS1⟩; (clear hS; have hS := hS1; clear hS1))))) | ((with_reducible refine Txt.wp_region_text ?_ ?_ ?_); (focus kernel_rfl); (focus decide +kernel); intro Q' hQ'; have hS1 := hS.drew; clear hS; have hS := hS1; clear hS1) | (with_reducible refine Txt.wpTxt_nil ?_) | ((first | ((with_reducible refine wpList_plain ?_ ?_); (focus rfl); intro K hK) | ((with_reducible refine Txt.wpTxt_plain ?_ ?_ ?_); (focus rfl); (focus rfl); intro K hK)); first | ((with_reducible refine' wp_buildv (t := 103) (v := .agg #[.int .i64 0, .int .i64 0, .int .i64 0, .int .i64 0, .pointer (some ⟨db, 0, none⟩), .int .i64 0, .slice none 0 0, .int .i64 0, .bool false]) ?_ ?_); (focus (intro _; kernel_rfl)); (refine hK _ _ ?_; clear hK K)) | ((with_reducible refine' wp_box hS ?_ ?_); rotate_left 1; (focus (conv => lhs; whnf)); intro w' b'; clear hS; intro hS; (try simp only [Value.cells] at hS); (refine hK _ _ ?_; clear hK K)) | ((with_reducible refine' wp_load_old hS ?_ ?_ ?_ ?_); rotate_left 2; (focus rfl); (focus (with_reducible assumption)); (focus (intro _; (simp; done))); (refine hK _ _ ?_; clear hK K))) | ((with_reducible refine Txt.wpTxt_plain ?_ ?_ ?_); (focus with_reducible rfl); (focus rfl); intro _ _))
    go_ret2
    exact ⟨rfl, by (refine Sat.ent hS ?_; repeat (first | (with_reducible exact Ent.refl _) | ((with_reducible apply Ent.pull); (focus ((repeat (first | with_reducible exact Split.here | with_reducible apply Split.there)); done))) | (with_reducible apply Ent.skip)))⟩
  case some g =>
    obtain ⟨gh, gp⟩ := g
    obtain ⟨⟨g1, g2, g3, g4⟩, g5⟩ := hle gh gp ho.symm
    dsimp only
    have g1' : (gh.serial : Int) ≤ 4294967295 := by omega
    have g3' : (gh.epoch : Int) ≤ 4294967295 := by omega
    have g5' : (gp : Int) ≤ 1 := by omega
    have e5 : ((1 - gp : Nat) : Int) = 1 - (gp : Int) := by omega
    have hld : ∀ (b : Nat) (w : World) (L : List Asn), Sat w0 w (JBlk b ⟨gh, gp, [], 0, false⟩ db (.slice none 0 0) :: isDrum db d :: L) → Calls Tryd.prog 58 #[.pointer (some ⟨b, 0, none⟩)] w fun r w' => ∃ a c, r = .returned .nilIface ∧ Sat w0 w' (JBlk b ⟨gh, gp, (Jr.load d gh (Jr.half d.n + 1) [] 0 0).1, (Jr.load d gh (Jr.half d.n + 1) [] 0 0).2, false⟩ db (.slice a (Jr.load d gh (Jr.half d.n + 1) [] 0 0).1.length c) :: Recs w0 (.slice a (Jr.load d gh (Jr.half d.n + 1) [] 0 0).1.length c) (Jr.load d gh (Jr.half d.n + 1) [] 0 0).1 :: isDrum db d :: L) := by
      intro b w L hS
      refine (load_any E b db d ⟨gh, gp, [], 0, false⟩ hd hoff (by omega) g4 w0 w L hT hE.fld hE.dr none rfl rfl hS).mono ?_
      rintro r w' ⟨a, n, c, hr, h1⟩
      have hn := recs_n h1.drop
      subst hn
      exact ⟨a, c, hr, h1⟩
    obtain ⟨R, hR⟩ : ∃ R, R = Jr.load d gh (Jr.half d.n + 1) [] 0 0 := ⟨_, rfl⟩
    rw [← hR] at hld ⊢
    obtain ⟨R1, R2⟩ := R
    dsimp only at hld ⊢
    have Hld := Lib.hid hld
    clear hld hR
    by_cases hR0 : R1 = []
    case pos =>
      rw [if_pos hR0]
      subst hR0
      clear ho hle e5
      go_enter Tryd.func38, Tryd.ntmps38
      go_wp2_with (first | (go_at_call 56; ((with_reducible refine' (Hask.out _ _ hS).mono ?sa1x90); (case' sa1x90 => (rintro r4 w4 ⟨rfl, rfl⟩; dsimp only [erv])))) | (go_at_call 57; ((with_reducible refine' (Hfd.out _ _ _ hS).mono ?sb1x91); (case' sb1x91 => (rintro r4 w4 ⟨rfl, hS1⟩; dsimp only [withHead, J.zero, Option.isSome] at hS1 ⊢; (clear hS; have hS := hS1; clear hS1); obtain ⟨bj, hbj, hS1⟩ := name0 hS; subst hbj; (clear hS; have hS := hS1; clear hS1))))) | (go_at_call 58; ((with_reducible refine' (Hld.out _ _ _ (hS.ent ?sl1x92)).mono ?sl2x92); (case sl1x92 => (repeat ((with_reducible exact Ent.refl _)))); (case' sl2x92 => (rintro r4 w4 ⟨a0, c0, rfl, hS1⟩; (clear hS; have hS := hS1; clear hS1))))) | ((with_reducible refine Txt.wp_region_text ?_ ?_ ?_); (focus kernel_rfl); (focus decide +kernel); intro Q' hQ'; have hS1 := hS.drew; clear hS; have hS := hS1; clear hS1) | (with_reducible refine Txt.wpTxt_nil ?_) | ((first | ((with_reducible refine wpList_plain ?_ ?_); (focus rfl); intro K hK) | ((with_reducible refine Txt.wpTxt_plain ?_ ?_ ?_); (focus rfl); (focus rfl); intro K hK)); first | ((with_reducible refine' wp_buildv (t := 103) (v := .agg #[.int .i64 0, .int .i64 0, .int .i64 0, .int .i64 0, .pointer (some ⟨db, 0, none⟩), .int .i64 0, .slice none 0 0, .int .i64 0, .bool false]) ?_ ?_); (focus (intro _; kernel_rfl)); (refine hK _ _ ?_; clear hK K)) | ((with_reducible refine' wp_load hS ?_ ?_ ?_ ?_ ?_); rotate_left 7; (focus rfl); (focus ((repeat (first | with_reducible exact Split.here | with_reducible apply Split.there)); done)); (focus (((simp only [List.getElem?_toArray, List.getElem?_cons_zero, List.getElem?_cons_succ]); rfl))); (focus (intro _; (simp; done))); (refine hK _ _ ?_; clear hK K)) | ((with_reducible refine' wp_box hS ?_ ?_); rotate_left 1; (focus (conv => lhs; whnf)); intro w' b'; clear hS; intro hS; (try simp only [Value.cells] at hS); (refine hK _ _ ?_; clear hK K)) | ((with_reducible refine' wp_load_old hS ?_ ?_ ?_ ?_); rotate_left 2; (focus rfl); (focus (with_reducible assumption)); (focus (intro _; (simp; done))); (refine hK _ _ ?_; clear hK K))) | ((with_reducible refine Txt.wpTxt_plain ?_ ?_ ?_); (focus with_reducible rfl); (focus rfl); intro _ _))
      apply bodyPost_ret
      case hr => exact results_tmp2 rfl _ _ _
      case hd => rfl
      exact ⟨rfl, by (refine Sat.ent hS ?_; repeat (first | (with_reducible exact Ent.refl _) | ((with_reducible apply Ent.pull); (focus ((repeat (first | with_reducible exact Split.here | with_reducible apply Split.there)); done))) | (with_reducible apply Ent.skip)))⟩
    rw [if_neg hR0]
    have hR1 : (0 : Int) < (R1.length : Int) := by have := List.length_pos_iff.2 hR0; omega
    unfold Jr.next
    have e1 : ((gh.serial + 1 : Nat) : Int) = (gh.serial : Int) + 1 := by simp
    have e3 : ((gh.epoch + 1 : Nat) : Int) = (gh.epoch : Int) + 1 := by simp
    have habv := fun (w : World) (L : List Asn) (hS : Sat w0 w L) => above_any ⟨gh.serial + 1, gh.gen, gh.epoch + 1, gh.area⟩ w0 w L hS
    unfold HeadV at habv
    dsimp only at habv
    rw [e1, e3] at habv
    obtain ⟨t, ht⟩ : ∃ t, t = above ⟨gh.serial + 1, gh.gen, gh.epoch + 1, gh.area⟩ := ⟨_, rfl⟩
    rw [← ht] at habv
    have Habv := Lib.hid habv
    clear habv
    cases t
    case true =>
      rw [if_pos ht.symm]
      clear ho hle ht g1 g2 g3 g4 g5 hR0 e5 e1 e3
      go_enter Tryd.func38, Tryd.ntmps38
      go_wp2_with (first | (go_at_call 56; ((with_reducible refine' (Hask.out _ _ hS).mono ?sa1x117); (case' sa1x117 => (rintro r4 w4 ⟨rfl, rfl⟩; dsimp only [erv])))) | (go_at_call 57; ((with_reducible refine' (Hfd.out _ _ _ hS).mono ?sb1x118); (case' sb1x118 => (rintro r4 w4 ⟨rfl, hS1⟩; dsimp only [withHead, J.zero, Option.isSome] at hS1 ⊢; (clear hS; have hS := hS1; clear hS1); obtain ⟨bj, hbj, hS1⟩ := name0 hS; subst hbj; (clear hS; have hS := hS1; clear hS1))))) | (go_at_call 58; ((with_reducible refine' (Hld.out _ _ _ (hS.ent ?sl1x119)).mono ?sl2x119); (case sl1x119 => (repeat ((with_reducible exact Ent.refl _)))); (case' sl2x119 => (rintro r4 w4 ⟨a0, c0, rfl, hS1⟩; (clear hS; have hS := hS1; clear hS1))))) | (go_at_call 59; ((with_reducible refine' (Habv.out _ _ hS).mono ?sd1x120); (case' sd1x120 => (rintro r4 w4 ⟨rfl, hS1⟩; (clear hS; have hS := hS1; clear hS1))))) | ((with_reducible refine Txt.wp_region_text ?_ ?_ ?_); (focus kernel_rfl); (focus decide +kernel); intro Q' hQ'; have hS1 := hS.drew; clear hS; have hS := hS1; clear hS1) | (with_reducible refine Txt.wpTxt_nil ?_) | ((first | ((with_reducible refine wpList_plain ?_ ?_); (focus rfl); intro K hK) | ((with_reducible refine Txt.wpTxt_plain ?_ ?_ ?_); (focus rfl); (focus rfl); intro K hK)); first | ((with_reducible refine' wp_buildv (t := 103) (v := .agg #[.int .i64 0, .int .i64 0, .int .i64 0, .int .i64 0, .pointer (some ⟨db, 0, none⟩), .int .i64 0, .slice none 0 0, .int .i64 0, .bool false]) ?_ ?_); (focus (intro _; kernel_rfl)); (refine hK _ _ ?_; clear hK K)) | ((with_reducible refine' wp_load hS ?_ ?_ ?_ ?_ ?_); rotate_left 7; (focus rfl); (focus ((repeat (first | with_reducible exact Split.here | with_reducible apply Split.there)); done)); (focus (((simp only [List.getElem?_toArray, List.getElem?_cons_zero, List.getElem?_cons_succ]); rfl))); (focus (intro _; (simp; done))); (refine hK _ _ ?_; clear hK K)) | ((with_reducible refine' wp_loadN hS ?_ ?_ ?_ ?_ ?_ ?_ ?_); rotate_left 8; (focus rfl); (focus ((repeat (first | with_reducible exact Split.here | with_reducible apply Split.there)); done)); (focus (intro _; (simp; done))); (focus (intro _; (simp; rfl))); (focus (simp; done)); (focus (simp; rfl)); (refine hK _ _ ?_; clear hK K)) | ((with_reducible refine' wp_store hS ?_ ?_ ?_ ?_ ?_ ?_ ?_); rotate_left 6; (focus rfl); (focus ((repeat (with_reducible exact Split.here)); done)); (focus (conv => lhs; whnf)); (focus (intro _; (simp; done))); (focus rfl); (focus (simp; done)); intro w'; clear hS; intro hS; (try simp only [List.setIfInBounds_toArray, List.set_cons_succ, List.set_cons_zero] at hS); (refine hK _ _ ?_; clear hK K)) | ((with_reducible refine' wp_storeN hS ?_ ?_ ?_ ?_ ?_ ?_ ?_ ?_); rotate_left 7; (focus rfl); (focus ((repeat (with_reducible exact Split.here)); done)); (focus (conv => lhs; whnf)); (focus (intro _; (simp; rfl))); (focus rfl); (focus (simp [Value.cells, Value.oneCell']; done)); (focus (simp; done)); intro w'; clear hS; intro hS; (try simp only [setCells, Value.cells, List.take_succ_cons, List.take_zero, List.drop_succ_cons, List.drop_zero, List.append_nil, List.nil_append, List.cons_append, List.length_cons, List.length_nil, Nat.zero_add, Nat.reduceAdd, List.drop_nil] at hS); (refine hK _ _ ?_; clear hK K)) | ((with_reducible refine' wp_alloc hS ?_ ?_); rotate_left 1; (focus (intro _; (simp; rfl))); intro w' b'; clear hS; intro hS; (try simp only [Value.cells] at hS); (refine hK _ _ ?_; clear hK K)) | ((with_reducible refine' wp_box hS ?_ ?_); rotate_left 1; (focus (conv => lhs; whnf)); intro w' b'; clear hS; intro hS; (try simp only [Value.cells] at hS); (refine hK _ _ ?_; clear hK K)) | ((with_reducible refine' wp_load_old hS ?_ ?_ ?_ ?_); rotate_left 2; (focus rfl); (focus (with_reducible assumption)); (focus (intro _; (simp; done))); (refine hK _ _ ?_; clear hK K))) | ((with_reducible refine Txt.wpTxt_plain ?_ ?_ ?_); (focus with_reducible rfl); (focus rfl); intro _ _))
      go_ret2
      exact ⟨rfl, by (refine Sat.ent hS ?_; repeat (first | (with_reducible exact Ent.refl _) | ((with_reducible apply Ent.pull); (focus ((repeat (first | with_reducible exact Split.here | with_reducible apply Split.there)); done))) | (with_reducible apply Ent.skip)))⟩
    rw [if_neg (by rw [← ht]; decide)]
    have hcr := fun (b : Nat) (v : Value) (w : World) (L : List Asn) => crown_any E b db d ⟨gh, gp, R1, R2, false⟩ v w0 w L ⟨gh.serial + 1, gh.gen, gh.epoch + 1, gh.area⟩ (1 - gp) hd hl hoff (by omega) ht.symm (by show gh.area ≤ 255; omega) hT hE.dr
    unfold HeadV at hcr
    dsimp only at hcr
    rw [e5, e1, e3] at hcr
    have hc2 : (Jr.crown d ⟨gh.serial + 1, gh.gen, gh.epoch + 1, gh.area⟩ (1 - gp)).1 = 0 ∨ (Jr.crown d ⟨gh.serial + 1, gh.gen, gh.epoch + 1, gh.area⟩ (1 - gp)).1 = 6 := write_two hoff (by omega)
    obtain ⟨q, hq⟩ : ∃ q, q = Jr.crown d ⟨gh.serial + 1, gh.gen, gh.epoch + 1, gh.area⟩ (1 - gp) := ⟨_, rfl⟩
    rw [← hq] at hcr hc2 ⊢
    have Hcr := Lib.hid hcr
    obtain ⟨qe, qd⟩ := q
    dsimp only at hc2 ⊢
    clear ho hle ht g1 g2 g3 g4 g5 hR0 e5 e1 e3 hcr hq
    rcases hc2 with rfl | rfl
    · go_enter Tryd.func38, Tryd.ntmps38
      go_wp2_with (first | (go_at_call 56; ((with_reducible refine' (Hask.out _ _ hS).mono ?sa1x139); (case' sa1x139 => (rintro r4 w4 ⟨rfl, rfl⟩; dsimp only [erv])))) | (go_at_call 57; ((with_reducible refine' (Hfd.out _ _ _ hS).mono ?sb1x140); (case' sb1x140 => (rintro r4 w4 ⟨rfl, hS1⟩; dsimp only [withHead, J.zero, Option.isSome] at hS1 ⊢; (clear hS; have hS := hS1; clear hS1); obtain ⟨bj, hbj, hS1⟩ := name0 hS; subst hbj; (clear hS; have hS := hS1; clear hS1))))) | (go_at_call 58; ((with_reducible refine' (Hld.out _ _ _ (hS.ent ?sl1x141)).mono ?sl2x141); (case sl1x141 => (repeat ((with_reducible exact Ent.refl _)))); (case' sl2x141 => (rintro r4 w4 ⟨a0, c0, rfl, hS1⟩; (clear hS; have hS := hS1; clear hS1))))) | (go_at_call 59; ((with_reducible refine' (Habv.out _ _ hS).mono ?sd1x142); (case' sd1x142 => (rintro r4 w4 ⟨rfl, hS1⟩; (clear hS; have hS := hS1; clear hS1))))) | (go_at_call 60; ((with_reducible refine' (Hcr.out _ (.slice a0 R1.length c0) _ _ (hS.ent ?sr1x143)).mono ?sr3x143); (case sr1x143 => (repeat (first | (with_reducible exact Ent.refl _) | ((with_reducible apply Ent.pull); (focus ((repeat (first | with_reducible exact Split.here | with_reducible apply Split.there)); done)))))); (case' sr3x143 => (rintro r4 w4 ⟨rfl, hS1⟩; (clear hS; have hS := hS1; clear hS1); dsimp only [erv]; (rw [if_pos trivial] at hS))))) | ((with_reducible refine Txt.wp_region_text ?_ ?_ ?_); (focus kernel_rfl); (focus decide +kernel); intro Q' hQ'; have hS1 := hS.drew; clear hS; have hS := hS1; clear hS1) | (with_reducible refine Txt.wpTxt_nil ?_) | ((first | ((with_reducible refine wpList_plain ?_ ?_); (focus rfl); intro K hK) | ((with_reducible refine Txt.wpTxt_plain ?_ ?_ ?_); (focus rfl); (focus rfl); intro K hK)); first | ((with_reducible refine' wp_buildv (t := 103) (v := .agg #[.int .i64 0, .int .i64 0, .int .i64 0, .int .i64 0, .pointer (some ⟨db, 0, none⟩), .int .i64 0, .slice none 0 0, .int .i64 0, .bool false]) ?_ ?_); (focus (intro _; kernel_rfl)); (refine hK _ _ ?_; clear hK K)) | ((with_reducible refine' wp_load hS ?_ ?_ ?_ ?_ ?_); rotate_left 7; (focus rfl); (focus ((repeat (first | with_reducible exact Split.here | with_reducible apply Split.there)); done)); (focus (((simp only [List.getElem?_toArray, List.getElem?_cons_zero, List.getElem?_cons_succ]); rfl))); (focus (intro _; (simp; done))); (refine hK _ _ ?_; clear hK K)) | ((with_reducible refine' wp_loadN hS ?_ ?_ ?_ ?_ ?_ ?_ ?_); rotate_left 8; (focus rfl); (focus ((repeat (with_reducible exact Split.here)); done)); (focus (intro _; (simp; done))); (focus (intro _; (simp; rfl))); (focus (simp; done)); (focus (simp; rfl)); (refine hK _ _ ?_; clear hK K)) | ((with_reducible refine' wp_store hS ?_ ?_ ?_ ?_ ?_ ?_ ?_); rotate_left 6; (focus rfl); (focus ((repeat (with_reducible exact Split.here)); done)); (focus (conv => lhs; whnf)); (focus (intro _; (simp; done))); (focus rfl); (focus (simp; done)); intro w'; clear hS; intro hS; (try simp only [List.setIfInBounds_toArray, List.set_cons_succ, List.set_cons_zero] at hS); (refine hK _ _ ?_; clear hK K)) | ((with_reducible refine' wp_storeN hS ?_ ?_ ?_ ?_ ?_ ?_ ?_ ?_); rotate_left 7; (focus rfl); (focus ((repeat (with_reducible exact Split.here)); done)); (focus (conv => lhs; whnf)); (focus (intro _; (simp; rfl))); (focus rfl); (focus (simp [Value.cells, Value.oneCell']; done)); (focus (simp; done)); intro w'; clear hS; intro hS; (try simp only [setCells, Value.cells, List.take_succ_cons, List.take_zero, List.drop_succ_cons, List.drop_zero, List.append_nil, List.nil_append, List.cons_append, List.length_cons, List.length_nil, Nat.zero_add, Nat.reduceAdd, List.drop_nil] at hS); (refine hK _ _ ?_; clear hK K)) | ((with_reducible refine' wp_alloc hS ?_ ?_); rotate_left 1; (focus (intro _; (simp; rfl))); intro w' b'; clear hS; intro hS; (try simp only [Value.cells] at hS); (refine hK _ _ ?_; clear hK K)) | ((with_reducible refine' wp_box hS ?_ ?_); rotate_left 1; (focus (conv => lhs; whnf)); intro w' b'; clear hS; intro hS; (try simp only [Value.cells] at hS); (refine hK _ _ ?_; clear hK K))) | ((with_reducible refine Txt.wpTxt_plain ?_ ?_ ?_); (focus with_reducible rfl); (focus rfl); intro _ _))
      go_ret2
      exact ⟨_, rfl, isJ_shut a0 R1.length c0 hS (by (repeat (first | (with_reducible exact Ent.refl _) | ((with_reducible apply Ent.pull); (focus ((repeat (first | with_reducible exact Split.here | with_reducible apply Split.there)); done))) | (with_reducible apply Ent.skip))))⟩
    · go_enter Tryd.func38, Tryd.ntmps38
      go_wp2_with (first | (go_at_call 56; ((with_reducible refine' (Hask.out _ _ hS).mono ?sa1x149); (case' sa1x149 => (rintro r4 w4 ⟨rfl, rfl⟩; dsimp only [erv])))) | (go_at_call 57; ((with_reducible refine' (Hfd.out _ _ _ hS).mono ?sb1x150); (case' sb1x150 => (rintro r4 w4 ⟨rfl, hS1⟩; dsimp only [withHead, J.zero, Option.isSome] at hS1 ⊢; (clear hS; have hS := hS1; clear hS1); obtain ⟨bj, hbj, hS1⟩ := name0 hS; subst hbj; (clear hS; have hS := hS1; clear hS1))))) | (go_at_call 58; ((with_reducible refine' (Hld.out _ _ _ (hS.ent ?sl1x151)).mono ?sl2x151); (case sl1x151 => (repeat ((with_reducible exact Ent.refl _)))); (case' sl2x151 => (rintro r4 w4 ⟨a0, c0, rfl, hS1⟩; (clear hS; have hS := hS1; clear hS1))))) | (go_at_call 59; ((with_reducible refine' (Habv.out _ _ hS).mono ?sd1x152); (case' sd1x152 => (rintro r4 w4 ⟨rfl, hS1⟩; (clear hS; have hS := hS1; clear hS1))))) | (go_at_call 60; ((with_reducible refine' (Hcr.out _ (.slice a0 R1.length c0) _ _ (hS.ent ?sr1x153)).mono ?sr3x153); (case sr1x153 => (repeat (first | (with_reducible exact Ent.refl _) | ((with_reducible apply Ent.pull); (focus ((repeat (first | with_reducible exact Split.here | with_reducible apply Split.there)); done)))))); (case' sr3x153 => (rintro r4 w4 ⟨rfl, hS1⟩; (clear hS; have hS := hS1; clear hS1); dsimp only [erv]; (rw [if_neg (show ¬ (6 : Nat) = 0 by decide)] at hS))))) | ((with_reducible refine Txt.wp_region_text ?_ ?_ ?_); (focus kernel_rfl); (focus decide +kernel); intro Q' hQ'; have hS1 := hS.drew; clear hS; have hS := hS1; clear hS1) | (with_reducible refine Txt.wpTxt_nil ?_) | ((first | ((with_reducible refine wpList_plain ?_ ?_); (focus rfl); intro K hK) | ((with_reducible refine Txt.wpTxt_plain ?_ ?_ ?_); (focus rfl); (focus rfl); intro K hK)); first | ((with_reducible refine' wp_buildv (t := 103) (v := .agg #[.int .i64 0, .int .i64 0, .int .i64 0, .int .i64 0, .pointer (some ⟨db, 0, none⟩), .int .i64 0, .slice none 0 0, .int .i64 0, .bool false]) ?_ ?_); (focus (intro _; kernel_rfl)); (refine hK _ _ ?_; clear hK K)) | ((with_reducible refine' wp_load hS ?_ ?_ ?_ ?_ ?_); rotate_left 7; (focus rfl); (focus ((repeat (first | with_reducible exact Split.here | with_reducible apply Split.there)); done)); (focus (((simp only [List.getElem?_toArray, List.getElem?_cons_zero, List.getElem?_cons_succ]); rfl))); (focus (intro _; (simp; done))); (refine hK _ _ ?_; clear hK K)) | ((with_reducible refine' wp_loadN hS ?_ ?_ ?_ ?_ ?_ ?_ ?_); rotate_left 8; (focus rfl); (focus ((repeat (with_reducible exact Split.here)); done)); (focus (intro _; (simp; done))); (focus (intro _; (simp; rfl))); (focus (simp; done)); (focus (simp; rfl)); (refine hK _ _ ?_; clear hK K)) | ((with_reducible refine' wp_store hS ?_ ?_ ?_ ?_ ?_ ?_ ?_); rotate_left 6; (focus rfl); (focus ((repeat (with_reducible exact Split.here)); done)); (focus (conv => lhs; whnf)); (focus (intro _; (simp; done))); (focus rfl); (focus (simp; done)); intro w'; clear hS; intro hS; (try simp only [List.setIfInBounds_toArray, List.set_cons_succ, List.set_cons_zero] at hS); (refine hK _ _ ?_; clear hK K)) | ((with_reducible refine' wp_storeN hS ?_ ?_ ?_ ?_ ?_ ?_ ?_ ?_); rotate_left 7; (focus rfl); (focus ((repeat (with_reducible exact Split.here)); done)); (focus (conv => lhs; whnf)); (focus (intro _; (simp; rfl))); (focus rfl); (focus (simp [Value.cells, Value.oneCell']; done)); (focus (simp; done)); intro w'; clear hS; intro hS; (try simp only [setCells, Value.cells, List.take_succ_cons, List.take_zero, List.drop_succ_cons, List.drop_zero, List.append_nil, List.nil_append, List.cons_append, List.length_cons, List.length_nil, Nat.zero_add, Nat.reduceAdd, List.drop_nil] at hS); (refine hK _ _ ?_; clear hK K)) | ((with_reducible refine' wp_alloc hS ?_ ?_); rotate_left 1; (focus (intro _; (simp; rfl))); intro w' b'; clear hS; intro hS; (try simp only [Value.cells] at hS); (refine hK _ _ ?_; clear hK K)) | ((with_reducible refine' wp_box hS ?_ ?_); rotate_left 1; (focus (conv => lhs; whnf)); intro w' b'; clear hS; intro hS; (try simp only [Value.cells] at hS); (refine hK _ _ ?_; clear hK K))) | ((with_reducible refine Txt.wpTxt_plain ?_ ?_ ?_); (focus with_reducible rfl); (focus rfl); intro _ _))
      go_ret2
      exact ⟨rfl, by (refine Sat.ent hS ?_; repeat (first | (with_reducible exact Ent.refl _) | ((with_reducible apply Ent.pull); (focus ((repeat (first | with_reducible exact Split.here | with_reducible apply Split.there)); done))) | (with_reducible apply Ent.skip)))⟩
end
end Go.Proofs.YtndnojbpapjdoaaDoor
