/- Package journal walked: Append, Compact. -/
import Derived.Test.YtndnojbpapjdoaaDoorJrN
set_option linter.unusedSimpArgs false
set_option linter.unusedVariables false
set_option linter.unusedSectionVars false
namespace Go.Proofs.YtndnojbpapjdoaaDoor
open Go.Sp Go.RowKit Go.Fld Go.Sha Go.Dr Go.Jr

/-- The errors that package journal gives. -/
structure JrErrs (E : Nat → Addr) (w0 : World) : Prop where
  fld : FldErrs E w0
  dr : DrErrs E w0
  long : w0.cell? ⟨4, 0, none⟩ = some (.iface 182 (.pointer (some (E 3))))
  full : w0.cell? ⟨5, 0, none⟩ = some (.iface 182 (.pointer (some (E 8))))
  none_ : w0.cell? ⟨2, 0, none⟩ = some (.iface 182 (.pointer (some (E 12))))
  state : w0.cell? ⟨6, 0, none⟩ = some (.iface 182 (.pointer (some (E 17))))
section
variable (E : Nat → Addr) (b db : Nat) (d : Dr.Drum) (j : Jr.J) (w0 w : World) (L : List Asn)
set_option maxRecDepth 100000 in
set_option maxHeartbeats 4000000 in
theorem can_any (bv : Value) (l : List UInt8) (hlen : l.length ≤ 140737488355328) (hE : JrErrs E w0) (hS : Sat w0 w (isJ w0 b db j :: isDrum db d :: L)) (hr : Under w0 L bv l) :
    Calls Tryd.prog 64 #[.pointer (some ⟨b, 0, none⟩), bv] w fun r w' => JPost E b db w0 L (j.can d l, { j with dead := j.dead || d.off }, d) r w' := by
  obtain ⟨a0, n0, c0, hS1⟩ := isJ_open hS
  clear hS
  have hS := hS1
  clear hS1
  obtain ⟨ba, bc, rfl, hbc⟩ := hr w hS.drop.drop.drop
  have hg3 := hE.long
  have hg6 := hE.dr.power
  have hg17 := hE.state
  have hD := hE.dr
  have ho := off_any db d w0
  obtain ⟨o, hoff⟩ : ∃ o, o = d.off := ⟨_, rfl⟩
  unfold Jr.J.can
  rw [← hoff] at ho ⊢
  have Ho := Lib.hid ho
  clear ho hoff
  obtain ⟨jh, jp, jr, ju, jd⟩ := j
  dsimp only at hS ⊢
  cases jd
  case true =>
    rw [if_pos rfl]
    go_enter Tryd.func64, Tryd.ntmps64
    go_wp2_with (((((with_reducible refine wpList_plain ?_ ?_); (focus rfl); intro K hK)); first | ((with_reducible refine' wp_load hS ?_ ?_ ?_ ?_ ?_); rotate_left 7; (focus rfl); (focus ((repeat (first | with_reducible exact Split.here | with_reducible apply Split.there)); done)); (focus (((simp only [List.getElem?_toArray, List.getElem?_cons_zero, List.getElem?_cons_succ]); rfl))); (focus (intro _; (simp; done))); (refine hK _ _ ?_; clear hK K)) | ((with_reducible refine' wp_load_old hS ?_ ?_ ?_ ?_); rotate_left 2; (focus rfl); (focus (with_reducible assumption)); (focus (intro _; (simp; done))); (refine hK _ _ ?_; clear hK K))))
    go_ret
    refine ⟨rfl, ?_⟩
    simp only [Bool.true_or, Bool.or_true, Bool.or_false, Bool.false_or]
    exact isJ_shut a0 n0 c0 hS (by (repeat ((with_reducible exact Ent.refl _))))
  case false =>
    rw [if_neg (by simp)]
    cases o
    case true =>
      rw [if_pos rfl]
      go_enter Tryd.func64, Tryd.ntmps64
      go_wp2_with (first | (go_at_call 66; ((with_reducible refine' (Ho.out _ _ (hS.split ?sa1x52)).mono ?sa2x52); (case sa1x52 => ((repeat (first | with_reducible exact Split.here | with_reducible apply Split.there)); done)); (case' sa2x52 => (rintro r4 w4 ⟨rfl, rfl⟩)))) | (go_at_call 72; ((with_reducible refine' (wrote_any E b db ⟨jh, jp, jr, ju, false⟩ (.slice a0 n0 c0) w0 _ _ hD (hS.split ?sc1x53)).mono ?sc2x53); (case sc1x53 => ((repeat (with_reducible exact Split.here)); done)); (case' sc2x53 => (rintro r4 w4 ⟨rfl, hS1⟩; (clear hS; have hS := hS1; clear hS1))))) | ((((with_reducible refine wpList_plain ?_ ?_); (focus rfl); intro K hK)); first | ((with_reducible refine' wp_load hS ?_ ?_ ?_ ?_ ?_); rotate_left 7; (focus rfl); (focus ((repeat (first | with_reducible exact Split.here | with_reducible apply Split.there)); done)); (focus (((simp only [List.getElem?_toArray, List.getElem?_cons_zero, List.getElem?_cons_succ]); rfl))); (focus (intro _; (simp; done))); (refine hK _ _ ?_; clear hK K)) | ((with_reducible refine' wp_load_old hS ?_ ?_ ?_ ?_); rotate_left 2; (focus rfl); (focus (with_reducible assumption)); (focus (intro _; (simp; done))); (refine hK _ _ ?_; clear hK K))))
      go_ret
      refine ⟨rfl, ?_⟩
      simp only [Bool.true_or, Bool.or_true, Bool.or_false, Bool.false_or]
      exact isJ_shut a0 n0 c0 hS (by (repeat ((with_reducible exact Ent.refl _))))
    case false =>
      rw [if_neg (by simp)]
      by_cases hl : 2000 < l.length
      case pos =>
        rw [if_pos hl]
        have hl' : (2000 : Int) < (l.length : Int) := by omega
        go_enter Tryd.func64, Tryd.ntmps64
        go_wp2_with (first | (go_at_call 66; ((with_reducible refine' (Ho.out _ _ (hS.split ?sa1x67)).mono ?sa2x67); (case sa1x67 => ((repeat (first | with_reducible exact Split.here | with_reducible apply Split.there)); done)); (case' sa2x67 => (rintro r4 w4 ⟨rfl, rfl⟩)))) | ((((with_reducible refine wpList_plain ?_ ?_); (focus rfl); intro K hK)); first | ((with_reducible refine' wp_load hS ?_ ?_ ?_ ?_ ?_); rotate_left 7; (focus rfl); (focus ((repeat (first | with_reducible exact Split.here | with_reducible apply Split.there)); done)); (focus (((simp only [List.getElem?_toArray, List.getElem?_cons_zero, List.getElem?_cons_succ]); rfl))); (focus (intro _; (simp; done))); (refine hK _ _ ?_; clear hK K)) | ((with_reducible refine' wp_load_old hS ?_ ?_ ?_ ?_); rotate_left 2; (focus rfl); (focus (with_reducible assumption)); (focus (intro _; (simp; done))); (refine hK _ _ ?_; clear hK K))))
        go_ret
        refine ⟨rfl, ?_⟩
        simp only [Bool.true_or, Bool.or_true, Bool.or_false, Bool.false_or]
        exact isJ_shut a0 n0 c0 hS (by (repeat ((with_reducible exact Ent.refl _))))
      case neg =>
        rw [if_neg hl]
        have hl' : (l.length : Int) ≤ 2000 := by omega
        go_enter Tryd.func64, Tryd.ntmps64
        go_wp2_with (first | (go_at_call 66; ((with_reducible refine' (Ho.out _ _ (hS.split ?sa1x78)).mono ?sa2x78); (case sa1x78 => ((repeat (first | with_reducible exact Split.here | with_reducible apply Split.there)); done)); (case' sa2x78 => (rintro r4 w4 ⟨rfl, rfl⟩)))) | ((((with_reducible refine wpList_plain ?_ ?_); (focus rfl); intro K hK)); ((with_reducible refine' wp_load hS ?_ ?_ ?_ ?_ ?_); rotate_left 7; (focus rfl); (focus ((repeat (with_reducible exact Split.here)); done)); (focus (((simp only [List.getElem?_toArray, List.getElem?_cons_zero, List.getElem?_cons_succ]); rfl))); (focus (intro _; (simp; done))); (refine hK _ _ ?_; clear hK K))))
        go_ret
        refine ⟨rfl, ?_⟩
        simp only [Bool.true_or, Bool.or_true, Bool.or_false, Bool.false_or]
        exact isJ_shut a0 n0 c0 hS (by (repeat ((with_reducible exact Ent.refl _))))
/-- What is asked of a journal that may write. -/
structure JOk (d : Dr.Drum) (j : Jr.J) : Prop where
  used : j.used ≤ half d.n
  recs : j.records.length ≤ j.used
  area : j.head.area ≤ 1
  place : j.place ≤ 1
  above : above j.head = false
theorem can_cases (j : Jr.J) (d : Dr.Drum) (l : List UInt8) : (∃ k, j.can d l = k + 1) ∨ (j.can d l = 0 ∧ j.dead = false ∧ d.off = false ∧ l.length ≤ 2000) := by
  unfold Jr.J.can
  split
  · exact .inl ⟨16, rfl⟩
  · rename_i h1
    split
    · exact .inl ⟨5, rfl⟩
    · rename_i h2
      split
      · exact .inl ⟨2, rfl⟩
      · rename_i h3
        exact .inr ⟨rfl, by simpa using h1, by simpa using h2, by omega⟩
set_option maxRecDepth 100000 in
set_option maxHeartbeats 8000000 in
theorem append_any (bv : Value) (l : List UInt8) (hlen : l.length ≤ 140737488355328) (hd : d.ok) (hl : d.left ≤ 4611686018427387904) (hn : 10 ≤ d.n) (hj : JOk d j) (hT : Table w0) (hE : JrErrs E w0) (hS : Sat w0 w (isJ w0 b db j :: isDrum db d :: L)) (hr : Under w0 L bv l) :
    Calls Tryd.prog 40 #[.pointer (some ⟨b, 0, none⟩), bv] w fun r w' => JPost E b db w0 L (j.append d l) r w' := by
  have hcan := fun (w : World) => can_any E b db d j w0 w L bv l hlen hE
  obtain ⟨ba, bc, rfl, hbc⟩ := hr w hS.drop.drop
  have hg8 := hE.full
  unfold Jr.J.append
  rcases can_cases j d l with ⟨k, hk⟩ | ⟨hk, hdead, hoff, hl2⟩
  · rw [if_pos (by rw [hk]; simp)]
    rw [hk] at hcan ⊢
    have Hcan := Lib.hid hcan
    clear hcan hk hg8
    go_enter Tryd.func40, Tryd.ntmps40
    go_wp2_with ((go_at_call 64; ((with_reducible refine' (Hcan.out _ hS hr).mono ?sa1x118); (case' sa1x118 => (rintro r4 w4 ⟨rfl, hS1⟩; dsimp only at hS1; (clear hS; have hS := hS1; clear hS1); dsimp only [erv])))))
    go_ret
    exact ⟨rfl, hS⟩
  rw [if_neg (by rw [hk]; simp)]
  rw [hk, hdead, hoff] at hcan
  have hjd : ({ j with dead := false || false } : Jr.J) = j := by
    obtain ⟨_, _, _, _, jd⟩ := j
    simp only at hdead
    subst hdead
    rfl
  rw [hjd] at hcan
  have Hcan := Lib.hid hcan
  clear hcan hk hjd
  have hd4 := hd.2
  have hha := half_any db d (by omega) hd.2 w0
  have hneed := fun w => need_any l.length (by omega) w
  obtain ⟨m, hm⟩ : ∃ m, m = half d.n := ⟨_, rfl⟩
  obtain ⟨nd, hnd⟩ : ∃ nd, nd = Jr.need l.length := ⟨_, rfl⟩
  have hm2 : m ≤ 2047 := by rw [hm]; unfold half; omega
  have hnd2 : nd ≤ 45 := by rw [hnd]; unfold Jr.need; omega
  have hu := hj.used
  rw [← hm] at hha hu ⊢
  rw [← hnd] at hneed ⊢
  have Hha := Lib.hid hha
  have Hneed := Lib.hid hneed
  have hu' : (j.used : Int) ≤ 2047 := by omega
  have hm' : (m : Int) ≤ 2047 := by omega
  have hnd' : (nd : Int) ≤ 45 := by omega
  by_cases hfull : m < j.used + nd
  case pos =>
    rw [if_pos hfull]
    have hf : decide ((m : Int) < (j.used : Int) + (nd : Int)) = true := by simp; omega
    have hf' : (m : Int) < (j.used : Int) + (nd : Int) := by omega
    clear hfull hm hnd hha hneed hj hdead hoff
    go_enter Tryd.func40, Tryd.ntmps40
    go_wp2_with (first | (go_at_call 64; ((with_reducible refine' (Hcan.out _ hS hr).mono ?sa1x155); (case' sa1x155 => (rintro r4 w4 ⟨rfl, hS1⟩; dsimp only at hS1; (clear hS; have hS := hS1; clear hS1); dsimp only [erv]; obtain ⟨a0, n0, c0, hS1⟩ := isJ_open hS; (clear hS; have hS := hS1; clear hS1))))) | (have hS1 := hS.drew; clear hS; have hS := hS1; clear hS1; (with_reducible refine' Txh.wp_region_held (id := 4) (fun w => ∃ M, Sat w0 w (isDrum db d :: M)) [(6, .int .i64 (nd : Int)), (12, .int .i64 (m : Int))] [6, 12] 14 rfl ?hm4x156 ?hB4x156 ?hI4x156 ?hh4x156); (case hm4x156 => kernel_rfl); (case hB4x156 => decide +kernel); (case hI4x156 => exact ⟨_, hS.split (by ((repeat (first | with_reducible exact Split.here | with_reducible apply Split.there)); done))⟩); (case' hh4x156 => (intro Q' hQ'))) | (with_reducible refine Txh.wpHeld_nil ?_) | (((with_reducible refine' Txh.wpHeld_held ?_ ?_ ?_ ?_); rotate_left 1; (focus rfl); (focus rfl); (focus ((with_reducible refine' fixed_call1 (f := 61) ?_ ?_ ?_); rotate_left 1; (focus (conv => lhs; whnf)); (focus (intro _ _; simp)); (focus (intro w5 hI5; (exact Hneed.out w5))))))) | (((with_reducible refine' Txh.wpHeld_held ?_ ?_ ?_ ?_); rotate_left 1; (focus rfl); (focus rfl); (focus ((with_reducible refine' fixed_call1 (f := 62) ?_ ?_ ?_); rotate_left 1; (focus (conv => lhs; whnf)); (focus (intro _ _; simp)); (focus (intro w5 hI5; (obtain ⟨M5, hM5⟩ := hI5; exact Hha.out w5 M5 hM5))))))) | ((with_reducible refine Txh.wpHeld_free ?_ ?_ ?_ ?_ ?_); (focus rfl); (focus rfl); (focus rfl); (focus decide +kernel); intro K hK; ((with_reducible refine' wp_load hS ?_ ?_ ?_ ?_ ?_); rotate_left 7; (focus rfl); (focus ((repeat (with_reducible exact Split.here)); done)); (focus (((simp only [List.getElem?_toArray, List.getElem?_cons_zero, List.getElem?_cons_succ]); rfl))); (focus (intro _; (simp; done))); (refine hK _ _ ?_; clear hK K))) | (((with_reducible refine Txh.wpHeld_free ?_ ?_ ?_ ?_ ?_); (focus rfl); (focus rfl); (focus rfl); (focus decide +kernel); intro _ _)) | ((((with_reducible refine wpList_plain ?_ ?_); (focus rfl); intro K hK)); ((with_reducible refine' wp_load_old hS ?_ ?_ ?_ ?_); rotate_left 2; (focus rfl); (focus (with_reducible assumption)); (focus (intro _; (simp; done))); (refine hK _ _ ?_; clear hK K))))
    go_ret
    exact ⟨rfl, isJ_shut a0 n0 c0 hS (by (repeat ((with_reducible exact Ent.refl _))))⟩
  rw [if_neg hfull]
  have hf' : (j.used : Int) + (nd : Int) ≤ (m : Int) := by omega
  have hf : decide ((m : Int) < (j.used : Int) + (nd : Int)) = false := by simp; omega
  have hD := hE.dr
  obtain ⟨a1, a2, a3⟩ := above_le hj.above
  have hcn := chunks_need l
  have hlk := lay_keeps a2 a3 hj.area (chunks (hdr l.length ++ l)) d j.used 1 hoff hd (by omega) (by omega) (by omega) (chunks_le _)
  have hlay := fun (j1 : Jr.J) (v : Value) (w : World) (L : List Asn) => lay_any E b db d j1 v w0 w L j.head j.used (.slice ba l.length bc) l hd hl hoff (by omega) hj.area hj.above hl2 (by omega)
  obtain ⟨q1, hq1⟩ : ∃ q, q = Jr.lay d j.head j.used 1 (chunks (hdr l.length ++ l)) := ⟨_, rfl⟩
  rw [← hq1] at hlk hlay ⊢
  clear hq1 hcn
  obtain ⟨e1, d1⟩ := q1
  dsimp only at hlk hlay ⊢
  obtain ⟨hk1, hc1⟩ := hlk
  have hlay2 : ∀ (j1 : Jr.J) (v : Value) (w : World) (L : List Asn), Table w0 → DrErrs E w0 → Sat w0 w (JBlk b j1 db v :: isDrum db d :: L) → Under w0 L (.slice ba l.length bc) l → Calls Tryd.prog 65 #[.pointer (some ⟨b, 0, none⟩), .agg #[.int .i64 j.head.serial, .int .i64 j.head.gen, .int .i64 j.head.epoch, .int .i64 j.head.area], .int .i64 j.used, .slice ba l.length bc] w fun r w' => LayPost E b db j1 v w0 L (e1, d1) r w' := hlay
  have Hlay := Lib.hid hlay2
  have hjr := hj.recs
  clear hlay hlay2 hfull hm hnd hha hneed hj hdead hoff a1 a2 a3 hk1
  rcases hc1 with ⟨rfl, ho1⟩ | ⟨rfl, ho1⟩
  · rw [if_pos rfl]
    clear ho1
    go_enter Tryd.func40, Tryd.ntmps40
    go_wp2_with (first | (go_at_call 64; ((with_reducible refine' (Hcan.out _ hS hr).mono ?sa1x184); (case' sa1x184 => (rintro r4 w4 ⟨rfl, hS1⟩; dsimp only at hS1; (clear hS; have hS := hS1; clear hS1); dsimp only [erv]; obtain ⟨a0, n0, c0, hS1⟩ := isJ_open hS; (clear hS; have hS := hS1; clear hS1))))) | (have hS1 := hS.drew; clear hS; have hS := hS1; clear hS1; (with_reducible refine' Txh.wp_region_held (id := 4) (fun w => ∃ M, Sat w0 w (isDrum db d :: M)) [(6, .int .i64 (nd : Int)), (12, .int .i64 (m : Int))] [6, 12] 14 rfl ?hm4x185 ?hB4x185 ?hI4x185 ?hh4x185); (case hm4x185 => kernel_rfl); (case hB4x185 => decide +kernel); (case hI4x185 => exact ⟨_, hS.split (by ((repeat (first | with_reducible exact Split.here | with_reducible apply Split.there)); done))⟩); (case' hh4x185 => (intro Q' hQ'))) | (with_reducible refine Txh.wpHeld_nil ?_) | (((with_reducible refine' Txh.wpHeld_held ?_ ?_ ?_ ?_); rotate_left 1; (focus rfl); (focus rfl); (focus ((with_reducible refine' fixed_call1 (f := 61) ?_ ?_ ?_); rotate_left 1; (focus (conv => lhs; whnf)); (focus (intro _ _; simp)); (focus (intro w5 hI5; (exact Hneed.out w5))))))) | (((with_reducible refine' Txh.wpHeld_held ?_ ?_ ?_ ?_); rotate_left 1; (focus rfl); (focus rfl); (focus ((with_reducible refine' fixed_call1 (f := 62) ?_ ?_ ?_); rotate_left 1; (focus (conv => lhs; whnf)); (focus (intro _ _; simp)); (focus (intro w5 hI5; (obtain ⟨M5, hM5⟩ := hI5; exact Hha.out w5 M5 hM5))))))) | ((with_reducible refine Txh.wpHeld_free ?_ ?_ ?_ ?_ ?_); (focus rfl); (focus rfl); (focus rfl); (focus decide +kernel); intro K hK; ((with_reducible refine' wp_load hS ?_ ?_ ?_ ?_ ?_); rotate_left 7; (focus rfl); (focus ((repeat (with_reducible exact Split.here)); done)); (focus (((simp only [List.getElem?_toArray, List.getElem?_cons_zero, List.getElem?_cons_succ]); rfl))); (focus (intro _; (simp; done))); (refine hK _ _ ?_; clear hK K))) | (((with_reducible refine Txh.wpHeld_free ?_ ?_ ?_ ?_ ?_); (focus rfl); (focus rfl); (focus rfl); (focus decide +kernel); intro _ _)) | (go_at_call 65; ((with_reducible refine' (Hlay.out j (.slice a0 n0 c0) _ _ hT hD (hS.ent ?sa1x187) (under_ent hr ?sa2x187)).mono ?sa3x187); (case sa1x187 => (repeat (first | (with_reducible exact Ent.refl _) | ((with_reducible apply Ent.pull); (focus ((repeat (first | with_reducible exact Split.here | with_reducible apply Split.there)); done)))))); (case sa2x187 => (repeat (first | (with_reducible exact Ent.refl _) | (with_reducible apply Ent.skip)))); (case' sa3x187 => (rintro r4 w4 ⟨rfl, hS1⟩; (clear hS; have hS := hS1; clear hS1); dsimp only [erv]; (rw [if_pos rfl] at hS))))) | ((with_reducible refine Txt.wp_region_text ?_ ?_ ?_); (focus kernel_rfl); (focus decide +kernel); intro Q' hQ'; have hS1 := hS.drew; clear hS; have hS := hS1; clear hS1) | (with_reducible refine Txt.wpTxt_nil ?_) | ((first | ((with_reducible refine wpList_plain ?_ ?_); (focus rfl); intro K hK) | ((with_reducible refine Txt.wpTxt_plain ?_ ?_ ?_); (focus rfl); (focus rfl); intro K hK)); first | ((with_reducible refine' wp_load hS ?_ ?_ ?_ ?_ ?_); rotate_left 7; (focus rfl); (focus ((repeat (with_reducible exact Split.here)); done)); (focus (((simp only [List.getElem?_toArray, List.getElem?_cons_zero, List.getElem?_cons_succ]); rfl))); (focus (intro _; (simp; done))); (refine hK _ _ ?_; clear hK K)) | ((with_reducible refine' wp_loadN hS ?_ ?_ ?_ ?_ ?_ ?_ ?_); rotate_left 8; (focus rfl); (focus ((repeat (with_reducible exact Split.here)); done)); (focus (intro _; (simp; done))); (focus (intro _; (simp; rfl))); (focus (simp; done)); (focus (simp; rfl)); (refine hK _ _ ?_; clear hK K))) | ((with_reducible refine Txt.wpTxt_plain ?_ ?_ ?_); (focus with_reducible rfl); (focus rfl); intro _ _))
    obtain ⟨vs, hvs, hS1⟩ := recs_open (hS.pick 2)
    clear hS
    have hS := hS1
    clear hS1
    obtain ⟨_, _, hve, _, hnc, hcm⟩ := hS.row_len
    simp only [Value.slice.injEq] at hve
    obtain ⟨rfl, rfl, rfl⟩ := hve
    go_wp2_with (first | (go_at_call 52; ((with_reducible refine' (clone_b _ l w0 _ _ hS (under_ent hr ?sd1x197) (by omega)).mono ?sd3x197); (case sd1x197 => (repeat (first | (with_reducible exact Ent.refl _) | (with_reducible apply Ent.skip)))); (case' sd3x197 => (rintro r4 w4 ⟨ca, cc, rfl, hS1⟩; clear hS; have hS := hS1.ro; clear hS1; (try ((refine hK _ _ ?_ ?_); (focus exact ⟨_, hS.split (by ((repeat (first | with_reducible exact Split.here | with_reducible apply Split.there)); done))⟩); clear hK K)))))) | (have hS1 := hS.drew; clear hS; have hS := hS1; clear hS1; (with_reducible refine' Txh.wp_region_held (id := 9) (fun w => ∃ M, Sat w0 w (JBlk b j db (.slice a0 j.records.length c0) :: M)) [(5, .slice a0 j.records.length c0), (13, .int .i64 (j.used : Int)), (16, .int .i64 (nd : Int))] [5, 13, 16] 20 rfl ?hm9x198 ?hB9x198 ?hI9x198 ?hh9x198); (case hm9x198 => kernel_rfl); (case hB9x198 => decide +kernel); (case hI9x198 => exact ⟨_, hS.split (by ((repeat (first | with_reducible exact Split.here | with_reducible apply Split.there)); done))⟩); (case' hh9x198 => (intro Q' hQ'))) | (with_reducible refine Txh.wpHeld_nil ?_) | (((with_reducible refine' Txh.wpHeld_held ?_ ?_ ?_ ?_); rotate_left 1; (focus rfl); (focus rfl); (focus ((with_reducible refine' fixed_load ?_ ?_ ?_); rotate_left 1; (focus rfl); (focus (intro _; (simp; done))); (focus (rintro w5 ⟨M5, hM5⟩; exact cell_of_split hM5 (by ((repeat (with_reducible exact Split.here)); done)) rfl)))))) | (((with_reducible refine' Txh.wpHeld_held ?_ ?_ ?_ ?_); rotate_left 1; (focus rfl); (focus rfl); (focus ((with_reducible refine' fixed_call1 (f := 61) ?_ ?_ ?_); rotate_left 1; (focus (conv => lhs; whnf)); (focus (intro _ _; simp)); (focus (intro w5 hI5; (exact Hneed.out w5))))))) | ((with_reducible refine Txh.wpHeld_free ?_ ?_ ?_ ?_ ?_); (focus rfl); (focus rfl); (focus rfl); (focus decide +kernel); intro K hK; ((with_reducible refine' wp_store hS ?_ ?_ ?_ ?_ ?_ ?_ ?_); rotate_left 6; (focus rfl); (focus ((repeat (first | with_reducible exact Split.here | with_reducible apply Split.there)); done)); (focus (conv => lhs; whnf)); (focus (intro _; (simp; done))); (focus rfl); (focus (simp; done)); intro w'; clear hS; intro hS; (try simp only [List.setIfInBounds_toArray, List.set_cons_succ, List.set_cons_zero] at hS); (refine hK _ _ ?_; clear hK K))) | ((((with_reducible refine Txh.wpHeld_owes ?_ ?_ ?_ ?_); (focus rfl); (focus rfl); (focus rfl); intro K hK)); first | ((with_reducible refine' wp_lit1 hS ?_ ?_ ?_ ?_ ?_ ?_); rotate_left 3; (focus (intro _; (simp; rfl))); (focus (intro _; (simp; done))); (focus (intro _; (simp; rfl))); (focus (conv => lhs; whnf)); (focus rfl); intro w' b'; clear hS; intro hS; (refine hK _ _ ⟨_, hS.split (by ((repeat (first | with_reducible exact Split.here | with_reducible apply Split.there)); done))⟩ ?_; clear hK K)) | ((with_reducible refine' wp_append_row (m := 1) (news := [.slice ca l.length cc]) slRec (hS.split ?raax199) ?rbax199 ?rcax199 ?rdax199 ?reax199 ?rfax199 ?rgax199); (case raax199 => ((repeat (first | with_reducible exact Split.here | with_reducible apply Split.there)); done)); (case rbax199 => rfl); (case rcax199 => rfl); (case rdax199 => (exact srcOne hS (by ((repeat (with_reducible exact Split.here)); done)) rfl)); (case reax199 => (unfold maxLen; omega)); (case rfax199 => omega); (case' rgax199 => (intro v' w'; clear hS; intro hS; obtain ⟨ra, rc, rfl, -⟩ := hS.row_len; (refine hK _ _ ⟨_, hS.split (by ((repeat (first | with_reducible exact Split.here | with_reducible apply Split.there)); done))⟩ ?_; clear hK K))))) | (((with_reducible refine Txh.wpHeld_free ?_ ?_ ?_ ?_ ?_); (focus rfl); (focus rfl); (focus rfl); (focus decide +kernel); intro _ _)) | (((with_reducible refine Txh.wpHeld_owes ?_ ?_ ?_ ?_); (focus rfl); (focus rfl); (focus rfl); intro K hK)))
    go_ret
    have h1 := recs_snoc hvs (hS.ent (by (repeat (first | (with_reducible exact Ent.refl _) | ((with_reducible apply Ent.pull); (focus ((repeat (first | with_reducible exact Split.here | with_reducible apply Split.there)); done)))))))
    have e1 : ((j.used + nd : Nat) : Int) = (j.used : Int) + (nd : Int) := by omega
    refine ⟨rfl, isJ_shut ra (j.records.length + 1) rc h1 ?_⟩
    show Ent _ (Blk b (.cells #[_, _, _, _, _, _, _, .int .i64 ((j.used + nd : Nat) : Int), _] _) :: _)
    rw [e1]
    (repeat (first | (with_reducible exact Ent.refl _) | ((with_reducible apply Ent.pull); (focus ((repeat (first | with_reducible exact Split.here | with_reducible apply Split.there)); done))) | (with_reducible apply Ent.skip)))
  · rw [if_neg (by decide)]
    clear ho1
    go_enter Tryd.func40, Tryd.ntmps40
    go_wp2_with (first | (go_at_call 64; ((with_reducible refine' (Hcan.out _ hS hr).mono ?sa1x212); (case' sa1x212 => (rintro r4 w4 ⟨rfl, hS1⟩; dsimp only at hS1; (clear hS; have hS := hS1; clear hS1); dsimp only [erv]; obtain ⟨a0, n0, c0, hS1⟩ := isJ_open hS; (clear hS; have hS := hS1; clear hS1))))) | (have hS1 := hS.drew; clear hS; have hS := hS1; clear hS1; (with_reducible refine' Txh.wp_region_held (id := 4) (fun w => ∃ M, Sat w0 w (isDrum db d :: M)) [(6, .int .i64 (nd : Int)), (12, .int .i64 (m : Int))] [6, 12] 14 rfl ?hm4x213 ?hB4x213 ?hI4x213 ?hh4x213); (case hm4x213 => kernel_rfl); (case hB4x213 => decide +kernel); (case hI4x213 => exact ⟨_, hS.split (by ((repeat (first | with_reducible exact Split.here | with_reducible apply Split.there)); done))⟩); (case' hh4x213 => (intro Q' hQ'))) | (with_reducible refine Txh.wpHeld_nil ?_) | (((with_reducible refine' Txh.wpHeld_held ?_ ?_ ?_ ?_); rotate_left 1; (focus rfl); (focus rfl); (focus ((with_reducible refine' fixed_call1 (f := 61) ?_ ?_ ?_); rotate_left 1; (focus (conv => lhs; whnf)); (focus (intro _ _; simp)); (focus (intro w5 hI5; (exact Hneed.out w5))))))) | (((with_reducible refine' Txh.wpHeld_held ?_ ?_ ?_ ?_); rotate_left 1; (focus rfl); (focus rfl); (focus ((with_reducible refine' fixed_call1 (f := 62) ?_ ?_ ?_); rotate_left 1; (focus (conv => lhs; whnf)); (focus (intro _ _; simp)); (focus (intro w5 hI5; (obtain ⟨M5, hM5⟩ := hI5; exact Hha.out w5 M5 hM5))))))) | ((with_reducible refine Txh.wpHeld_free ?_ ?_ ?_ ?_ ?_); (focus rfl); (focus rfl); (focus rfl); (focus decide +kernel); intro K hK; ((with_reducible refine' wp_load hS ?_ ?_ ?_ ?_ ?_); rotate_left 7; (focus rfl); (focus ((repeat (with_reducible exact Split.here)); done)); (focus (((simp only [List.getElem?_toArray, List.getElem?_cons_zero, List.getElem?_cons_succ]); rfl))); (focus (intro _; (simp; done))); (refine hK _ _ ?_; clear hK K))) | (((with_reducible refine Txh.wpHeld_free ?_ ?_ ?_ ?_ ?_); (focus rfl); (focus rfl); (focus rfl); (focus decide +kernel); intro _ _)) | (go_at_call 65; ((with_reducible refine' (Hlay.out j (.slice a0 n0 c0) _ _ hT hD (hS.ent ?sa1x215) (under_ent hr ?sa2x215)).mono ?sa3x215); (case sa1x215 => (repeat (first | (with_reducible exact Ent.refl _) | ((with_reducible apply Ent.pull); (focus ((repeat (first | with_reducible exact Split.here | with_reducible apply Split.there)); done)))))); (case sa2x215 => (repeat (first | (with_reducible exact Ent.refl _) | (with_reducible apply Ent.skip)))); (case' sa3x215 => (rintro r4 w4 ⟨rfl, hS1⟩; (clear hS; have hS := hS1; clear hS1); dsimp only [erv]; (rw [if_neg (show ¬ (6 : Nat) = 0 by decide)] at hS))))) | ((with_reducible refine Txt.wp_region_text ?_ ?_ ?_); (focus kernel_rfl); (focus decide +kernel); intro Q' hQ'; have hS1 := hS.drew; clear hS; have hS := hS1; clear hS1) | (with_reducible refine Txt.wpTxt_nil ?_) | ((first | ((with_reducible refine wpList_plain ?_ ?_); (focus rfl); intro K hK) | ((with_reducible refine Txt.wpTxt_plain ?_ ?_ ?_); (focus rfl); (focus rfl); intro K hK)); first | ((with_reducible refine' wp_load hS ?_ ?_ ?_ ?_ ?_); rotate_left 7; (focus rfl); (focus ((repeat (with_reducible exact Split.here)); done)); (focus (((simp only [List.getElem?_toArray, List.getElem?_cons_zero, List.getElem?_cons_succ]); rfl))); (focus (intro _; (simp; done))); (refine hK _ _ ?_; clear hK K)) | ((with_reducible refine' wp_loadN hS ?_ ?_ ?_ ?_ ?_ ?_ ?_); rotate_left 8; (focus rfl); (focus ((repeat (with_reducible exact Split.here)); done)); (focus (intro _; (simp; done))); (focus (intro _; (simp; rfl))); (focus (simp; done)); (focus (simp; rfl)); (refine hK _ _ ?_; clear hK K))) | ((with_reducible refine Txt.wpTxt_plain ?_ ?_ ?_); (focus with_reducible rfl); (focus rfl); intro _ _))
    go_ret
    exact ⟨rfl, isJ_shut a0 n0 c0 hS (by (repeat (first | (with_reducible exact Ent.refl _) | ((with_reducible apply Ent.pull); (focus ((repeat (first | with_reducible exact Split.here | with_reducible apply Split.there)); done))))))⟩
set_option maxRecDepth 100000 in
set_option maxHeartbeats 8000000 in
theorem compact_any (bv : Value) (l : List UInt8) (hlen : l.length ≤ 140737488355328) (hd : d.ok) (hl : d.left ≤ 4611686018427387904) (hn : 10 ≤ d.n) (hj : JOk d j) (hT : Table w0) (hE : JrErrs E w0) (hS : Sat w0 w (isJ w0 b db j :: isDrum db d :: L)) (hr : Under w0 L bv l) :
    Calls Tryd.prog 48 #[.pointer (some ⟨b, 0, none⟩), bv] w fun r w' => JPost E b db w0 L (j.compact d l) r w' := by
  have hcan := fun (w : World) => can_any E b db d j w0 w L bv l hlen hE
  obtain ⟨ba, bc, rfl, hbc⟩ := hr w hS.drop.drop
  have hg8 := hE.full
  unfold Jr.J.compact
  rcases can_cases j d l with ⟨k, hk⟩ | ⟨hk, hdead, hoff, hl2⟩
  · rw [if_pos (by rw [hk]; simp)]
    rw [hk] at hcan ⊢
    have Hcan := Lib.hid hcan
    clear hcan hk hg8
    go_enter Tryd.func48, Tryd.ntmps48
    go_wp2_with ((go_at_call 64; ((with_reducible refine' (Hcan.out _ hS hr).mono ?sa1x234); (case' sa1x234 => (rintro r4 w4 ⟨rfl, hS1⟩; dsimp only at hS1; (clear hS; have hS := hS1; clear hS1); dsimp only [erv])))))
    go_ret
    exact ⟨rfl, hS⟩
  rw [if_neg (by rw [hk]; simp)]
  rw [hk, hdead, hoff] at hcan
  have hjd : ({ j with dead := false || false } : Jr.J) = j := by
    obtain ⟨_, _, _, _, jd⟩ := j
    simp only at hdead
    subst hdead
    rfl
  rw [hjd] at hcan
  have Hcan := Lib.hid hcan
  clear hcan hk hjd
  have hd4 := hd.2
  have hha := half_any db d (by omega) hd.2 w0
  have hneed := fun w => need_any l.length (by omega) w
  obtain ⟨m, hm⟩ : ∃ m, m = half d.n := ⟨_, rfl⟩
  obtain ⟨nd, hnd⟩ : ∃ nd, nd = Jr.need l.length := ⟨_, rfl⟩
  have hm2 : m ≤ 2047 := by rw [hm]; unfold half; omega
  have hnd2 : nd ≤ 45 := by rw [hnd]; unfold Jr.need; omega
  rw [← hm] at hha ⊢
  rw [← hnd] at hneed ⊢
  have Hha := Lib.hid hha
  have Hneed := Lib.hid hneed
  have hm' : (m : Int) ≤ 2047 := by omega
  have hnd' : (nd : Int) ≤ 45 := by omega
  obtain ⟨b1, b2, b3⟩ := above_le hj.above
  obtain ⟨h2, hh2⟩ : ∃ h2, h2 = (⟨j.head.serial + 1, j.head.gen + 1, j.head.epoch, 1 - j.head.area⟩ : Head) := ⟨_, rfl⟩
  rw [← hh2]
  have ha := hj.area
  have hpl := hj.place
  have e1 : (h2.serial : Int) = (j.head.serial : Int) + 1 := by rw [hh2]; simp
  have e2 : (h2.gen : Int) = (j.head.gen : Int) + 1 := by rw [hh2]; simp
  have e3 : (h2.epoch : Int) = (j.head.epoch : Int) := by rw [hh2]
  have e4 : (h2.area : Int) = 1 - (j.head.area : Int) := by rw [hh2]; simp; omega
  have e5 : ((1 - j.place : Nat) : Int) = 1 - (j.place : Int) := by omega
  have b1' : (j.head.serial : Int) ≤ 4294967295 := by omega
  have b2' : (j.head.gen : Int) ≤ 4294967295 := by omega
  have ha' : (j.head.area : Int) ≤ 1 := by omega
  have hpl' : (j.place : Int) ≤ 1 := by omega
  have habv := fun (w : World) (L : List Asn) (hS : Sat w0 w L) => above_any h2 w0 w L hS
  have habv2 : ∀ (w : World) (L : List Asn), Sat w0 w L → Calls Tryd.prog 59 #[.agg #[.int .i64 ((j.head.serial : Int) + 1), .int .i64 ((j.head.gen : Int) + 1), .int .i64 (j.head.epoch : Int), .int .i64 (1 - (j.head.area : Int))]] w fun r w' => r = .returned (.bool (above h2)) ∧ Sat w0 w' L := by
    rw [← e1, ← e2, ← e3, ← e4]; exact habv
  obtain ⟨t, ht⟩ : ∃ t, t = above h2 := ⟨_, rfl⟩
  rw [← ht] at habv2 ⊢
  have Habv := Lib.hid habv2
  clear habv habv2
  by_cases hfull : m < nd
  case pos =>
    rw [if_pos (.inl hfull)]
    have hf' : (m : Int) < (nd : Int) := by omega
    have hf : decide (m < nd) = true := by simp [hfull]
    clear hfull hm hnd hha hneed hj hdead hoff e1 e2 e3 e4 e5 ht hh2
    go_enter Tryd.func48, Tryd.ntmps48
    go_wp2_with (first | (go_at_call 64; ((with_reducible refine' (Hcan.out _ hS hr).mono ?sa1x290); (case' sa1x290 => (rintro r4 w4 ⟨rfl, hS1⟩; dsimp only at hS1; (clear hS; have hS := hS1; clear hS1); dsimp only [erv]; obtain ⟨a0, n0, c0, hS1⟩ := isJ_open hS; (clear hS; have hS := hS1; clear hS1))))) | (have hS1 := hS.drew; clear hS; have hS := hS1; clear hS1; (with_reducible refine' Txh.wp_region_held (id := 4) (fun w => ∃ M, Sat w0 w (JBlk b j db (.slice a0 n0 c0) :: M)) [(4, .int .i64 j.head.serial), (10, .int .i64 j.head.gen), (16, .int .i64 j.head.epoch), (21, .int .i64 j.head.area)] [4, 10, 16, 21] 25 rfl ?hm4x293 ?hB4x293 ?hI4x293 ?hh4x293); (case hm4x293 => kernel_rfl); (case hB4x293 => decide +kernel); (case hI4x293 => exact ⟨_, hS.split (by ((repeat (with_reducible exact Split.here)); done))⟩); (case' hh4x293 => (intro Q' hQ'))) | (have hS1 := hS.drew; clear hS; have hS := hS1; clear hS1; (with_reducible refine' Txh.wp_region_held (id := 5) (fun w => ∃ M, Sat w0 w (isDrum db d :: M)) [(2, .int .i64 (nd : Int)), (7, .int .i64 (m : Int))] [2, 7] 11 rfl ?hm5x294 ?hB5x294 ?hI5x294 ?hh5x294); (case hm5x294 => kernel_rfl); (case hB5x294 => decide +kernel); (case hI5x294 => exact ⟨_, hS.split (by ((repeat (first | with_reducible exact Split.here | with_reducible apply Split.there)); done))⟩); (case' hh5x294 => (intro Q' hQ'))) | (with_reducible refine Txh.wpHeld_nil ?_) | (((with_reducible refine' Txh.wpHeld_held ?_ ?_ ?_ ?_); rotate_left 1; (focus rfl); (focus rfl); (focus ((with_reducible refine' fixed_load ?_ ?_ ?_); rotate_left 1; (focus rfl); (focus (intro _; (simp; done))); (focus (rintro w5 ⟨M5, hM5⟩; exact cell_of_split hM5 (by ((repeat (with_reducible exact Split.here)); done)) rfl)))))) | (((with_reducible refine' Txh.wpHeld_held ?_ ?_ ?_ ?_); rotate_left 1; (focus rfl); (focus rfl); (focus ((with_reducible refine' fixed_call1 (f := 61) ?_ ?_ ?_); rotate_left 1; (focus (conv => lhs; whnf)); (focus (intro _ _; simp)); (focus (intro w5 hI5; (exact Hneed.out w5))))))) | (((with_reducible refine' Txh.wpHeld_held ?_ ?_ ?_ ?_); rotate_left 1; (focus rfl); (focus rfl); (focus ((with_reducible refine' fixed_call1 (f := 62) ?_ ?_ ?_); rotate_left 1; (focus (conv => lhs; whnf)); (focus (intro _ _; simp)); (focus (intro w5 hI5; (obtain ⟨M5, hM5⟩ := hI5; exact Hha.out w5 M5 hM5))))))) | ((with_reducible refine Txh.wpHeld_free ?_ ?_ ?_ ?_ ?_); (focus rfl); (focus rfl); (focus rfl); (focus decide +kernel); intro K hK; first | ((with_reducible refine' wp_buildv (v := .agg #[.int .i64 ((j.head.serial : Int) + 1), .int .i64 ((j.head.gen : Int) + 1), .int .i64 (j.head.epoch : Int), .int .i64 (1 - (j.head.area : Int))]) ?_ ?_); (focus (intro _; kernel_rfl)); (refine hK _ _ ?_; clear hK K)) | ((with_reducible refine' wp_load hS ?_ ?_ ?_ ?_ ?_); rotate_left 7; (focus rfl); (focus ((repeat (first | with_reducible exact Split.here | with_reducible apply Split.there)); done)); (focus (((simp only [List.getElem?_toArray, List.getElem?_cons_zero, List.getElem?_cons_succ]); rfl))); (focus (intro _; (simp; done))); (refine hK _ _ ?_; clear hK K)) | ((with_reducible refine' wp_storeN hS ?_ ?_ ?_ ?_ ?_ ?_ ?_ ?_); rotate_left 7; (focus rfl); (focus ((repeat (with_reducible exact Split.here)); done)); (focus (conv => lhs; whnf)); (focus (intro _; (simp; rfl))); (focus rfl); (focus (simp [Value.cells, Value.oneCell']; done)); (focus (simp; done)); intro w'; clear hS; intro hS; (try simp only [setCells, Value.cells, List.take_succ_cons, List.take_zero, List.drop_succ_cons, List.drop_zero, List.append_nil, List.nil_append, List.cons_append, List.length_cons, List.length_nil, Nat.zero_add, Nat.reduceAdd, List.drop_nil] at hS); (refine hK _ _ ?_; clear hK K))) | ((((with_reducible refine Txh.wpHeld_owes ?_ ?_ ?_ ?_); (focus rfl); (focus rfl); (focus rfl); intro K hK)); ((with_reducible refine' wp_alloc hS ?_ ?_); rotate_left 1; (focus (intro _; (simp; rfl))); intro w' b'; clear hS; intro hS; (try simp only [Value.cells] at hS); (refine hK _ _ ⟨_, hS.split (by ((repeat (first | with_reducible exact Split.here | with_reducible apply Split.there)); done))⟩ ?_; clear hK K))) | (((with_reducible refine Txh.wpHeld_free ?_ ?_ ?_ ?_ ?_); (focus rfl); (focus rfl); (focus rfl); (focus decide +kernel); intro _ _)) | (((with_reducible refine Txh.wpHeld_skip ?_ ?_); (focus rfl); simp only [Act.put, List.setIfInBounds_toArray, List.set_cons_succ, List.set_cons_zero])) | ((((with_reducible refine wpList_plain ?_ ?_); (focus rfl); intro K hK)); ((with_reducible refine' wp_load_old hS ?_ ?_ ?_ ?_); rotate_left 2; (focus rfl); (focus (with_reducible assumption)); (focus (intro _; (simp; done))); (refine hK _ _ ?_; clear hK K))))
    go_ret
    exact ⟨rfl, isJ_shut a0 n0 c0 hS (by (repeat (first | (with_reducible exact Ent.refl _) | ((with_reducible apply Ent.pull); (focus ((repeat (first | with_reducible exact Split.here | with_reducible apply Split.there)); done))) | (with_reducible apply Ent.skip))))⟩
  have hf' : (nd : Int) ≤ (m : Int) := by omega
  have hf : decide (m < nd) = false := by simp; omega
  cases t
  case true =>
    rw [if_pos (.inr rfl)]
    clear hfull hm hnd hha hneed hj hdead hoff e1 e2 e3 e4 e5 ht hh2
    go_enter Tryd.func48, Tryd.ntmps48
    go_wp2_with (first | (go_at_call 64; ((with_reducible refine' (Hcan.out _ hS hr).mono ?sa1x307); (case' sa1x307 => (rintro r4 w4 ⟨rfl, hS1⟩; dsimp only at hS1; (clear hS; have hS := hS1; clear hS1); dsimp only [erv]; obtain ⟨a0, n0, c0, hS1⟩ := isJ_open hS; (clear hS; have hS := hS1; clear hS1))))) | (go_at_call 59; ((with_reducible refine' (Habv.out _ _ hS).mono ?sb1x308); (case' sb1x308 => (rintro r4 w4 ⟨rfl, hS1⟩; (clear hS; have hS := hS1; clear hS1); try (try ((refine hK _ _ ?_ ?_); (focus exact ⟨_, hS.split (by ((repeat (fail)); done))⟩); clear hK K)))))) | (have hS1 := hS.drew; clear hS; have hS := hS1; clear hS1; (with_reducible refine' Txh.wp_region_held (id := 4) (fun w => ∃ M, Sat w0 w (JBlk b j db (.slice a0 n0 c0) :: M)) [(4, .int .i64 j.head.serial), (10, .int .i64 j.head.gen), (16, .int .i64 j.head.epoch), (21, .int .i64 j.head.area)] [4, 10, 16, 21] 25 rfl ?hm4x310 ?hB4x310 ?hI4x310 ?hh4x310); (case hm4x310 => kernel_rfl); (case hB4x310 => decide +kernel); (case hI4x310 => exact ⟨_, hS.split (by ((repeat (with_reducible exact Split.here)); done))⟩); (case' hh4x310 => (intro Q' hQ'))) | (have hS1 := hS.drew; clear hS; have hS := hS1; clear hS1; (with_reducible refine' Txh.wp_region_held (id := 5) (fun w => ∃ M, Sat w0 w (isDrum db d :: M)) [(2, .int .i64 (nd : Int)), (7, .int .i64 (m : Int))] [2, 7] 11 rfl ?hm5x311 ?hB5x311 ?hI5x311 ?hh5x311); (case hm5x311 => kernel_rfl); (case hB5x311 => decide +kernel); (case hI5x311 => exact ⟨_, hS.split (by ((repeat (first | with_reducible exact Split.here | with_reducible apply Split.there)); done))⟩); (case' hh5x311 => (intro Q' hQ'))) | (with_reducible refine Txh.wpHeld_nil ?_) | (((with_reducible refine' Txh.wpHeld_held ?_ ?_ ?_ ?_); rotate_left 1; (focus rfl); (focus rfl); (focus ((with_reducible refine' fixed_load ?_ ?_ ?_); rotate_left 1; (focus rfl); (focus (intro _; (simp; done))); (focus (rintro w5 ⟨M5, hM5⟩; exact cell_of_split hM5 (by ((repeat (with_reducible exact Split.here)); done)) rfl)))))) | (((with_reducible refine' Txh.wpHeld_held ?_ ?_ ?_ ?_); rotate_left 1; (focus rfl); (focus rfl); (focus ((with_reducible refine' fixed_call1 (f := 61) ?_ ?_ ?_); rotate_left 1; (focus (conv => lhs; whnf)); (focus (intro _ _; simp)); (focus (intro w5 hI5; (exact Hneed.out w5))))))) | (((with_reducible refine' Txh.wpHeld_held ?_ ?_ ?_ ?_); rotate_left 1; (focus rfl); (focus rfl); (focus ((with_reducible refine' fixed_call1 (f := 62) ?_ ?_ ?_); rotate_left 1; (focus (conv => lhs; whnf)); (focus (intro _ _; simp)); (focus (intro w5 hI5; (obtain ⟨M5, hM5⟩ := hI5; exact Hha.out w5 M5 hM5))))))) | ((with_reducible refine Txh.wpHeld_free ?_ ?_ ?_ ?_ ?_); (focus rfl); (focus rfl); (focus rfl); (focus decide +kernel); intro K hK; first | ((with_reducible refine' wp_buildv (v := .agg #[.int .i64 ((j.head.serial : Int) + 1), .int .i64 ((j.head.gen : Int) + 1), .int .i64 (j.head.epoch : Int), .int .i64 (1 - (j.head.area : Int))]) ?_ ?_); (focus (intro _; kernel_rfl)); (refine hK _ _ ?_; clear hK K)) | ((with_reducible refine' wp_load hS ?_ ?_ ?_ ?_ ?_); rotate_left 7; (focus rfl); (focus ((repeat (first | with_reducible exact Split.here | with_reducible apply Split.there)); done)); (focus (((simp only [List.getElem?_toArray, List.getElem?_cons_zero, List.getElem?_cons_succ]); rfl))); (focus (intro _; (simp; done))); (refine hK _ _ ?_; clear hK K)) | ((with_reducible refine' wp_loadN hS ?_ ?_ ?_ ?_ ?_ ?_ ?_); rotate_left 8; (focus rfl); (focus ((repeat (with_reducible exact Split.here)); done)); (focus (intro _; (simp; done))); (focus (intro _; (simp; rfl))); (focus (simp; done)); (focus (simp; rfl)); (refine hK _ _ ?_; clear hK K)) | ((with_reducible refine' wp_storeN hS ?_ ?_ ?_ ?_ ?_ ?_ ?_ ?_); rotate_left 7; (focus rfl); (focus ((repeat (with_reducible exact Split.here)); done)); (focus (conv => lhs; whnf)); (focus (intro _; (simp; rfl))); (focus rfl); (focus (simp [Value.cells, Value.oneCell']; done)); (focus (simp; done)); intro w'; clear hS; intro hS; (try simp only [setCells, Value.cells, List.take_succ_cons, List.take_zero, List.drop_succ_cons, List.drop_zero, List.append_nil, List.nil_append, List.cons_append, List.length_cons, List.length_nil, Nat.zero_add, Nat.reduceAdd, List.drop_nil] at hS); (refine hK _ _ ?_; clear hK K))) | ((((with_reducible refine Txh.wpHeld_owes ?_ ?_ ?_ ?_); (focus rfl); (focus rfl); (focus rfl); intro K hK)); ((with_reducible refine' wp_alloc hS ?_ ?_); rotate_left 1; (focus (intro _; (simp; rfl))); intro w' b'; clear hS; intro hS; (try simp only [Value.cells] at hS); (refine hK _ _ ⟨_, hS.split (by ((repeat (first | with_reducible exact Split.here | with_reducible apply Split.there)); done))⟩ ?_; clear hK K))) | (((with_reducible refine Txh.wpHeld_free ?_ ?_ ?_ ?_ ?_); (focus rfl); (focus rfl); (focus rfl); (focus decide +kernel); intro _ _)) | ((((with_reducible refine wpList_plain ?_ ?_); (focus rfl); intro K hK)); ((with_reducible refine' wp_load_old hS ?_ ?_ ?_ ?_); rotate_left 2; (focus rfl); (focus (with_reducible assumption)); (focus (intro _; (simp; done))); (refine hK _ _ ?_; clear hK K))))
    go_ret
    exact ⟨rfl, isJ_shut a0 n0 c0 hS (by (repeat (first | (with_reducible exact Ent.refl _) | ((with_reducible apply Ent.pull); (focus ((repeat (first | with_reducible exact Split.here | with_reducible apply Split.there)); done))) | (with_reducible apply Ent.skip))))⟩
  case false =>
    rw [if_neg (by rintro (h | h); exact hfull h; cases h)]
    have han := fun (w : World) (L : List Asn) => anew_any E b db d j w0 w L h2 (1 - j.place) (.slice ba l.length bc) l hd hl hoff hn (by omega) (by rw [hh2]; show 1 - j.head.area ≤ 1; omega) ht.symm hl2 (by omega)
    unfold HeadV at han
    rw [e1, e2, e3, e4, e5] at han
    obtain ⟨q, hq⟩ : ∃ q, q = Jr.anew j d h2 (1 - j.place) l := ⟨_, rfl⟩
    rw [← hq] at han ⊢
    have Han := Lib.hid han
    have hD := hE.dr
    clear hfull hm hnd hha hneed hj hdead hoff e1 e2 e3 e4 e5 ht hh2 han hq
    go_enter Tryd.func48, Tryd.ntmps48
    go_wp2_with (first | (go_at_call 64; ((with_reducible refine' (Hcan.out _ hS hr).mono ?sa1x328); (case' sa1x328 => (rintro r4 w4 ⟨rfl, hS1⟩; dsimp only at hS1; (clear hS; have hS := hS1; clear hS1); dsimp only [erv]; obtain ⟨a0, n0, c0, hS1⟩ := isJ_open hS; (clear hS; have hS := hS1; clear hS1))))) | (go_at_call 59; ((with_reducible refine' (Habv.out _ _ hS).mono ?sb1x329); (case' sb1x329 => (rintro r4 w4 ⟨rfl, hS1⟩; (clear hS; have hS := hS1; clear hS1); try (try ((refine hK _ _ ?_ ?_); (focus exact ⟨_, hS.split (by ((repeat (fail)); done))⟩); clear hK K)))))) | (go_at_call 63; ((with_reducible refine' (Han.out _ _ hT hD (isJ_shut a0 n0 c0 hS ?sc1x330) (under_ent hr ?sc2x330)).mono ?sc3x330); (case sc1x330 => (repeat (first | (with_reducible exact Ent.refl _) | ((with_reducible apply Ent.pull); (focus ((repeat (first | with_reducible exact Split.here | with_reducible apply Split.there)); done)))))); (case sc2x330 => (repeat (first | (with_reducible exact Ent.refl _) | (with_reducible apply Ent.skip)))); (case' sc3x330 => (rintro r4 w4 ⟨rfl, hS1⟩; (clear hS; have hS := hS1; clear hS1))))) | (have hS1 := hS.drew; clear hS; have hS := hS1; clear hS1; (with_reducible refine' Txh.wp_region_held (id := 4) (fun w => ∃ M, Sat w0 w (JBlk b j db (.slice a0 n0 c0) :: M)) [(4, .int .i64 j.head.serial), (10, .int .i64 j.head.gen), (16, .int .i64 j.head.epoch), (21, .int .i64 j.head.area)] [4, 10, 16, 21] 25 rfl ?hm4x331 ?hB4x331 ?hI4x331 ?hh4x331); (case hm4x331 => kernel_rfl); (case hB4x331 => decide +kernel); (case hI4x331 => exact ⟨_, hS.split (by ((repeat (with_reducible exact Split.here)); done))⟩); (case' hh4x331 => (intro Q' hQ'))) | (have hS1 := hS.drew; clear hS; have hS := hS1; clear hS1; (with_reducible refine' Txh.wp_region_held (id := 5) (fun w => ∃ M, Sat w0 w (isDrum db d :: M)) [(2, .int .i64 (nd : Int)), (7, .int .i64 (m : Int))] [2, 7] 11 rfl ?hm5x332 ?hB5x332 ?hI5x332 ?hh5x332); (case hm5x332 => kernel_rfl); (case hB5x332 => decide +kernel); (case hI5x332 => exact ⟨_, hS.split (by ((repeat (first | with_reducible exact Split.here | with_reducible apply Split.there)); done))⟩); (case' hh5x332 => (intro Q' hQ'))) | (with_reducible refine Txh.wpHeld_nil ?_) | (((with_reducible refine' Txh.wpHeld_held ?_ ?_ ?_ ?_); rotate_left 1; (focus rfl); (focus rfl); (focus ((with_reducible refine' fixed_load ?_ ?_ ?_); rotate_left 1; (focus rfl); (focus (intro _; (simp; done))); (focus (rintro w5 ⟨M5, hM5⟩; exact cell_of_split hM5 (by ((repeat (with_reducible exact Split.here)); done)) rfl)))))) | (((with_reducible refine' Txh.wpHeld_held ?_ ?_ ?_ ?_); rotate_left 1; (focus rfl); (focus rfl); (focus ((with_reducible refine' fixed_call1 (f := 61) ?_ ?_ ?_); rotate_left 1; (focus (conv => lhs; whnf)); (focus (intro _ _; simp)); (focus (intro w5 hI5; (exact Hneed.out w5))))))) | (((with_reducible refine' Txh.wpHeld_held ?_ ?_ ?_ ?_); rotate_left 1; (focus rfl); (focus rfl); (focus ((with_reducible refine' fixed_call1 (f := 62) ?_ ?_ ?_); rotate_left 1; (focus (conv => lhs; whnf)); (focus (intro _ _; simp)); (focus (intro w5 hI5; (obtain ⟨M5, hM5⟩ := hI5; exact Hha.out w5 M5 hM5))))))) | ((with_reducible refine Txh.wpHeld_free ?_ ?_ ?_ ?_ ?_); (focus rfl); (focus rfl); (focus rfl); (focus decide +kernel); intro K hK; first | ((with_reducible refine' wp_buildv (v := .agg #[.int .i64 ((j.head.serial : Int) + 1), .int .i64 ((j.head.gen : Int) + 1), .int .i64 (j.head.epoch : Int), .int .i64 (1 - (j.head.area : Int))]) ?_ ?_); (focus (intro _; kernel_rfl)); (refine hK _ _ ?_; clear hK K)) | ((with_reducible refine' wp_load hS ?_ ?_ ?_ ?_ ?_); rotate_left 7; (focus rfl); (focus ((repeat (first | with_reducible exact Split.here | with_reducible apply Split.there)); done)); (focus (((simp only [List.getElem?_toArray, List.getElem?_cons_zero, List.getElem?_cons_succ]); rfl))); (focus (intro _; (simp; done))); (refine hK _ _ ?_; clear hK K)) | ((with_reducible refine' wp_loadN hS ?_ ?_ ?_ ?_ ?_ ?_ ?_); rotate_left 8; (focus rfl); (focus ((repeat (with_reducible exact Split.here)); done)); (focus (intro _; (simp; done))); (focus (intro _; (simp; rfl))); (focus (simp; done)); (focus (simp; rfl)); (refine hK _ _ ?_; clear hK K)) | ((with_reducible refine' wp_storeN hS ?_ ?_ ?_ ?_ ?_ ?_ ?_ ?_); rotate_left 7; (focus rfl); (focus ((repeat (with_reducible exact Split.here)); done)); (focus (conv => lhs; whnf)); (focus (intro _; (simp; rfl))); (focus rfl); (focus (simp [Value.cells, Value.oneCell']; done)); (focus (simp; done)); intro w'; clear hS; intro hS; (try simp only [setCells, Value.cells, List.take_succ_cons, List.take_zero, List.drop_succ_cons, List.drop_zero, List.append_nil, List.nil_append, List.cons_append, List.length_cons, List.length_nil, Nat.zero_add, Nat.reduceAdd, List.drop_nil] at hS); (refine hK _ _ ?_; clear hK K))) | ((((with_reducible refine Txh.wpHeld_owes ?_ ?_ ?_ ?_); (focus rfl); (focus rfl); (focus rfl); intro K hK)); ((with_reducible refine' wp_alloc hS ?_ ?_); rotate_left 1; (focus (intro _; (simp; rfl))); intro w' b'; clear hS; intro hS; (try simp only [Value.cells] at hS); (refine hK _ _ ⟨_, hS.split (by ((repeat (first | with_reducible exact Split.here | with_reducible apply Split.there)); done))⟩ ?_; clear hK K))) | (((with_reducible refine Txh.wpHeld_free ?_ ?_ ?_ ?_ ?_); (focus rfl); (focus rfl); (focus rfl); (focus decide +kernel); intro _ _)) | ((with_reducible refine Txt.wp_region_text ?_ ?_ ?_); (focus kernel_rfl); (focus decide +kernel); intro Q' hQ'; have hS1 := hS.drew; clear hS; have hS := hS1; clear hS1) | (with_reducible refine Txt.wpTxt_nil ?_) | ((first | ((with_reducible refine wpList_plain ?_ ?_); (focus rfl); intro K hK) | ((with_reducible refine Txt.wpTxt_plain ?_ ?_ ?_); (focus rfl); (focus rfl); intro K hK)); first | ((with_reducible refine' wp_load hS ?_ ?_ ?_ ?_ ?_); rotate_left 7; (focus rfl); (focus ((repeat (first | with_reducible exact Split.here | with_reducible apply Split.there)); done)); (focus (((simp only [List.getElem?_toArray, List.getElem?_cons_zero, List.getElem?_cons_succ]); rfl))); (focus (intro _; (simp; done))); (refine hK _ _ ?_; clear hK K)) | ((with_reducible refine' wp_loadN hS ?_ ?_ ?_ ?_ ?_ ?_ ?_); rotate_left 8; (focus rfl); (focus ((repeat (with_reducible exact Split.here)); done)); (focus (intro _; (simp; done))); (focus (intro _; (simp; rfl))); (focus (simp; done)); (focus (simp; rfl)); (refine hK _ _ ?_; clear hK K))) | ((with_reducible refine Txt.wpTxt_plain ?_ ?_ ?_); (focus with_reducible rfl); (focus rfl); intro _ _))

    go_ret
    exact ⟨rfl, hS.ent (by (repeat (first | (with_reducible exact Ent.refl _) | ((with_reducible apply Ent.pull); (focus ((repeat (with_reducible exact Split.here)); done))) | (with_reducible apply Ent.skip))))⟩
end
end Go.Proofs.YtndnojbpapjdoaaDoor
