/- Package journal walked: a snapshot is written. -/
import Derived.Test.YtndnojbpapjdoaaDoorJrL
import Derived.Test.YtndnojbpapjdoaaDoorSpc
import Derived.Test.YtndnojbpapjdoaaDoorCln
set_option linter.unusedSimpArgs false
set_option linter.unusedVariables false
set_option linter.unusedSectionVars false
namespace Go.Proofs.YtndnojbpapjdoaaDoor
open Go.Sp Go.RowKit Go.Fld Go.Sha Go.Dr Go.Jr

theorem under_ent {w0 : World} {L M : List Asn} {v : Value} {l : List UInt8} (h : Under w0 L v l) (he : Ent M L) : Under w0 M v l := fun w' hw => h w' (hw.ent he)
/-- A journal in memory, but its drum. -/
def isJ (w0 : World) (b db : Nat) (j : Jr.J) : Asn := fun h => ∃ a n c, star [JBlk b j db (.slice a n c), Recs w0 (.slice a n c) j.records] h
theorem isJ_open {w0 w : World} {L : List Asn} {b db : Nat} {j : Jr.J} (h : Sat w0 w (isJ w0 b db j :: L)) : ∃ a n c, Sat w0 w (JBlk b j db (.slice a n c) :: Recs w0 (.slice a n c) j.records :: L) := by
  have h1 : Sat w0 w (Ex (fun a : Option Addr => Ex fun n : Nat => Ex fun c : Nat => fun h => star [JBlk b j db (.slice a n c), Recs w0 (.slice a n c) j.records] h) :: L) := h
  obtain ⟨a, h1⟩ := Sat.ex.1 h1
  obtain ⟨n, h1⟩ := Sat.ex.1 h1
  obtain ⟨c, h1⟩ := Sat.ex.1 h1
  exact ⟨a, n, c, Sat.stars.1 h1⟩
theorem isJ_shut {w0 w : World} {L M : List Asn} {b db : Nat} {j : Jr.J} (a : Option Addr) (n c : Nat) (h : Sat w0 w M) (he : Ent M (JBlk b j db (.slice a n c) :: Recs w0 (.slice a n c) j.records :: L)) : Sat w0 w (isJ w0 b db j :: L) := by
  have h1 : Sat w0 w ((fun h => star [JBlk b j db (.slice a n c), Recs w0 (.slice a n c) j.records] h) :: L) := Sat.stars.2 (h.ent he)
  exact h1.head fun _ hg => ⟨a, n, c, hg⟩
theorem recs_one {w0 w : World} {L : List Asn} {b : Nat} {v : Value} {l : List UInt8} (h : Sat w0 w (Blk b (.cells #[v] 22) :: Ro w0 v l :: L)) : Sat w0 w (Recs w0 (.slice (some ⟨b, 0, none⟩) 1 1) [l] :: L) := by
  have h1 := h.row (e := 22) (k := 1) (n := 1) (cs := [v]) (off := 0) (cap := 1) rfl (Nat.le_refl _) (by unfold maxLen; omega) (by simp) (fun j u hu => by
    rcases j with _ | j
    · exact hu
    · cases hu)
  refine recs_shut [v] rfl ?_
  have h2 := roAll_snoc (ps := []) (roAll_nil h1.drop)
  have h3 : Sat w0 w (Row 22 1 (.slice (some ⟨b, 0, none⟩) 1 1) 1 [v] :: RoAll w0 [] :: Ro w0 v l :: L) := h1.ent (Ent.cons fun g hg => ⟨noPH, g, no_apart _, no_le _, Le.refl _, fun p hp => (by cases hp), hg⟩)
  exact h3.ent (Ent.cons fun g hg => by
    have h4 : star (Both (RoAll w0 []) (Ro w0 v l) :: L) g := star_both.2 hg
    refine star_head h4 fun g3 hg3 p hp => ?_
    obtain ⟨k1, k2, hd, l1, l2, ha, k3, k4, hd', l3, l4, hb, _⟩ := hg3
    have hp2 : p = (v, l) := by simpa using hp
    subst hp2
    exact ro_mono hb (l3.trans l2))
/-- What a call answers: the error, the journal, the drum. -/
def JPost (E : Nat → Addr) (b db : Nat) (w0 : World) (L : List Asn) (q : Nat × Jr.J × Dr.Drum) (r : Ending) (w' : World) : Prop :=
  r = .returned (erv E q.1) ∧ Sat w0 w' (isJ w0 b db q.2.1 :: isDrum db q.2.2 :: L)
section
variable (E : Nat → Addr) (b db : Nat) (d : Dr.Drum) (j : Jr.J) (w0 w : World) (L : List Asn)
set_option maxRecDepth 100000 in
set_option maxHeartbeats 8000000 in
theorem anew_any (h : Head) (place : Nat) (bv : Value) (l : List UInt8) (hd : d.ok) (hl : d.left ≤ 4611686018427387904) (hoff : d.off = false) (hn : 10 ≤ d.n) (hp : place ≤ 1) (ha : h.area ≤ 1) (hh : above h = false) (hlen : l.length ≤ 2000) (hfit : need l.length ≤ half d.n)
    (hT : Table w0) (hD : DrErrs E w0) (hS : Sat w0 w (isJ w0 b db j :: isDrum db d :: L)) (hr : Under w0 L bv l) :
    Calls Tryd.prog 63 #[.pointer (some ⟨b, 0, none⟩), HeadV h, .int .i64 (place : Int), bv] w fun r w' => JPost E b db w0 L (Jr.anew j d h place l) r w' := by
  obtain ⟨a0, n0, c0, hS1⟩ := isJ_open hS
  clear hS
  have hS := hS1
  clear hS1
  obtain ⟨ba, bc, rfl, hbc⟩ := hr w hS.drop.drop.drop
  obtain ⟨a1, a2, a3⟩ := above_le hh
  have hcn := chunks_need l
  have hlk := lay_keeps a2 a3 ha (chunks (hdr l.length ++ l)) d 0 1 hoff hd (by omega) (by omega) (by omega) (chunks_le _)
  have hlay := fun (j : Jr.J) (v : Value) (w : World) (L : List Asn) => lay_any E b db d j v w0 w L h 0 (.slice ba l.length bc) l hd hl hoff (by omega) ha hh hlen (by omega)
  unfold Jr.anew
  obtain ⟨q1, hq1⟩ : ∃ q, q = Jr.lay d h 0 1 (chunks (hdr l.length ++ l)) := ⟨_, rfl⟩
  rw [← hq1] at hlk hlay ⊢
  clear hq1 hcn
  obtain ⟨e1, d1⟩ := q1
  dsimp only at hlk hlay ⊢
  obtain ⟨hk1, hc1⟩ := hlk
  have hlay2 : ∀ (j : Jr.J) (v : Value) (w : World) (L : List Asn), Table w0 → DrErrs E w0 → Sat w0 w (JBlk b j db v :: isDrum db d :: L) → Under w0 L (.slice ba l.length bc) l → Calls Tryd.prog 65 #[.pointer (some ⟨b, 0, none⟩), .agg #[.int .i64 h.serial, .int .i64 h.gen, .int .i64 h.epoch, .int .i64 h.area], .int .i64 0, .slice ba l.length bc] w fun r w' => LayPost E b db j v w0 L (e1, d1) r w' := hlay
  have Hlay := Lib.hid hlay2
  clear hlay hlay2
  have hrx : ∀ (w' : World) (M : List Asn), Sat w0 w' M → Ent M L → Reads w' (.slice ba l.length bc) l := fun w' M hM he => hr w' (hM.ent he)
  rcases hc1 with ⟨rfl, ho1⟩ | ⟨rfl, ho1⟩
  · rw [if_pos rfl]
    have hck := crown_keeps (place := place) hh ho1 (by rw [hk1.n]; omega) hk1.ok
    have hcr := fun (j : Jr.J) (v : Value) (w : World) (L : List Asn) => crown_any E b db d1 j v w0 w L h place hk1.ok (Nat.le_trans hk1.left hl) ho1 (by rw [hk1.n]; omega) hh (by omega)
    obtain ⟨q2, hq2⟩ : ∃ q, q = Jr.crown d1 h place := ⟨_, rfl⟩
    rw [← hq2] at hck hcr ⊢
    clear hq2
    obtain ⟨e2, d2⟩ := q2
    dsimp only at hck hcr ⊢
    obtain ⟨hk2, hc2⟩ := hck
    have hcr2 : ∀ (j : Jr.J) (v : Value) (w : World) (L : List Asn), Table w0 → DrErrs E w0 → Sat w0 w (JBlk b j db v :: isDrum db d1 :: L) → Calls Tryd.prog 60 #[.pointer (some ⟨b, 0, none⟩), .agg #[.int .i64 h.serial, .int .i64 h.gen, .int .i64 h.epoch, .int .i64 h.area], .int .i64 (place : Int)] w fun r w' => r = .returned (erv E e2) ∧ Sat w0 w' (JBlk b (if e2 = 0 then { j with head := h, place := place } else { j with dead := true }) db v :: isDrum db d2 :: L) := hcr
    have Hcr := Lib.hid hcr2
    clear hcr hcr2
    have hneed := fun w => need_any l.length (by omega) w
    obtain ⟨nd, hnd⟩ : ∃ nd, nd = Jr.need l.length := ⟨_, rfl⟩
    rw [← hnd] at hneed ⊢
    have Hneed := Lib.hid hneed
    have hlen' : (l.length : Int) ≤ 2000 := by omega
    clear hh a1 a2 a3 hfit hk1 hk2 ho1 hnd hneed
    rcases hc2 with ⟨rfl, ho2⟩ | ⟨rfl, ho2⟩
    · rw [if_pos rfl]
      unfold HeadV
      go_enter Tryd.func63, Tryd.ntmps63
      go_wp2_with (first | (go_at_call 65; ((with_reducible refine' (Hlay.out j (.slice a0 n0 c0) _ _ hT hD (hS.ent ?sa1x88) ?sa2x88).mono ?sa3x88); (case sa1x88 => (repeat (first | (with_reducible exact Ent.refl _) | ((with_reducible apply Ent.pull); (focus ((repeat (first | with_reducible exact Split.here | with_reducible apply Split.there)); done)))))); (case sa2x88 => (exact fun w5 hw5 => hr w5 (hw5.ent (by (repeat (first | (with_reducible exact Ent.refl _) | (with_reducible apply Ent.skip))))))); (case' sa3x88 => (rintro r4 w4 ⟨rfl, hS1⟩; (clear hS; have hS := hS1; clear hS1); dsimp only [erv]; (rw [if_pos rfl] at hS))))) | (go_at_call 60; ((with_reducible refine' (Hcr.out j (.slice a0 n0 c0) _ _ hT hD (hS.ent ?sb1x89)).mono ?sb3x89); (case sb1x89 => (repeat ((with_reducible exact Ent.refl _)))); (case' sb3x89 => (rintro r4 w4 ⟨rfl, hS1⟩; (clear hS; have hS := hS1; clear hS1); dsimp only [erv]; (rw [if_pos rfl] at hS))))) | (go_at_call 52; ((with_reducible refine' (clone_b _ l w0 _ _ hS (under_ent hr ?sd1x90) (by omega)).mono ?sd3x90); (case sd1x90 => (repeat (first | (with_reducible exact Ent.refl _) | (with_reducible apply Ent.skip)))); (case' sd3x90 => (rintro r4 w4 ⟨ca, cc, rfl, hS1⟩; clear hS; have hS := hS1.ro; clear hS1)))) | (go_at_call 61; ((with_reducible refine' (Hneed.out _).mono ?sc2x91); (case' sc2x91 => (rintro r4 w4 ⟨rfl, rfl⟩)))) | ((((with_reducible refine wpList_plain ?_ ?_); (focus rfl); intro K hK)); first | ((with_reducible refine' wp_loadN hS ?_ ?_ ?_ ?_ ?_ ?_ ?_); rotate_left 8; (focus rfl); (focus ((repeat (first | with_reducible exact Split.here | with_reducible apply Split.there)); done)); (focus (intro _; (simp; done))); (focus (intro _; (simp; rfl))); (focus (simp; done)); (focus (simp; rfl)); (refine hK _ _ ?_; clear hK K)) | ((with_reducible refine' wp_store hS ?_ ?_ ?_ ?_ ?_ ?_ ?_); rotate_left 6; (focus rfl); (focus ((repeat (first | with_reducible exact Split.here | with_reducible apply Split.there)); done)); (focus (conv => lhs; whnf)); (focus (intro _; (simp; done))); (focus rfl); (focus (simp; done)); intro w'; clear hS; intro hS; (try simp only [List.setIfInBounds_toArray, List.set_cons_succ, List.set_cons_zero] at hS); (refine hK _ _ ?_; clear hK K)) | ((with_reducible refine' wp_box hS ?_ ?_); rotate_left 1; (focus (conv => lhs; whnf)); intro w' b'; clear hS; intro hS; (try simp only [Value.cells] at hS); (refine hK _ _ ?_; clear hK K)) | ((with_reducible refine' wp_lit1 hS ?_ ?_ ?_ ?_ ?_ ?_); rotate_left 3; (focus (intro _; (simp; rfl))); (focus (intro _; (simp; done))); (focus (intro _; (simp; rfl))); (focus (conv => lhs; whnf)); (focus rfl); intro w' b'; clear hS; intro hS; (refine hK _ _ ?_; clear hK K))))
      go_ret
      have h2 := recs_one (b := b') (v := .slice ca l.length cc) (l := l) (hS.ent (by (repeat (first | (with_reducible exact Ent.refl _) | ((with_reducible apply Ent.pull); (focus ((repeat (first | with_reducible exact Split.here | with_reducible apply Split.there)); done)))))))
      exact ⟨rfl, isJ_shut (some ⟨b', 0, none⟩) 1 1 h2 (by (repeat (first | (with_reducible exact Ent.refl _) | ((with_reducible apply Ent.pull); (focus ((repeat (first | with_reducible exact Split.here | with_reducible apply Split.there)); done))) | (with_reducible apply Ent.skip))))⟩
    · rw [if_neg (by decide)]
      unfold HeadV
      go_enter Tryd.func63, Tryd.ntmps63
      go_wp2_with (first | (go_at_call 65; ((with_reducible refine' (Hlay.out j (.slice a0 n0 c0) _ _ hT hD (hS.ent ?sa1x100) ?sa2x100).mono ?sa3x100); (case sa1x100 => (repeat (first | (with_reducible exact Ent.refl _) | ((with_reducible apply Ent.pull); (focus ((repeat (first | with_reducible exact Split.here | with_reducible apply Split.there)); done)))))); (case sa2x100 => (exact fun w5 hw5 => hr w5 (hw5.ent (by (repeat (first | (with_reducible exact Ent.refl _) | (with_reducible apply Ent.skip))))))); (case' sa3x100 => (rintro r4 w4 ⟨rfl, hS1⟩; (clear hS; have hS := hS1; clear hS1); dsimp only [erv]; (rw [if_pos rfl] at hS))))) | (go_at_call 60; ((with_reducible refine' (Hcr.out j (.slice a0 n0 c0) _ _ hT hD (hS.ent ?sb1x101)).mono ?sb3x101); (case sb1x101 => (repeat ((with_reducible exact Ent.refl _)))); (case' sb3x101 => (rintro r4 w4 ⟨rfl, hS1⟩; (clear hS; have hS := hS1; clear hS1); dsimp only [erv]; (rw [if_neg (show ¬ (6 : Nat) = 0 by decide)] at hS))))) | ((((with_reducible refine wpList_plain ?_ ?_); (focus rfl); intro K hK)); first | ((with_reducible refine' wp_loadN hS ?_ ?_ ?_ ?_ ?_ ?_ ?_); rotate_left 8; (focus rfl); (focus ((repeat (first | with_reducible exact Split.here | with_reducible apply Split.there)); done)); (focus (intro _; (simp; done))); (focus (intro _; (simp; rfl))); (focus (simp; done)); (focus (simp; rfl)); (refine hK _ _ ?_; clear hK K)) | ((with_reducible refine' wp_box hS ?_ ?_); rotate_left 1; (focus (conv => lhs; whnf)); intro w' b'; clear hS; intro hS; (try simp only [Value.cells] at hS); (refine hK _ _ ?_; clear hK K))))
      go_ret
      exact ⟨rfl, isJ_shut a0 n0 c0 hS (by (repeat (first | (with_reducible exact Ent.refl _) | ((with_reducible apply Ent.pull); (focus ((repeat (first | with_reducible exact Split.here | with_reducible apply Split.there)); done))) | (with_reducible apply Ent.skip))))⟩
  · rw [if_neg (by decide)]
    unfold HeadV
    clear hh a1 a2 a3 hfit hk1 ho1
    go_enter Tryd.func63, Tryd.ntmps63
    go_wp2_with (first | (go_at_call 65; ((with_reducible refine' (Hlay.out j (.slice a0 n0 c0) _ _ hT hD (hS.ent ?sa1x110) ?sa2x110).mono ?sa3x110); (case sa1x110 => (repeat (first | (with_reducible exact Ent.refl _) | ((with_reducible apply Ent.pull); (focus ((repeat (first | with_reducible exact Split.here | with_reducible apply Split.there)); done)))))); (case sa2x110 => (exact fun w5 hw5 => hr w5 (hw5.ent (by (repeat (first | (with_reducible exact Ent.refl _) | (with_reducible apply Ent.skip))))))); (case' sa3x110 => (rintro r4 w4 ⟨rfl, hS1⟩; (clear hS; have hS := hS1; clear hS1); dsimp only [erv]; (rw [if_neg (show ¬ (6 : Nat) = 0 by decide)] at hS))))) | ((((with_reducible refine wpList_plain ?_ ?_); (focus rfl); intro K hK)); first | ((with_reducible refine' wp_loadN hS ?_ ?_ ?_ ?_ ?_ ?_ ?_); rotate_left 8; (focus rfl); (focus ((repeat (with_reducible exact Split.here)); done)); (focus (intro _; (simp; done))); (focus (intro _; (simp; rfl))); (focus (simp; done)); (focus (simp; rfl)); (refine hK _ _ ?_; clear hK K)) | ((with_reducible refine' wp_box hS ?_ ?_); rotate_left 1; (focus (conv => lhs; whnf)); intro w' b'; clear hS; intro hS; (try simp only [Value.cells] at hS); (refine hK _ _ ?_; clear hK K))))
    go_ret
    exact ⟨rfl, isJ_shut a0 n0 c0 hS (by (repeat (first | (with_reducible exact Ent.refl _) | ((with_reducible apply Ent.pull); (focus ((repeat (first | with_reducible exact Split.here | with_reducible apply Split.there)); done))) | (with_reducible apply Ent.skip))))⟩
end
end Go.Proofs.YtndnojbpapjdoaaDoor
