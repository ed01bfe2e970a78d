/- Package journal walked: all records read. -/
import Derived.Test.YtndnojbpapjdoaaDoorJrG
import Derived.Test.YtndnojbpapjdoaaDoorSpc
set_option linter.unusedSimpArgs false
set_option linter.unusedVariables false
set_option linter.unusedSectionVars false
namespace Go.Proofs.YtndnojbpapjdoaaDoor
open Go.Sp Go.RowKit Go.Fld Go.Sha Go.Dr Go.Jr

/-- Slices that hold bytes for good. -/
def RoAll (w0 : World) (ps : List (Value × List UInt8)) : Asn := fun h => ∀ p ∈ ps, Ro w0 p.1 p.2 h
theorem pers_roAll (w0 : World) (ps : List (Value × List UInt8)) : Pers (RoAll w0 ps) := fun h k p hp => pers_ro _ _ _ h (k p hp)
theorem ro_mono {w0 : World} {v : Value} {l : List UInt8} {h h' : PH} (hr : Ro w0 v l h) (hle : Le h h') : Ro w0 v l h' := by
  obtain ⟨a, c, e, k1, k2, k3, k4⟩ := hr
  refine ⟨a, c, e, k1, k2, k3, fun ad had j u hu => ?_⟩
  rcases k4 ad had j u hu with k | ⟨b, o, cs, t, f, e', hb, hc⟩
  · exact .inl k
  · exact .inr ⟨b, o, cs, t, f, e', hle b _ hb, hc⟩
theorem roAll_nil {w0 w : World} {L : List Asn} (h : Sat w0 w L) : Sat w0 w (RoAll w0 [] :: L) := (Sat.emp.2 h).head fun _ _ p hp => by cases hp
theorem roAll_snoc {w0 w : World} {L : List Asn} {ps : List (Value × List UInt8)} {v : Value} {l : List UInt8} (h : Sat w0 w (RoAll w0 ps :: Ro w0 v l :: L)) : Sat w0 w (RoAll w0 (ps ++ [(v, l)]) :: L) := by
  have h1 : Sat w0 w (Both (RoAll w0 ps) (Ro w0 v l) :: L) := Sat.both.2 h
  refine h1.head fun g hg p hp => ?_
  obtain ⟨h1, h2, hd, l1, l2, ha, h3, h4, hd', l3, l4, hb, _⟩ := hg
  rcases List.mem_append.1 hp with hp | hp
  · exact ro_mono (ha p hp) l1
  · rw [List.mem_singleton] at hp
    subst hp
    exact ro_mono hb (l3.trans l2)
/-- A slice of records. -/
def Recs (w0 : World) (v : Value) (rs : List (List UInt8)) : Asn := fun h => ∃ vs : List Value, vs.length = rs.length ∧ star [Row 22 1 v rs.length vs, RoAll w0 (vs.zip rs)] h
theorem recs_open {w0 w : World} {L : List Asn} {v : Value} {rs : List (List UInt8)} (h : Sat w0 w (Recs w0 v rs :: L)) : ∃ vs : List Value, vs.length = rs.length ∧ Sat w0 w (Row 22 1 v rs.length vs :: RoAll w0 (vs.zip rs) :: L) := by
  have h1 : Sat w0 w (Ex (fun vs : List Value => Pu (vs.length = rs.length) (fun h => star [Row 22 1 v rs.length vs, RoAll w0 (vs.zip rs)] h)) :: L) := h
  obtain ⟨vs, h1⟩ := Sat.ex.1 h1
  obtain ⟨hl, h1⟩ := Sat.pu.1 h1
  exact ⟨vs, hl, Sat.stars.1 h1⟩
theorem recs_shut {w0 w : World} {L : List Asn} {v : Value} {rs : List (List UInt8)} (vs : List Value) (hl : vs.length = rs.length) (h : Sat w0 w (Row 22 1 v rs.length vs :: RoAll w0 (vs.zip rs) :: L)) : Sat w0 w (Recs w0 v rs :: L) := by
  have h1 : Sat w0 w ((fun h => star [Row 22 1 v rs.length vs, RoAll w0 (vs.zip rs)] h) :: L) := Sat.stars.2 h
  exact h1.head fun _ hg => ⟨vs, hl, hg⟩
theorem recs_nil {w0 w : World} {L : List Asn} (a : Option Addr) (h : Sat w0 w L) : Sat w0 w (Recs w0 (.slice a 0 0) [] :: L) :=
  recs_shut [] rfl ((roAll_nil h).row_nil _ _ a)
theorem recs_snoc {w0 w : World} {L : List Asn} {v bv : Value} {rs : List (List UInt8)} {l : List UInt8} {vs : List Value} (hl : vs.length = rs.length) (h : Sat w0 w (Row 22 1 v (rs.length + 1) (vs ++ [bv]) :: RoAll w0 (vs.zip rs) :: Ro w0 bv l :: L)) : Sat w0 w (Recs w0 v (rs ++ [l]) :: L) := by
  have h1 := roAll_snoc h.drop
  have e : (vs ++ [bv]).zip (rs ++ [l]) = vs.zip rs ++ [(bv, l)] := by rw [List.zip_append hl]; rfl
  refine recs_shut (vs ++ [bv]) (by simp [hl]) ?_
  rw [e, List.length_append]
  refine h.ent fun g hg => ?_
  exact star_cons hg fun g2 hg2 => by
    have h2 : star (Both (RoAll w0 (vs.zip rs)) (Ro w0 bv l) :: L) g2 := star_both.2 hg2
    refine star_head h2 fun g3 hg3 p hp => ?_
    obtain ⟨h1, h2, hd, l1, l2, ha, h3, h4, hd', l3, l4, hb, _⟩ := hg3
    rcases List.mem_append.1 hp with hp | hp
    · exact ro_mono (ha p hp) l1
    · rw [List.mem_singleton] at hp
      subst hp
      exact ro_mono hb (l3.trans l2)
theorem info22 : (Tryd.prog.info? 22).map (fun i => (i.zero, i.size, i.bytes)) = some (some (.slice none 0 0), 1, 24) := by kernel_rfl
theorem slRec : SliceT Tryd.prog 60 22 1 24 := .mk Tryd.underlying60 info22 rfl
theorem srcOne {w0 w : World} {L M : List Asn} {b : Nat} {bv : Value} {e : TypeId} {f : Nat × Nat} (hS : Sat w0 w L) (hp : Split L (Blk b (.cells #[bv] e f)) M) (h1 : bv.oneCell' = true) : Src Tryd.prog w 60 1 (.slice (some ⟨b, 0, none⟩) 1 1) 1 [bv] :=
  Src.slice Tryd.underlying60 _ _ _ _ rfl (cells_of_split hS hp (fun j v h => by
    rcases j with _ | j
    · exact h
    · cases h)) (by
    intro u hu
    rw [List.mem_singleton] at hu
    subst hu
    exact h1)
section
variable (E : Nat → Addr) (b db : Nat) (d : Dr.Drum) (j : Jr.J) (hd : d.ok) (hoff : d.off = false) (hn : 2 ≤ d.n) (har : j.head.area ≤ 1) (w0 w : World) (L : List Asn) (hT : Table w0) (hE : FldErrs E w0) (hD : DrErrs E w0) (a0 : Option Addr) (hj : j.records = []) (hu : j.used = 0) (hS : Sat w0 w (JBlk b j db (.slice a0 0 0) :: isDrum db d :: L))
include hd hoff hn har hT hE hD hS hj hu
set_option maxRecDepth 100000 in
set_option maxHeartbeats 8000000 in
theorem load_any :
    Calls Tryd.prog 58 #[.pointer (some ⟨b, 0, none⟩)] w fun r w' => ∃ a n c, r = .returned .nilIface ∧ Sat w0 w' (JBlk b { j with records := (Jr.load d j.head (Jr.half d.n + 1) [] 0 0).1, used := (Jr.load d j.head (Jr.half d.n + 1) [] 0 0).2 } db (.slice a n c) :: Recs w0 (.slice a n c) (Jr.load d j.head (Jr.half d.n + 1) [] 0 0).1 :: isDrum db d :: L) := by
  obtain ⟨R, hR⟩ : ∃ R, R = Jr.load d j.head (Jr.half d.n + 1) [] 0 0 := ⟨_, rfl⟩
  rw [← hR]
  obtain ⟨m, hm⟩ : ∃ m, m = Jr.half d.n := ⟨_, rfl⟩
  rw [← hm] at hR
  have hm4 : m ≤ 2047 := by have := hd.2; rw [hm]; unfold Jr.half; omega
  have HR := Lib.hid hR
  have Hm := Lib.hid hm
  clear hR hm
  go_enter Tryd.func58, Tryd.ntmps58
  go_wp2_with (fail)
  go_loopw [3] (fun lv wr => ∃ (f last used : Nat) (rs : List (List UInt8)) (a : Option Addr) (n c : Nat), lv = .int .i64 (last : Nat) ∧ m + 1 ≤ f + used ∧ used ≤ m ∧ rs.length ≤ used ∧ R = Jr.load d j.head f rs used last ∧ Sat w0 wr (JBlk b { j with records := rs, used := used } db (.slice a n c) :: Recs w0 (.slice a n c) rs :: isDrum db d :: L)) (fun _ wr => m + 1 - (intOf ((wr.cell? ⟨b, 7, none⟩).getD undef)).toNat)
  case atStart =>
    refine ⟨m + 1, 0, 0, [], a0, 0, 0, rfl, by omega, by omega, by simp, HR.out, ?_⟩
    have h1 := recs_nil (w0 := w0) a0 hS
    have e : JBlk b { j with records := [], used := 0 } db (.slice a0 0 0) = JBlk b j db (.slice a0 0 0) := by rw [← hj, ← hu]
    rw [e]
    exact h1.pick 1
  case round =>
    clear hS
    obtain ⟨f, last, used, rs, a, n, c, rfl, hf, hum, hrl, hRi, hS⟩ := hrel
    obtain ⟨f, rfl⟩ : ∃ k, f = k + 1 := ⟨f - 1, by omega⟩
    have Hc0 := Lib.hid (show wr.cell? ⟨b, 7, none⟩ = some (.int .i64 (used : Int)) from cell_blk hS.at 7)
    have hra := record_any E b db d { j with records := rs, used := used } (.slice a n c) used hd hoff hn har (by omega) w0
    have HRi := Lib.hid hRi
    obtain ⟨x, hx⟩ : ∃ x, x = Jr.record d j.head used := ⟨_, rfl⟩
    rw [show Jr.record d ({ j with records := rs, used := used } : Jr.J).head used = x from hx.symm] at hra
    have Hra := Lib.hid hra
    clear hra hRi HR
    cases x
    case none =>
      have HR0 := Lib.hid (show R = (rs, used) by rw [HRi.out]; simp only [Jr.load, ← hx])
      clear hx
      go_wp2_with (first | (go_at_call 69; ((with_reducible refine' (Hra.out _ _ hT hE hD (hS.ent ?sd1x103)).mono ?sd2x103); (case sd1x103 => (repeat (first | (with_reducible exact Ent.refl _) | ((with_reducible apply Ent.pull); (focus ((repeat (first | with_reducible exact Split.here | with_reducible apply Split.there)); done)))))); (case' sd2x103 => (intro r4 w4 hb4; unfold RecPost at hb4; obtain ⟨rfl, hS1⟩ := hb4; (clear hS; have hS := hS1; clear hS1))))) | ((((with_reducible refine wpList_plain ?_ ?_); (focus rfl); intro K hK)); ((with_reducible refine' wp_load hS ?_ ?_ ?_ ?_ ?_); rotate_left 7; (focus rfl); (focus ((repeat (with_reducible exact Split.here)); done)); (focus (((simp only [List.getElem?_toArray, List.getElem?_cons_zero, List.getElem?_cons_succ]); rfl))); (focus (intro _; (simp; done))); (refine hK _ _ ?_; clear hK K))))
      go_ret
      rw [HR0.out]
      exact ⟨a, n, c, rfl, by (refine Sat.ent hS ?_; repeat (first | (with_reducible exact Ent.refl _) | ((with_reducible apply Ent.pull); (focus ((repeat (first | with_reducible exact Split.here | with_reducible apply Split.there)); done)))))⟩
    case some x =>
      obtain ⟨l, e⟩ := x
      obtain ⟨hfit, hl2⟩ := record_fits hx.symm
      rw [← Hm.out] at hfit
      have hnp := need_pos l.length
      by_cases hlt : e < last
      case pos =>
        have HR0 := Lib.hid (show R = (rs, used) by rw [HRi.out]; simp only [Jr.load, ← hx, hlt, if_true])
        have hlt' : (e : Int) < (last : Int) := by omega
        clear hx hfit hlt
        go_wp2_with (first | (go_at_call 69; ((with_reducible refine' (Hra.out _ _ hT hE hD (hS.ent ?sd1x119)).mono ?sd2x119); (case sd1x119 => (repeat (first | (with_reducible exact Ent.refl _) | ((with_reducible apply Ent.pull); (focus ((repeat (first | with_reducible exact Split.here | with_reducible apply Split.there)); done)))))); (case' sd2x119 => (intro r4 w4 hb4; unfold RecPost at hb4; obtain ⟨ba, bc, rfl, hS1⟩ := hb4; (clear hS; have hS := hS1; clear hS1))))) | ((first | ((with_reducible refine wpList_plain ?_ ?_); (focus rfl); intro K hK) | ((with_reducible refine wpList_runG ?_ ?_); (focus rfl); intro K hK)); ((with_reducible refine' wp_load hS ?_ ?_ ?_ ?_ ?_); rotate_left 7; (focus rfl); (focus ((repeat (with_reducible exact Split.here)); done)); (focus (((simp only [List.getElem?_toArray, List.getElem?_cons_zero, List.getElem?_cons_succ]); rfl))); (focus (intro _; (simp; done))); (refine hK _ _ ?_; clear hK K))))
        go_ret
        rw [HR0.out]
        exact ⟨a, n, c, rfl, by (refine Sat.ent hS ?_; repeat (first | (with_reducible exact Ent.refl _) | ((with_reducible apply Ent.pull); (focus ((repeat (first | with_reducible exact Split.here | with_reducible apply Split.there)); done))) | (with_reducible apply Ent.skip)))⟩
      case neg =>
        have HR0 := Lib.hid (show R = Jr.load d j.head f (rs ++ [l]) (used + need l.length) e by rw [HRi.out]; simp only [Jr.load, ← hx, hlt, if_false])
        have hlt' : (last : Int) ≤ (e : Int) := by omega
        obtain ⟨vs, hvs, hS1⟩ := recs_open (hS.pick 1)
        clear hS
        have hS := hS1
        clear hS1
        obtain ⟨_, _, hve, _, hnc, hcm⟩ := hS.row_len
        simp only [Value.slice.injEq] at hve
        obtain ⟨rfl, rfl, rfl⟩ := hve
        have hl2' : (l.length : Int) ≤ 2000 := by omega
        have hum' : (used : Int) ≤ 2047 := by omega
        obtain ⟨nd, hnd⟩ : ∃ nd, nd = need l.length := ⟨_, rfl⟩
        have hneed := fun w => need_any l.length (by omega) w
        rw [← hnd] at hneed hfit hnp HR0
        have Hneed := Lib.hid hneed
        have hfit' : (used : Int) + (nd : Int) ≤ 2047 := by omega
        clear hx hlt hneed hnd
        go_wp2_with (first | (go_at_call 69; ((with_reducible refine' (Hra.out _ _ hT hE hD (hS.ent ?sd1x143)).mono ?sd2x143); (case sd1x143 => (repeat (first | (with_reducible exact Ent.refl _) | ((with_reducible apply Ent.pull); (focus ((repeat (first | with_reducible exact Split.here | with_reducible apply Split.there)); done)))))); (case' sd2x143 => (intro r4 w4 hb4; unfold RecPost at hb4; obtain ⟨ba, bc, rfl, hS1⟩ := hb4; clear hS; have hS := hS1.ro; clear hS1)))) | (have hS1 := hS.drew; clear hS; have hS := hS1; clear hS1; (with_reducible refine' Txh.wp_region_held (id := 8) (fun _ => True) [(6, _)] [6] 10 rfl ?hm8x144 ?hB8x144 ?hI8x144 ?hh8x144); (case hm8x144 => kernel_rfl); (case hB8x144 => decide +kernel); (case hI8x144 => exact trivial); (case' hh8x144 => (intro Q' hQ'))) | (with_reducible refine Txh.wpHeld_nil ?_) | (((with_reducible refine' Txh.wpHeld_held ?_ ?_ ?_ ?_); rotate_left 1; (focus rfl); (focus rfl); (focus ((with_reducible refine' fixed_call1 (f := 61) ?_ ?_ ?_); rotate_left 1; (focus (conv => lhs; whnf)); (focus (intro _ _; simp)); (focus (intro w5 hI5; (exact Hneed.out w5))))))) | ((with_reducible refine Txh.wpHeld_free ?_ ?_ ?_ ?_ ?_); (focus rfl); (focus rfl); (focus rfl); (focus decide +kernel); intro K hK; first | ((with_reducible refine' wp_load hS ?_ ?_ ?_ ?_ ?_); rotate_left 7; (focus rfl); (focus ((repeat (with_reducible exact Split.here)); done)); (focus (((simp only [List.getElem?_toArray, List.getElem?_cons_zero, List.getElem?_cons_succ]); rfl))); (focus (intro _; (simp; done))); (refine hK _ _ ?_; clear hK K)) | ((with_reducible refine' wp_store hS ?_ ?_ ?_ ?_ ?_ ?_ ?_); rotate_left 6; (focus rfl); (focus ((repeat (with_reducible exact Split.here)); done)); (focus (conv => lhs; whnf)); (focus (intro _; (simp; done))); (focus rfl); (focus (simp; done)); intro w'; clear hS; intro hS; (try simp only [List.setIfInBounds_toArray, List.set_cons_succ, List.set_cons_zero] at hS); (refine hK _ _ ?_; clear hK K))) | (((with_reducible refine Txh.wpHeld_free ?_ ?_ ?_ ?_ ?_); (focus rfl); (focus rfl); (focus rfl); (focus decide +kernel); intro _ _)) | ((first | ((with_reducible refine wpList_plain ?_ ?_); (focus rfl); intro K hK) | ((with_reducible refine wpList_runG ?_ ?_); (focus rfl); intro K hK)); first | ((with_reducible refine' wp_append_row (m := 1) (news := [.slice ba l.length bc]) slRec (hS.split ?raax147) ?rbax147 ?rcax147 ?rdax147 ?reax147 ?rfax147 ?rgax147); (case raax147 => ((repeat (first | with_reducible exact Split.here | with_reducible apply Split.there)); done)); (case rbax147 => rfl); (case rcax147 => rfl); (case rdax147 => (exact srcOne hS (by ((repeat (with_reducible exact Split.here)); done)) rfl)); (case reax147 => (unfold maxLen; omega)); (case rfax147 => omega); (case' rgax147 => (intro v' w'; clear hS; intro hS; obtain ⟨ra, rc, rfl, -⟩ := hS.row_len; (refine hK _ _ ?_; clear hK K)))) | ((with_reducible refine' wp_load hS ?_ ?_ ?_ ?_ ?_); rotate_left 7; (focus rfl); (focus ((repeat (first | with_reducible exact Split.here | with_reducible apply Split.there)); done)); (focus (((simp only [List.getElem?_toArray, List.getElem?_cons_zero, List.getElem?_cons_succ]); rfl))); (focus (intro _; (simp; done))); (refine hK _ _ ?_; clear hK K)) | ((with_reducible refine' wp_store hS ?_ ?_ ?_ ?_ ?_ ?_ ?_); rotate_left 6; (focus rfl); (focus ((repeat (first | with_reducible exact Split.here | with_reducible apply Split.there)); done)); (focus (conv => lhs; whnf)); (focus (intro _; (simp; done))); (focus rfl); (focus (simp; done)); intro w'; clear hS; intro hS; (try simp only [List.setIfInBounds_toArray, List.set_cons_succ, List.set_cons_zero] at hS); (refine hK _ _ ?_; clear hK K)) | ((with_reducible refine' wp_lit1 hS ?_ ?_ ?_ ?_ ?_ ?_); rotate_left 3; (focus (intro _; (simp; rfl))); (focus (intro _; (simp; done))); (focus (intro _; (simp; rfl))); (focus (conv => lhs; whnf)); (focus rfl); intro w' b'; clear hS; intro hS; (refine hK _ _ ?_; clear hK K))))
        go_roundw
        case rel =>
          refine ⟨f, e, used + nd, rs ++ [l], ra, rs.length + 1, rc, rfl, by omega, by omega, by rw [List.length_append, List.length_singleton]; omega, HR0.out, ?_⟩
          have h1 := recs_snoc hvs (hS.ent (by (repeat (first | (with_reducible exact Ent.refl _) | ((with_reducible apply Ent.pull); (focus ((repeat (first | with_reducible exact Split.here | with_reducible apply Split.there)); done)))))))
          have e1 : ((used + nd : Nat) : Int) = (used : Int) + (nd : Int) := by omega
          show Sat w0 _ (Blk b (.cells #[_, _, _, _, _, _, _, .int .i64 ((used + nd : Nat) : Int), _] _) :: _)
          rw [e1]
          exact h1.ent (by (repeat (first | (with_reducible exact Ent.refl _) | ((with_reducible apply Ent.pull); (focus ((repeat (first | with_reducible exact Split.here | with_reducible apply Split.there)); done))) | (with_reducible apply Ent.skip))))
        case measure =>
          rw [Hc0.out, cell_blk hS.at 7]
          simp [intOf]
          omega
end
end Go.Proofs.YtndnojbpapjdoaaDoor
