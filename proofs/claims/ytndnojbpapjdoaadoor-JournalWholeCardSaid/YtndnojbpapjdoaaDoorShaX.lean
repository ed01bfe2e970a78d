/- Package hash walked: the bytes that are taken, and the end. -/
import Derived.Test.YtndnojbpapjdoaaDoorShaW
set_option linter.unusedSimpArgs false
set_option linter.unusedVariables false
set_option linter.unusedSectionVars false
namespace Go.Proofs.YtndnojbpapjdoaaDoor
open Go.Sp Go.RowKit Go.Sha

def ShParts (b : Nat) (s : Sh) (v : Value) : List Asn := [isSt b s.st v (Q s.n), Bytes 5 v s.rest]
/-- A digest that is being made. -/
def isSh (b : Nat) (s : Sh) : Asn := fun h => ∃ v, star (ShParts b s v) h
theorem isSh_open {w0 w : World} {L : List Asn} {b : Nat} {s : Sh} (h : Sat w0 w (isSh b s :: L)) : ∃ a c, s.rest.length ≤ c ∧ Sat w0 w (isSt b s.st (.slice a s.rest.length c) (Q s.n) :: Bytes 5 (.slice a s.rest.length c) s.rest :: L) := by
  have h1 : Sat w0 w (Ex (fun v => fun h => star (ShParts b s v) h) :: L) := h
  obtain ⟨v, h1⟩ := Sat.ex.1 h1
  have h2 : Sat w0 w (ShParts b s v ++ L) := Sat.stars.1 h1
  obtain ⟨a, c, rfl, _, hc, _⟩ := (h2.pick 1).row_len
  exact ⟨a, c, hc, h2⟩
theorem isSh_shut {w0 w : World} {L M : List Asn} {b : Nat} {s : Sh} (v : Value) (h : Sat w0 w M) (he : Ent M (ShParts b s v ++ L)) : Sat w0 w (isSh b s :: L) :=
  (h.ent he).ent fun _ h => star_head (star_stars.2 h) fun _ h => ⟨v, h⟩
theorem isSh_close {w0 w : World} {L0 M1 M2 : List Asn} {b : Nat} {s : Sh} {v : Value} (h : Sat w0 w L0) (s1 : Split L0 (isSt b s.st v (Q s.n)) M1) (s2 : Split M1 (Bytes 5 v s.rest) M2) : Sat w0 w (isSh b s :: M2) :=
  isSh_shut v h (Ent.pull s1 (Ent.pull s2 (Ent.refl _)))
/-- How long the rest is, as memory tells. -/
def lenAt (w : World) (b : Nat) : Nat := match w.cell? ⟨b, 8, none⟩ with | some (.slice _ n _) => n | _ => 0
theorem lenAt_eq {w0 w : World} {L : List Asn} {b : Nat} {s : Sh} (h : Sat w0 w (isSh b s :: L)) : lenAt w b = s.rest.length := by
  obtain ⟨a, c, _, h1⟩ := isSh_open h
  unfold lenAt
  rw [cell_blk h1.at 8]
  rfl

theorem begin_any (w0 w : World) (L : List Asn) (hS : Sat w0 w L) : Calls Tryd.prog 101 #[] w fun r w' => ∃ b, r = .returned (.pointer (some ⟨b, 0, none⟩)) ∧ Sat w0 w' (isSh b Sha.start :: L) := by
  go_enter Tryd.func101, Tryd.ntmps101
  go_wp2_with (((((with_reducible refine wpList_plain ?_ ?_); (focus rfl); intro K hK)); ((with_reducible refine' wp_box hS ?_ ?_); rotate_left 1; (focus (conv => lhs; whnf)); intro w' b'; clear hS; intro hS; (try simp only [Value.cells] at hS); (refine hK _ _ ?_; clear hK K))))
  go_ret
  exact ⟨_, rfl, isSh_shut (s := Sha.start) (.slice none 0 0) (hS.row_nil 5 1 none) (Ent.pick 1 _)⟩

set_option maxRecDepth 100000 in
set_option maxHeartbeats 4000000 in
theorem take_any (b : Nat) (s : Sh) (v : Value) (l : List UInt8) (w0 w : World) (L : List Asn) (hT : Table w0) (hS : Sat w0 w (isSh b s :: L)) (hr : Under w0 L v l) (hrest : s.rest.length < 64) (hlen : l.length ≤ 140737488355264) :
    Calls Tryd.prog 102 #[.pointer (some ⟨b, 0, none⟩), v] w fun r w' => r = .returned (.tuple #[]) ∧ Sat w0 w' (isSh b (s.take l) :: L) := by
  obtain ⟨va, vc, rfl, _⟩ := hr w hS.drop
  obtain ⟨a, c, hc, hS1⟩ := isSh_open hS
  clear hS
  have hS := hS1
  clear hS1
  have hsum : s.rest.length + l.length ≤ 140737488355328 := by omega
  go_enter Tryd.func102, Tryd.ntmps102
  go_wp2_with (((((with_reducible refine wpList_plain ?_ ?_); (focus rfl); intro K hK)); first | ((with_reducible refine' wp_conv ?_ ?_ ?_ ?_ ?_); rotate_left 5; (focus (conv => lhs; whnf)); (focus (intro _; (simp; rfl))); (focus (intro _; (simp; rfl))); (focus (with_reducible exact wrap_n_q _)); (refine hK _ _ ?_; clear hK K)) | ((with_reducible refine' wp_bin ?_ ?_ ?_ ?_ ?_); rotate_left 3; (focus (conv => lhs; whnf)); (focus (conv => lhs; whnf)); (focus (intro _; rfl)); (focus (intro _; with_reducible exact run_q_add _ _ _)); (refine hK _ _ ?_; clear hK K)) | ((with_reducible refine' wp_append_bytes sl22 hS ?_ ?_ ?_ ?_ ?_ ?_ ?_); rotate_left 8; (focus (conv => lhs; whnf)); (focus ((repeat (first | with_reducible exact Split.here | with_reducible apply Split.there)); done)); (focus rfl); (focus ((exact hr _ hS.drop.drop))); (focus ((simp; rfl))); (focus (omega)); intro w' a' c' hcap; clear hS; intro hS; (try simp only [List.nil_append, List.append_assoc] at hS hcap ⊢); (try simp only [List.length_append] at hcap); (refine hK _ _ ?_; clear hK K)) | ((with_reducible refine' wp_load hS ?_ ?_ ?_ ?_ ?_); rotate_left 7; (focus rfl); (focus ((repeat (with_reducible exact Split.here)); done)); (focus (((simp only [List.getElem?_toArray, List.getElem?_cons_zero, List.getElem?_cons_succ]); rfl))); (focus (intro _; (simp; done))); (refine hK _ _ ?_; clear hK K)) | ((with_reducible refine' wp_store hS ?_ ?_ ?_ ?_ ?_ ?_ ?_); rotate_left 6; (focus rfl); (focus ((repeat (first | with_reducible exact Split.here | with_reducible apply Split.there)); done)); (focus (conv => lhs; whnf)); (focus (intro _; (simp; done))); (focus rfl); (focus (simp; done)); intro w'; clear hS; intro hS; (try simp only [List.setIfInBounds_toArray, List.set_cons_succ, List.set_cons_zero] at hS); (refine hK _ _ ?_; clear hK K))))
  rw [← List.length_append] at hS
  obtain ⟨nn, hnn⟩ : ∃ nn, nn = s.n + UInt64.ofNat l.length := ⟨_, rfl⟩
  rw [← hnn] at hS
  try rw [← hnn]
  have Hn := Lib.hid hnn
  clear hnn
  simp only [Act.put, List.setIfInBounds_toArray, List.set_cons_succ, List.set_cons_zero]
  go_loopw [23] (fun _ wr => ∃ st r, absorb st r = absorb s.st (s.rest ++ l) ∧ r.length ≤ s.rest.length + l.length ∧ Sat w0 wr (isSh b ⟨st, r, nn⟩ :: L)) (fun _ wr => lenAt wr b)
  case atStart => exact ⟨s.st, s.rest ++ l, rfl, by simp, isSh_shut (s := ⟨s.st, s.rest ++ l, nn⟩) (.slice a' (s.rest ++ l).length c') hS (Ent.refl _)⟩
  case round =>
    clear hS hcap
    obtain ⟨st, r, he, hle, hS⟩ := hrel
    have Hlen := Lib.hid (lenAt_eq hS)
    obtain ⟨a, c, hc, hS1⟩ := isSh_open hS
    clear hS
    have hS := hS1
    clear hS1
    dsimp only at hc hS
    have He := Lib.hid he
    clear he
    by_cases h64 : 64 ≤ r.length
    case pos =>
      obtain ⟨g, o, c2, hv, _⟩ := bytes_addr hS.drop (show 0 < r.length by omega)
      simp only [Value.slice.injEq, true_and] at hv
      obtain ⟨rfl, rfl⟩ := hv
      have h6 : (64 : Int) ≤ (r.length : Int) := by omega
      go_wp2_with (first | (go_at_call 106; ((with_reducible refine' (piece_any b st _ _ g o c (r.take 64) w0 _ (Bytes 5 (.slice (some ⟨g, o, none⟩) r.length c) r :: L) hT hS (fun w' h => h.bytes_reads.take (by omega))).mono ?_); rintro r4 w4 ⟨rfl, hS1⟩; (clear hS; have hS := hS1; clear hS1))) | ((((with_reducible refine wpList_plain ?_ ?_); (focus rfl); intro K hK)); first | ((with_reducible refine' wp_slice_hi 64 sl22 ?_ ?_ ?_ ?_ ?_); ((rotate_left 5; (focus rfl); (focus rfl); (focus (rfl)); (focus (omega)); (refine hK _ _ ?_; clear hK K)))) | ((with_reducible refine' wp_slice_l 64 sl22 ?_ ?_ ?_ ?_ ?_); ((rotate_left 5; (focus rfl); (focus rfl); (focus (rfl)); (focus (omega)); intro a' hsub; (refine hK _ _ ?_; clear hK K)))) | ((with_reducible refine' wp_load hS ?_ ?_ ?_ ?_ ?_); rotate_left 7; (focus rfl); (focus ((repeat (with_reducible exact Split.here)); done)); (focus (((simp only [List.getElem?_toArray, List.getElem?_cons_zero, List.getElem?_cons_succ]); rfl))); (focus (intro _; (simp; done))); (refine hK _ _ ?_; clear hK K)) | ((with_reducible refine' wp_store hS ?_ ?_ ?_ ?_ ?_ ?_ ?_); rotate_left 6; (focus rfl); (focus ((repeat (with_reducible exact Split.here)); done)); (focus (conv => lhs; whnf)); (focus (intro _; (simp; done))); (focus rfl); (focus (simp; done)); intro w'; clear hS; intro hS; (try simp only [List.setIfInBounds_toArray, List.set_cons_succ, List.set_cons_zero] at hS); (refine hK _ _ ?_; clear hK K))))
      have hd : Sat w0 w' (isSh b ⟨st.piece (r.take 64), r.drop 64, nn⟩ :: L) := isSh_shut (s := ⟨st.piece (r.take 64), r.drop 64, nn⟩) (.slice a' (r.length - 64) (c - 64)) (bytes_drop (hS.pick 1) hsub (by omega)) (Ent.pick 1 _)
      have hm := lenAt_eq hd
      go_roundw
      case rel =>
        repeat apply Exists.intro
        exact ⟨⟨st.piece (r.take 64), r.drop 64, by rw [← He.out]; exact (absorb_step st r h64).symm, by simp; omega, hd⟩, rfl⟩
      case measure => rw [hm, Hlen.out]; simp; omega
    case neg =>
      go_wp2_with (((((with_reducible refine wpList_plain ?_ ?_); (focus rfl); intro K hK)); ((with_reducible refine' wp_load hS ?_ ?_ ?_ ?_ ?_); rotate_left 7; (focus rfl); (focus ((repeat (with_reducible exact Split.here)); done)); (focus (((simp only [List.getElem?_toArray, List.getElem?_cons_zero, List.getElem?_cons_succ]); rfl))); (focus (intro _; (simp; done))); (refine hK _ _ ?_; clear hK K))))
      refine bodyPost_end (results_none rfl _ _ _) rfl ⟨rfl, ?_⟩
      have h1 : s.take l = ⟨st, r, nn⟩ := by
        unfold Sh.take
        rw [← He.out, absorb_stop st r (by omega), ← Hn.out]
      rw [h1]
      exact isSh_shut (s := ⟨st, r, nn⟩) (.slice a r.length c) hS (Ent.refl _)

theorem takes_succ (s : Sh) (k : Nat) : s.takes (k + 1) = (s.takes k).take [0] := rfl
theorem pad_step (r : Nat) (h : r < 64) (h2 : r ≠ 56) : padN (if r = 63 then 0 else r + 1) + 1 = padN r := by
  unfold padN
  split <;> omega
theorem length_be8 (x : UInt64) : (be8 x).length = 8 := rfl
theorem be8_get (x : UInt64) (k : Nat) (h : k < 8) : (be8 x)[k]? = some (x >>> UInt64.ofNat (56 - 8 * k)).toUInt8 := by
  unfold be8
  rw [List.getElem?_map, List.getElem?_range h]
  rfl
theorem bytes_get (s : St) (i k : Nat) (hi : i < 8) (hk : k < 4) : s.bytes[4 * i + k]? = some ((s.list.getD i 0) >>> UInt32.ofNat (24 - 8 * k)).toUInt8 := by
  obtain rfl | rfl | rfl | rfl | rfl | rfl | rfl | rfl : i = 0 ∨ i = 1 ∨ i = 2 ∨ i = 3 ∨ i = 4 ∨ i = 5 ∨ i = 6 ∨ i = 7 := by omega
  all_goals
    obtain rfl | rfl | rfl | rfl : k = 0 ∨ k = 1 ∨ k = 2 ∨ k = 3 := by omega
    all_goals rfl
theorem list_get (s : St) (i : Nat) (hi : i < 8) : (#[W s.a, W s.b, W s.c, W s.d, W s.e, W s.f, W s.g, W s.h] : Array Value)[((i : Nat) : Int).toNat]? = some (W (s.list.getD i 0)) := by
  obtain rfl | rfl | rfl | rfl | rfl | rfl | rfl | rfl : i = 0 ∨ i = 1 ∨ i = 2 ∨ i = 3 ∨ i = 4 ∨ i = 5 ∨ i = 6 ∨ i = 7 := by omega
  all_goals rfl

set_option maxRecDepth 100000 in
set_option maxHeartbeats 4000000 in
theorem end_any (b : Nat) (s : Sh) (w0 w : World) (L : List Asn) (hT : Table w0) (hS : Sat w0 w (isSh b s :: L)) (hrest : s.rest.length < 64) :
    Calls Tryd.prog 103 #[.pointer (some ⟨b, 0, none⟩)] w fun r w' => r = .returned (.agg (s.fin.map B).toArray) ∧ Sat w0 w' L := by
  obtain ⟨a, c, hc, hS1⟩ := isSh_open hS
  clear hS
  have hS := hS1
  clear hS1
  obtain ⟨s1, hs1⟩ : ∃ s1, s1 = s.take [0x80] := ⟨_, rfl⟩
  have hl1 : s1.rest.length < 64 := by rw [hs1]; exact s.take_lt _
  have hfin : s.fin = ((s1.takes (padN s1.rest.length)).take (be8 (s.n * 8))).st.bytes := by rw [hs1]; rfl
  have Hs1 := Lib.hid hs1
  have Hfin := Lib.hid hfin
  clear hs1 hfin
  obtain ⟨sl, hsl⟩ : ∃ sl, sl = Value.slice a s.rest.length c := ⟨_, rfl⟩
  have Hsl := Lib.hid hsl
  rw [← hsl] at hS
  clear hsl
  have h8 : (Q s.n) = Value.int .u64 (s.n.toNat : Int) := rfl
  go_enter Tryd.func103, Tryd.ntmps103
  go_wp2_with (first | (go_at_call 102; ((with_reducible refine' (take_any b s _ [0x80] w0 _ _ hT (isSh_close hS ?sax128 ?sbx128) (under_own ?scx128) hrest (by decide)).mono ?sdx128); (case sax128 => ((repeat (first | with_reducible exact Split.here | with_reducible apply Split.there)); done)); (case sbx128 => ((repeat (first | with_reducible exact Split.here | with_reducible apply Split.there)); done)); (case scx128 => ((repeat (with_reducible exact Split.here)); done)); (case' sdx128 => (rintro r4 w4 ⟨rfl, hS1⟩; rw [← Hs1.out] at hS1; (clear hS; have hS := hS1; clear hS1))))) | ((((with_reducible refine wpList_plain ?_ ?_); (focus rfl); intro K hK)); first | ((with_reducible refine' wp_bin ?_ ?_ ?_ ?_ ?_); rotate_left 3; (focus (conv => lhs; whnf)); (focus (conv => lhs; whnf)); (focus (intro _; rfl)); (focus (intro _; with_reducible exact run_q_mul8 _ _)); (refine hK _ _ ?_; clear hK K)) | ((with_reducible refine' wp_bytes_lit [0x80] hS ?_ ?_ ?_ ?_ ?_ ?_ ?_ ?_ ?_); rotate_left 3; (focus (intro _; (simp; rfl))); (focus (intro _; (simp; done))); (focus (intro _; (simp; rfl))); (focus rfl); (focus decide); (focus decide); (focus rfl); (focus kernel_rfl); intro w' b'; clear hS; intro hS; (refine hK _ _ ?_; clear hK K)) | ((with_reducible refine' wp_load hS ?_ ?_ ?_ ?_ ?_); rotate_left 7; (focus rfl); (focus ((repeat (first | with_reducible exact Split.here | with_reducible apply Split.there)); done)); (focus (((simp only [List.getElem?_toArray, List.getElem?_cons_zero, List.getElem?_cons_succ]); rfl))); (focus (intro _; (simp; done))); (refine hK _ _ ?_; clear hK K)) | ((with_reducible refine' wp_alloc hS ?_ ?_); rotate_left 1; (focus (intro _; (simp; rfl))); intro w' b'; clear hS; intro hS; (try simp only [Value.cells] at hS); (refine hK _ _ ?_; clear hK K))))
  have hS1 := hS.pick 2
  clear hS
  obtain ⟨bo, hbo, hS⟩ := name0 hS1
  clear hS1
  subst hbo
  replace hS : Sat w0 w4 (isSh b s1 :: Blk bo (.cells ((List.replicate 32 (0 : UInt8)).map B).toArray 144) :: L) := (hS.pick 2).drop.pick 1
  obtain ⟨x8, hx8⟩ : ∃ x, x = s.n * 8 := ⟨_, rfl⟩
  rw [← hx8]
  have Hx8 := Lib.hid hx8
  clear hx8
  try simp only [Act.put, List.setIfInBounds_toArray, List.set_cons_succ, List.set_cons_zero]
  go_loopw [18] (fun _ wr => ∃ k, k + padN (s1.takes k).rest.length = padN s1.rest.length ∧ (s1.takes k).rest.length < 64 ∧ Sat w0 wr (isSh b (s1.takes k) :: Blk bo (.cells ((List.replicate 32 (0 : UInt8)).map B).toArray 144) :: L)) (fun _ wr => padN (lenAt wr b))
  case atStart => exact ⟨0, by simp [Sh.takes], hl1, hS⟩
  case round =>
    clear hS
    obtain ⟨k, hk, hlt, hS⟩ := hrel
    obtain ⟨s2, hs2⟩ : ∃ s2, s2 = s1.takes k := ⟨_, rfl⟩
    rw [← hs2] at hk hlt hS
    have Hs2 := Lib.hid hs2
    have Hm := Lib.hid (lenAt_eq hS)
    have Hk := Lib.hid hk
    clear hs2 hk
    obtain ⟨a2, c2, hc2, hS1⟩ := isSh_open hS
    clear hS
    have hS := hS1
    clear hS1
    by_cases h56 : s2.rest.length = 56
    case neg =>
      have hne : ((s2.rest.length : Int) == 56) = false := by rw [beq_eq_false_iff_ne]; omega
      go_wp2_with (first | (go_at_call 102; ((with_reducible refine' (take_any b s2 _ [0] w0 _ _ hT (isSh_close hS ?sa2x160 ?sb2x160) (under_own ?sc2x160) hlt (by decide)).mono ?sd2x160); (case sa2x160 => ((repeat (first | with_reducible exact Split.here | with_reducible apply Split.there)); done)); (case sb2x160 => ((repeat (first | with_reducible exact Split.here | with_reducible apply Split.there)); done)); (case sc2x160 => ((repeat (with_reducible exact Split.here)); done)); (case' sd2x160 => (rintro r4 w4 ⟨rfl, hS1⟩; (clear hS; have hS := hS1; clear hS1))))) | ((((with_reducible refine wpList_plain ?_ ?_); (focus rfl); intro K hK)); first | ((with_reducible refine' wp_bytes_lit [0] hS ?_ ?_ ?_ ?_ ?_ ?_ ?_ ?_ ?_); rotate_left 3; (focus (intro _; (simp; rfl))); (focus (intro _; (simp; done))); (focus (intro _; (simp; rfl))); (focus rfl); (focus decide); (focus decide); (focus rfl); (focus kernel_rfl); intro w' b'; clear hS; intro hS; (refine hK _ _ ?_; clear hK K)) | ((with_reducible refine' wp_load hS ?_ ?_ ?_ ?_ ?_); rotate_left 7; (focus rfl); (focus ((repeat (with_reducible exact Split.here)); done)); (focus (((simp only [List.getElem?_toArray, List.getElem?_cons_zero, List.getElem?_cons_succ]); rfl))); (focus (intro _; (simp; done))); (refine hK _ _ ?_; clear hK K))))
      have hm2 := lenAt_eq hS
      have hz := s2.take_zero_len hlt
      go_roundw
      case rel =>
        exact ⟨k + 1, by rw [takes_succ, ← Hs2.out, hz]; have := pad_step _ hlt h56; have := Hk.out; omega, by rw [takes_succ, ← Hs2.out]; exact s2.take_lt _, by rw [takes_succ, ← Hs2.out]; (refine Sat.ent hS ?_; repeat (first | (with_reducible exact Ent.refl _) | ((with_reducible apply Ent.pull); (focus ((repeat (first | with_reducible exact Split.here | with_reducible apply Split.there)); done))) | (with_reducible apply Ent.skip)))⟩
      case measure =>
        rw [hm2, Hm.out, hz]
        have := pad_step _ hlt h56
        omega
    case pos =>
      have he : ((s2.rest.length : Int) == 56) = true := by simp [h56]
      have hk2 : k = padN s1.rest.length := by
        have := Hk.out
        rw [h56] at this
        exact this
      have Hfin2 := Lib.hid (show s.fin = (s2.take (be8 x8)).st.bytes by rw [Hfin.out, ← hk2, ← Hs2.out, Hx8.out])
      clear hk2
      go_wp2_with (((((with_reducible refine wpList_plain ?_ ?_); (focus rfl); intro K hK)); first | ((with_reducible refine' wp_load hS ?_ ?_ ?_ ?_ ?_); rotate_left 7; (focus rfl); (focus ((repeat (with_reducible exact Split.here)); done)); (focus (((simp only [List.getElem?_toArray, List.getElem?_cons_zero, List.getElem?_cons_succ]); rfl))); (focus (intro _; (simp; done))); (refine hK _ _ ?_; clear hK K)) | ((with_reducible refine' wp_alloc hS ?_ ?_); rotate_left 1; (focus (intro _; (simp; rfl))); intro w' b'; clear hS; intro hS; (try simp only [Value.cells] at hS); (refine hK _ _ ?_; clear hK K))))
      have hS1 := isSh_close (s := s2) (hS.pick 1) (by ((repeat (with_reducible exact Split.here)); done)) (by ((repeat (first | with_reducible exact Split.here | with_reducible apply Split.there)); done))
      clear hS
      have hS2 := hS1.pick 1
      clear hS1
      obtain ⟨bt, hbt, hS⟩ := name0 hS2
      clear hS2
      subst hbt
      replace hS : Sat w0 w' (Blk bt (.cells (((be8 x8).take 0 ++ List.replicate (8 - 0) (0 : UInt8)).map B).toArray 178) :: isSh b s2 :: Blk bo (.cells ((List.replicate 32 (0 : UInt8)).map B).toArray 144) :: L) := hS
      go_loopw [27] (fun i wr => ∃ k : Nat, k ≤ 8 ∧ i = .int .i64 k ∧ Sat w0 wr (Blk bt (.cells (((be8 x8).take k ++ List.replicate (8 - k) (0 : UInt8)).map B).toArray 178) :: isSh b s2 :: Blk bo (.cells ((List.replicate 32 (0 : UInt8)).map B).toArray 144) :: L)) (fun i _ => 8 - (intOf i).toNat)
      case atStart => exact ⟨0, by omega, rfl, hS⟩
      case round =>
        clear hS
        obtain ⟨k, hk, rfl, hS⟩ := hrel
        by_cases hk8 : k < 8
        case pos =>
          have hfl := fill_len (be8 x8) 0 8 k (length_be8 _) hk
          have Hset := Lib.hid (fill_set (be8 x8) 0 8 k (length_be8 _) hk8 _ (be8_get x8 k hk8))
          have Hsh := Lib.hid (show (56 - 8 * (k : Int)).toNat = 56 - 8 * k by omega)
          go_wp2_with (((((with_reducible refine wpList_plain ?_ ?_); (focus rfl); intro K hK)); first | ((with_reducible refine' wp_bin ?_ ?_ ?_ ?_ ?_); rotate_left 3; (focus (conv => lhs; whnf)); (focus (conv => lhs; whnf)); (focus (intro _; rfl)); (focus (intro _; with_reducible exact run_q_shr' _ _ _ _ (by omega) (by omega))); (refine hK _ _ ?_; clear hK K)) | ((with_reducible refine' wp_conv ?_ ?_ ?_ ?_ ?_); rotate_left 5; (focus (conv => lhs; whnf)); (focus (intro _; (simp; rfl))); (focus (intro _; (simp; rfl))); (focus (with_reducible exact wrap_q_b _)); (refine hK _ _ ?_; clear hK K)) | ((with_reducible refine' wp_index_arr (j := k) ?_ ?_ ?_ ?_ ?_ ?_ ?_ ?_); rotate_left 7; (focus rfl); (focus rfl); (focus (intro _; (simp; exact ⟨rfl, rfl⟩))); (focus (intro _; (simp; rfl))); (focus (omega)); (focus (omega)); (focus (omega)); (refine hK _ _ ?_; clear hK K)) | ((with_reducible refine' wp_larr_store (F := B) (u := (x8 >>> UInt64.ofNat (56 - 8 * k)).toUInt8) hS ?_ ?_ ?_ ?_ ?_ ?_ ?_); rotate_left 5; (focus rfl); (focus ((repeat (with_reducible exact Split.here)); done)); (focus (rw [← Hsh.out]; rfl)); (focus rfl); (focus omega); (focus (intro _; (simp; done))); intro w'; clear hS; intro hS; (refine hK _ _ ?_; clear hK K))))
          go_roundw
          case rel => exact ⟨k + 1, by omega, by go_num, by rw [Hset.out] at hS; exact hS⟩
          case measure => simp [intOf]; omega
        case neg =>
          obtain rfl : k = 8 := by omega
          rw [show ((8 : Nat) : Int) = 8 from rfl]
          have ht8 : (be8 x8).take 8 ++ List.replicate (8 - 8) (0 : UInt8) = be8 x8 := by
            rw [List.take_of_length_le (by rw [length_be8]; omega)]
            simp
          rw [ht8] at hS
          clear ht8 hk8 hk
          have hl8 := length_be8 x8
          obtain ⟨s3, hs3⟩ : ∃ s3, s3 = s2.take (be8 x8) := ⟨_, rfl⟩
          have Hs3 := Lib.hid hs3
          clear hs3
          go_wp2_with (first | (go_at_call 102; ((with_reducible refine' (take_any b s2 _ (be8 x8) w0 _ _ hT (hS.split ?sa3x215) (under_arr ?sc3x215 hl8.symm (Nat.le_refl 8) (show 8 ≤ maxLen by unfold maxLen; decide)) hlt (by omega)).mono ?sd3x215); (case sa3x215 => ((repeat (first | with_reducible exact Split.here | with_reducible apply Split.there)); done)); (case sc3x215 => ((repeat (with_reducible exact Split.here)); done)); (case' sd3x215 => (rintro r4 w4 ⟨rfl, hS1⟩; rw [← Hs3.out] at hS1; clear hS; obtain ⟨a3, c3, _, hS⟩ := isSh_open hS1; clear hS1)))) | ((((with_reducible refine wpList_plain ?_ ?_); (focus rfl); intro K hK)); first | ((with_reducible refine' wp_loadN hS ?_ ?_ ?_ ?_ ?_ ?_ ?_); rotate_left 8; (focus rfl); (focus ((repeat (first | with_reducible exact Split.here | with_reducible apply Split.there)); done)); (focus (intro _; (simp; done))); (focus (intro _; (simp; rfl))); (focus (simp; done)); (focus (simp; rfl)); (refine hK _ _ ?_; clear hK K)) | ((with_reducible refine' wp_alloc hS ?_ ?_); rotate_left 1; (focus (intro _; (simp; rfl))); intro w' b'; clear hS; intro hS; (try simp only [Value.cells] at hS); (refine hK _ _ ?_; clear hK K))))
          obtain ⟨b6, hb6, hS1⟩ := name0 hS
          clear hS
          subst hb6
          have hS : Sat w0 w' (Blk b6 (.cells ((s3.st.bytes.take (4 * 0) ++ List.replicate (32 - 4 * 0) (0 : UInt8)).map B).toArray 144) :: Blk bo (.cells ((List.replicate 32 (0 : UInt8)).map B).toArray 144) :: L) := (((hS1.pick 1).drop.pick 1).drop.pick 1).drop
          clear hS1
          obtain ⟨st, hst⟩ : ∃ st, st = s3.st := ⟨_, rfl⟩
          rw [← hst] at hS
          rw [← hst]
          have Hst := Lib.hid hst
          clear hst
          have hlb := length_bytes st
          go_loopw [46] (fun i wr => ∃ k : Nat, k ≤ 8 ∧ i = .int .i64 k ∧ Sat w0 wr (Blk b6 (.cells ((st.bytes.take (4 * k) ++ List.replicate (32 - 4 * k) (0 : UInt8)).map B).toArray 144) :: Blk bo (.cells ((List.replicate 32 (0 : UInt8)).map B).toArray 144) :: L)) (fun i _ => 8 - (intOf i).toNat)
          case atStart => exact ⟨0, by omega, rfl, hS⟩
          case round =>
            clear hS
            obtain ⟨k, hk, rfl, hS⟩ := hrel
            by_cases hk8 : k < 8
            case pos =>
              have Hlg := Lib.hid (list_get st k hk8)
              obtain ⟨wd, hwd⟩ : ∃ wd, wd = st.list.getD k 0 := ⟨_, rfl⟩
              have Hwd := Lib.hid hwd
              clear hwd
              go_wp2_with (((((with_reducible refine wpList_plain ?_ ?_); (focus rfl); intro K hK)); ((with_reducible refine' wp_index_val (v := W wd) ?_ ?_ ?_ ?_ ?_ ?_ ?_ ?_ ?_); rotate_left 5; (focus rfl); (focus rfl); (focus (intro _; (simp; exact ⟨rfl, rfl⟩))); (focus (intro _; (simp; done))); (focus (intro _; (simp; done))); (focus (omega)); (focus (omega)); (focus (rw [Hwd.out]; exact Hlg.out)); (refine hK _ _ ?_; clear hK K))))
              go_loopw [50] (fun i wr => ∃ q : Nat, q ≤ 4 ∧ i = .int .i64 q ∧ Sat w0 wr (Blk b6 (.cells ((st.bytes.take (4 * k + q) ++ List.replicate (32 - (4 * k + q)) (0 : UInt8)).map B).toArray 144) :: Blk bo (.cells ((List.replicate 32 (0 : UInt8)).map B).toArray 144) :: L)) (fun i _ => 4 - (intOf i).toNat)
              case atStart => exact ⟨0, by omega, rfl, hS⟩
              case round =>
                clear hS
                obtain ⟨q, hq, rfl, hS⟩ := hrel
                by_cases hq4 : q < 4
                case pos =>
                  have hfl := fill_len st.bytes 0 32 (4 * k + q) hlb (by omega)
                  have Hset := Lib.hid (fill_set st.bytes 0 32 (4 * k + q) hlb (by omega) _ (bytes_get st k q hk8 hq4))
                  have Hsh := Lib.hid (show (24 - 8 * (q : Int)).toNat = 24 - 8 * q by omega)
                  go_wp2_with (((((with_reducible refine wpList_plain ?_ ?_); (focus rfl); intro K hK)); first | ((with_reducible refine' wp_bin ?_ ?_ ?_ ?_ ?_); rotate_left 3; (focus (conv => lhs; whnf)); (focus (conv => lhs; whnf)); (focus (intro _; rfl)); (focus (intro _; with_reducible exact run_w_shr' _ _ _ _ (by omega) (by omega))); (refine hK _ _ ?_; clear hK K)) | ((with_reducible refine' wp_conv ?_ ?_ ?_ ?_ ?_); rotate_left 5; (focus (conv => lhs; whnf)); (focus (intro _; (simp; rfl))); (focus (intro _; (simp; rfl))); (focus (with_reducible exact wrap_w_b _)); (refine hK _ _ ?_; clear hK K)) | ((with_reducible refine' wp_index_arr (j := (4 * k + q)) ?_ ?_ ?_ ?_ ?_ ?_ ?_ ?_); rotate_left 7; (focus rfl); (focus rfl); (focus (intro _; (simp; exact ⟨rfl, rfl⟩))); (focus (intro _; (simp; rfl))); (focus (omega)); (focus (omega)); (focus (omega)); (refine hK _ _ ?_; clear hK K)) | ((with_reducible refine' wp_larr_store (F := B) (u := (wd >>> UInt32.ofNat (24 - 8 * q)).toUInt8) hS ?_ ?_ ?_ ?_ ?_ ?_ ?_); rotate_left 5; (focus rfl); (focus ((repeat (with_reducible exact Split.here)); done)); (focus (rw [← Hsh.out]; rfl)); (focus rfl); (focus omega); (focus (intro _; (simp; done))); intro w'; clear hS; intro hS; (refine hK _ _ ?_; clear hK K))))
                  go_roundw
                  case rel => exact ⟨q + 1, by omega, by go_num, by rw [Hwd.out, Hset.out] at hS; exact hS⟩
                  case measure => simp [intOf]; omega
                case neg =>
                  obtain rfl : q = 4 := by omega
                  go_wp2_with (fail)
                  go_roundw
                  case rel => exact ⟨k + 1, by omega, by go_num, hS⟩
                  case measure => simp [intOf]; omega
            case neg =>
              obtain rfl : k = 8 := by omega
              have hob : st.bytes.take (4 * 8) ++ List.replicate (32 - 4 * 8) (0 : UInt8) = st.bytes := by
                rw [List.take_of_length_le (by rw [hlb]; omega)]
                simp
              rw [hob] at hS
              clear hob
              have hsz : ((st.bytes.map B).toArray).size = 32 := by simp [hlb]
              have hsz2 : ∀ w, (sizeOf 144).run Tryd.prog w = .ok ((st.bytes.map B).toArray).size w := by intro w; rw [hsz]; (simp; done)
              go_wp2_with (((((with_reducible refine wpList_plain ?_ ?_); (focus rfl); intro K hK)); first | ((with_reducible refine' wp_load_all hS ?_ ?_ ?_ ?_ ?_); rotate_left 5; (focus rfl); (focus ((repeat (with_reducible exact Split.here)); done)); (focus (intro _; (simp; done))); (focus (exact hsz2)); (refine hK _ _ ?_; clear hK K)) | ((with_reducible refine' wp_store_all (vs := (st.bytes.map B).toArray) hS ?_ ?_ ?_ ?_ ?_ ?_ ?_); rotate_left 4; (focus rfl); (focus ((repeat (first | with_reducible exact Split.here | with_reducible apply Split.there)); done)); (focus rfl); (focus (exact hsz2)); (focus (rw [hsz]; rfl)); (focus (exact one_map (fun _ => rfl) _)); intro w'; clear hS; intro hS; (refine hK _ _ ?_; clear hK K))))
              refine bodyPost_ret (results_cell_row rfl _ _ bo _ (st.bytes.map B).toArray (0, 0) _ rfl hS.at Tryd.underlying144 rfl (by rw [hsz]; kernel_rfl)) rfl ⟨?_, hS.drop.drop⟩
              rw [Hfin2.out, ← Hs3.out, Hst.out]

/-- The parts of a digest, as they lie in memory. -/
def Parts (w0 : World) (L : List Asn) (v : Value) (ps : List (Value × List UInt8)) : Prop :=
  ∃ ad c, v = .slice (some ad) ps.length c ∧ ∀ w', Sat w0 w' L → ∀ j p, ps[j]? = some p → w'.cell? (ad.add j) = some p.1 ∧ Reads w' p.1 p.2
theorem foldl_snoc {α β : Type} (f : β → α → β) (b : β) (l : List α) (k : Nat) (x : α) (h : l[k]? = some x) : (l.take (k + 1)).foldl f b = f ((l.take k).foldl f b) x := by
  rw [List.take_add_one, h]
  simp

set_option maxRecDepth 100000 in
set_option maxHeartbeats 4000000 in
theorem digest_any (v : Value) (ps : List (Value × List UInt8)) (w0 w : World) (L : List Asn) (hT : Table w0) (hS : Sat w0 w L) (hps : Parts w0 L v ps) (hnp : ps.length ≤ 1000000) (hlen : ∀ p ∈ ps, p.2.length ≤ 140737488355264) :
    Calls Tryd.prog 90 #[v] w fun r w' => r = .returned (.agg (((ps.foldl (fun s p => s.take p.2) Sha.start).fin).map B).toArray) ∧ Sat w0 w' L := by
  obtain ⟨⟨ab, ao, aw⟩, c, rfl, hc⟩ := hps
  go_enter Tryd.func90, Tryd.ntmps90
  go_wp2_with (first | (go_at_call 101; ((with_reducible refine' (begin_any w0 _ _ hS).mono ?_); rintro r4 w4 ⟨bs, rfl, hS1⟩; (clear hS; have hS := hS1; clear hS1))) | ((((with_reducible refine wpList_plain ?_ ?_); (focus rfl); intro K hK)); ((with_reducible refine' wp_alloc hS ?_ ?_); rotate_left 1; (focus (intro _; (simp; rfl))); intro w' b'; clear hS; intro hS; (try simp only [Value.cells] at hS); (refine hK _ _ ?_; clear hK K))))
  obtain ⟨bo, hbo, hS1⟩ := name0 (hS.pick 1)
  clear hS
  subst hbo
  have hS := hS1
  clear hS1
  go_loopw [9] (fun i wr => ∃ k : Nat, k ≤ ps.length ∧ i = .int .i64 k ∧ ((ps.take k).foldl (fun s p => s.take p.2) Sha.start).rest.length < 64 ∧ Sat w0 wr (isSh bs ((ps.take k).foldl (fun s p => s.take p.2) Sha.start) :: Blk bo (.cells ((List.replicate 32 (0 : UInt8)).map B).toArray 144) :: L)) (fun i _ => ps.length - (intOf i).toNat)
  case atStart => exact ⟨0, by omega, rfl, by show 0 < 64; omega, hS.pick 1⟩
  case round =>
    clear hS
    obtain ⟨k, hk, rfl, hrl, hS⟩ := hrel
    by_cases hlt : k < ps.length
    case pos =>
      obtain ⟨⟨pv, pl⟩, hp⟩ : ∃ p, ps[k]? = some p := ⟨ps[k], List.getElem?_eq_getElem hlt⟩
      have hfs := foldl_snoc (fun (s : Sh) (p : Value × List UInt8) => s.take p.2) Sha.start ps k _ hp
      obtain ⟨sk, hsk⟩ : ∃ sk, sk = (ps.take k).foldl (fun s p => s.take p.2) Sha.start := ⟨_, rfl⟩
      rw [← hsk] at hS hrl hfs
      have Hfs := Lib.hid hfs
      have hpl : pl.length ≤ 140737488355264 := hlen _ (List.mem_of_getElem? hp)
      have hcell := (hc _ hS.drop.drop k _ hp).1
      have hun : Under w0 (Blk bo (.cells ((List.replicate 32 (0 : UInt8)).map B).toArray 144) :: L) pv pl := fun w' h => (hc w' h.drop k _ hp).2
      clear hsk hfs hp
      go_wp2_with (first | (go_at_call 102; ((with_reducible refine' (take_any bs sk pv pl w0 _ _ hT hS hun hrl hpl).mono ?_); rintro r4 w4 ⟨rfl, hS1⟩; (clear hS; have hS := hS1; clear hS1))) | ((((with_reducible refine wpList_plain ?_ ?_); (focus rfl); intro K hK)); ((with_reducible refine' wp_load_known ?_ ?_ ?_ ?_); rotate_left 2; (focus rfl); (focus (with_reducible assumption)); (focus (intro _; (simp; done))); (refine hK _ _ ?_; clear hK K))))
      go_roundw
      case rel => exact ⟨k + 1, by omega, by go_num, by rw [Hfs.out]; exact sk.take_lt _, by rw [Hfs.out]; exact hS⟩
      case measure => simp [intOf]; omega
    case neg =>
      obtain rfl : k = ps.length := by omega
      rw [List.take_length] at hS hrl
      obtain ⟨sk, hsk⟩ : ∃ sk, sk = ps.foldl (fun s p => s.take p.2) Sha.start := ⟨_, rfl⟩
      rw [← hsk] at hS hrl
      have Hsk := Lib.hid hsk
      clear hsk
      have hfl : (sk.fin).length = 32 := rfl
      have hsz : ((sk.fin.map B).toArray).size = 32 := by simp [hfl]
      have hsz2 : ∀ w, (sizeOf 144).run Tryd.prog w = .ok ((sk.fin.map B).toArray).size w := by intro w; rw [hsz]; (simp; done)
      go_wp2_with (first | (go_at_call 103; ((with_reducible refine' (end_any bs sk w0 _ _ hT hS hrl).mono ?_); rintro r4 w4 ⟨rfl, hS1⟩; (clear hS; have hS := hS1; clear hS1))) | ((((with_reducible refine wpList_plain ?_ ?_); (focus rfl); intro K hK)); ((with_reducible refine' wp_store_all (vs := (sk.fin.map B).toArray) hS ?_ ?_ ?_ ?_ ?_ ?_ ?_); rotate_left 4; (focus rfl); (focus ((repeat (with_reducible exact Split.here)); done)); (focus rfl); (focus (exact hsz2)); (focus (rw [hsz]; rfl)); (focus (exact one_map (fun _ => rfl) _)); intro w'; clear hS; intro hS; (refine hK _ _ ?_; clear hK K))))
      refine bodyPost_ret (results_cell_row rfl _ _ bo _ (sk.fin.map B).toArray (0, 0) _ rfl hS.at Tryd.underlying144 rfl (by rw [hsz]; kernel_rfl)) rfl ⟨by rw [← Hsk.out], hS.drop⟩

/-- A block of one slice: one part. -/
theorem parts_one {w0 : World} {L M : List Asn} {b : Nat} {v : Value} {l : List UInt8} {e : TypeId} {f : Nat × Nat} (s : Split L (Blk b (.cells #[v] e f)) M) (h : Under w0 L v l) : Parts w0 L (.slice (some ⟨b, 0, none⟩) 1 1) [(v, l)] := by
  refine ⟨⟨b, 0, none⟩, 1, rfl, fun w' hS j p hj => ?_⟩
  cases j with
  | zero =>
    cases hj
    exact ⟨by rw [addr_add, cell_blk (hS.split s).at]; rfl, h w' hS⟩
  | succ j => cases hj

set_option maxRecDepth 100000 in
set_option maxHeartbeats 4000000 in
theorem check_any (v : Value) (vl : Value) (l : List UInt8) (w0 w : World) (L : List Asn) (hT : Table w0) (hS : Sat w0 w L) (hps : Parts w0 L v [(vl, l)]) (hlen : l.length ≤ 140737488355264) :
    Calls Tryd.prog 79 #[v] w fun r w' => r = .returned (.agg ((check l).map B).toArray) ∧ Sat w0 w' L := by
  have hl32 : (digest l).length = 32 := rfl
  obtain ⟨dg, hdg⟩ : ∃ dg, dg = digest l := ⟨_, rfl⟩
  rw [← hdg] at hl32
  have Hdg := Lib.hid hdg
  clear hdg
  have hck : check l = dg.take 4 := by rw [Hdg.out]; rfl
  have Hck := Lib.hid hck
  clear hck
  have hps2 : ∀ A : Asn, Parts w0 (A :: L) v [(vl, l)] := fun A => by
    obtain ⟨ad, c, e, h⟩ := hps
    exact ⟨ad, c, e, fun w' hS => h w' hS.drop⟩
  have hsz : ((dg.map B).toArray).size = 32 := by simp [hl32]
  have hsz2 : ∀ w, (sizeOf 144).run Tryd.prog w = .ok ((dg.map B).toArray).size w := by intro w; rw [hsz]; (simp; done)
  have hsz4 : (((dg.take 4).map B).toArray).size = 4 := by simp [hl32]
  have hsz5 : ∀ w, (sizeOf 133).run Tryd.prog w = .ok (((dg.take 4).map B).toArray).size w := by intro w; rw [hsz4]; (simp; done)
  have hex : .agg (((dg.map B).toArray).extract 0 (0 + 4)) = Value.agg ((dg.take 4).map B).toArray := by simp
  go_enter Tryd.func79, Tryd.ntmps79
  go_wp2_with (first | (go_at_call 90; ((with_reducible refine' (digest_any v [(vl, l)] w0 _ _ hT hS (hps2 _) (by simp) (by intro p hp; simp at hp; subst hp; exact hlen)).mono ?_); rintro r4 w4 ⟨rfl, hS1⟩; (clear hS; have hS := hS1; clear hS1); rw [show (([(vl, l)] : List (Value × List UInt8)).foldl (fun s p => s.take p.2) Sha.start).fin = dg from Hdg.out.symm])) | ((((with_reducible refine wpList_plain ?_ ?_); (focus rfl); intro K hK)); first | ((with_reducible refine' wp_store_all (vs := (dg.map B).toArray) hS ?_ ?_ ?_ ?_ ?_ ?_ ?_); rotate_left 4; (focus rfl); (focus ((repeat (first | with_reducible exact Split.here | with_reducible apply Split.there)); done)); (focus rfl); (focus (exact hsz2)); (focus (rw [hsz]; rfl)); (focus (exact one_map (fun _ => rfl) _)); intro w'; clear hS; intro hS; (refine hK _ _ ?_; clear hK K)) | ((with_reducible refine' wp_store_all (vs := ((dg.take 4).map B).toArray) hS ?_ ?_ ?_ ?_ ?_ ?_ ?_); rotate_left 4; (focus rfl); (focus ((repeat (first | with_reducible exact Split.here | with_reducible apply Split.there)); done)); (focus rfl); (focus (exact hsz5)); (focus (rw [hsz4]; rfl)); (focus (exact one_map (fun _ => rfl) _)); intro w'; clear hS; intro hS; (refine hK _ _ ?_; clear hK K)) | ((with_reducible refine' wp_arrptr ?_ ?_ ?_ ?_); rotate_left 5; (focus rfl); (focus (intro _; (simp; exact ⟨rfl, rfl⟩))); (focus omega); (refine hK _ _ ?_; clear hK K)) | ((with_reducible refine' wp_loadN hS ?_ ?_ ?_ ?_ ?_ ?_ ?_); rotate_left 8; (focus rfl); (focus ((repeat (with_reducible exact Split.here)); done)); (focus (intro _; (simp; done))); (focus (intro _; (simp; rfl))); (focus (rw [hsz]; decide)); (focus (exact hex)); (refine hK _ _ ?_; clear hK K)) | ((with_reducible refine' wp_alloc hS ?_ ?_); rotate_left 1; (focus (intro _; (simp; rfl))); intro w' b'; clear hS; intro hS; (try simp only [Value.cells] at hS); (refine hK _ _ ?_; clear hK K))))
  refine bodyPost_ret (results_cell_row rfl _ _ _ _ ((dg.take 4).map B).toArray (0, 0) _ rfl hS.at Tryd.underlying133 rfl (by rw [hsz4]; kernel_rfl)) rfl ⟨by rw [← Hck.out], ?_⟩
  exact hS.drop.drop

theorem or_xor_zero (u x y : UInt8) : (u ||| (x ^^^ y)) = 0 ↔ u = 0 ∧ x = y := by
  rw [UInt8.or_eq_zero_iff, UInt8.xor_eq_zero_iff]
theorem take_snoc_iff {a b : List UInt8} {k : Nat} {x y : UInt8} (hx : a[k]? = some x) (hy : b[k]? = some y) : a.take (k + 1) = b.take (k + 1) ↔ a.take k = b.take k ∧ x = y := by
  rw [List.take_add_one, List.take_add_one, hx, hy]
  have h1 := (List.getElem?_eq_some_iff.1 hx).1
  have h2 := (List.getElem?_eq_some_iff.1 hy).1
  constructor
  · intro h
    have := List.append_inj h (by simp; omega)
    simpa using this
  · rintro ⟨h, rfl⟩
    rw [h]
set_option maxRecDepth 100000 in
set_option maxHeartbeats 4000000 in
theorem alike_any (va vb : Value) (la lb : List UInt8) (w0 w : World) (L : List Asn) (hS : Sat w0 w L) (ha : Under w0 L va la) (hb : Under w0 L vb lb) (hla : la.length ≤ 140737488355328) (hlb : lb.length ≤ 140737488355328) :
    Calls Tryd.prog 84 #[va, vb] w fun r w' => r = .returned (.bool (decide (la = lb))) ∧ Sat w0 w' L := by
  obtain ⟨aa, ac, rfl, _⟩ := ha w hS
  obtain ⟨ab, bc, rfl, _⟩ := hb w hS
  by_cases hl : la.length = lb.length
  case neg =>
    have hne : ((la.length : Int) == (lb.length : Int)) = false := by rw [beq_eq_false_iff_ne]; omega
    have hd : decide (la = lb) = false := by simp; intro h; exact hl (by rw [h])
    rw [hd]
    clear hd hl
    go_enter Tryd.func84, Tryd.ntmps84
    go_wp2_with (fail)
    go_ret
    exact ⟨rfl, hS⟩
  obtain ⟨n, hn⟩ : ∃ n, la.length = n := ⟨_, rfl⟩
  have hn2 : lb.length = n := by omega
  rw [hn] at ha hla ⊢
  rw [hn2] at hb ⊢
  have Hn := Lib.hid hn
  have Hn2 := Lib.hid hn2
  clear hl hlb hn hn2
  have hne : ((n : Int) == (n : Int)) = true := by simp
  go_enter Tryd.func84, Tryd.ntmps84
  go_wp2_with (fail)
  go_loopw [5, 14] (fun u i wr => ∃ (k : Nat) (x : UInt8), k ≤ n ∧ i = .int .i64 k ∧ u = B x ∧ (x = 0 ↔ la.take k = lb.take k) ∧ Sat w0 wr L) (fun _ i _ => n - (intOf i).toNat)
  case atStart => exact ⟨0, 0, by omega, rfl, rfl, by simp, hS⟩
  case round =>
    clear hS hne
    obtain ⟨k, x, hk, rfl, rfl, hx, hS⟩ := hrel
    have Hx := Lib.hid hx
    clear hx
    by_cases hlt : k < n
    case pos =>
      obtain ⟨p, hp⟩ : ∃ p, la[k]? = some p := ⟨_, List.getElem?_eq_getElem (by rw [Hn.out]; exact hlt)⟩
      obtain ⟨q, hq⟩ : ∃ q, lb[k]? = some q := ⟨_, List.getElem?_eq_getElem (by rw [Hn2.out]; exact hlt)⟩
      obtain ⟨aa, rfl⟩ := reads_addr (ha _ hS) (by rw [Hn.out]; omega)
      obtain ⟨ab, rfl⟩ := reads_addr (hb _ hS) (by rw [Hn2.out]; omega)
      have hc1 := reads_at (ha _ hS) k p hp
      have hc2 := reads_at (hb _ hS) k q hq
      have Ht := Lib.hid (take_snoc_iff hp hq)
      clear hp hq
      go_wp2_with (first | ((with_reducible refine Txt.wp_region_text ?_ ?_ ?_); (focus kernel_rfl); (focus decide +kernel); intro Q' hQ'; have hS1 := hS.drew; clear hS; have hS := hS1; clear hS1) | (with_reducible refine Txt.wpTxt_nil ?_) | ((first | ((with_reducible refine wpList_plain ?_ ?_); (focus rfl); intro K hK) | ((with_reducible refine Txt.wpTxt_plain ?_ ?_ ?_); (focus rfl); (focus rfl); intro K hK)); ((with_reducible refine' wp_bin ?_ ?_ ?_ ?_ ?_); rotate_left 3; (focus (conv => lhs; whnf)); (focus (conv => lhs; whnf)); (focus (intro _; rfl)); (focus (intro _; first | with_reducible exact run_b_or _ _ _ | with_reducible exact run_b_xor _ _ _)); (refine hK _ _ ?_; clear hK K))) | ((with_reducible refine Txt.wpTxt_plain ?_ ?_ ?_); (focus with_reducible rfl); (focus rfl); intro _ _))
      go_roundw
      case rel => exact ⟨k + 1, x ||| (p ^^^ q), by omega, by go_num, rfl, by rw [or_xor_zero, Ht.out, Hx.out], hS⟩
      case measure => simp [intOf]; omega
    case neg =>
      obtain rfl : k = n := by omega
      have h1 : lb.take k = lb := List.take_of_length_le (by rw [Hn2.out]; exact Nat.le_refl _)
      have h2 : la.take k = la := List.take_of_length_le (by rw [Hn.out]; exact Nat.le_refl _)
      have hiff : (x = 0 ↔ la = lb) := by rw [Hx.out, h2, h1]
      have hb0 : ((x.toNat : Int) == 0) = decide (la = lb) := by
        by_cases hx0 : x = 0
        · subst hx0
          simp [hiff.1 rfl]
        · have hz : ((x.toNat : Int) == 0) = false := by
            rw [beq_eq_false_iff_ne]
            intro h
            apply hx0
            apply UInt8.toNat_inj.1
            simpa using h
          rw [hz]
          symm
          simp
          exact fun h => hx0 (hiff.2 h)
      have Hb := Lib.hid hb0
      clear hiff h1 h2 hb0
      go_wp2_with (fail)
      go_ret
      exact ⟨by rw [← Hb.out]; rfl, hS⟩
end Go.Proofs.YtndnojbpapjdoaaDoor
