/- Package drum walked. -/
import Derived.Test.YtndnojbpapjdoaaDoorPg
import Derived.Test.YtndnojbpapjdoaaDoorSpc
import Derived.Deep.DeepCutAuto
import Derived.Deep.CutBlock
set_option linter.unusedSimpArgs false
set_option linter.unusedVariables false
set_option linter.unusedSectionVars false
namespace Go.Proofs.YtndnojbpapjdoaaDoor
open Go.Sp Go.RowKit Go.Dr

/-- An error of package api, by its number; 0: none. -/
def erv (E : Nat → Addr) : Nat → Value
  | 0 => .nilIface
  | k + 1 => .iface 182 (.pointer (some (E (k + 1))))
def DrParts (b : Nat) (d : Drum) (v : Value) : List Asn := [Blk b (.cells #[.bool d.off, .bool d.armed, .int .i64 d.left, v, .int .i64 d.writes] 98), Row 117 64 v d.n (d.all.map B)]
def isDrum (b : Nat) (d : Drum) : Asn := fun h => ∃ v, star (DrParts b d v) h
theorem isDrum_open {w0 w : World} {L : List Asn} {b : Nat} {d : Drum} (h : Sat w0 w (isDrum b d :: L)) : ∃ a c, d.n ≤ c ∧ Sat w0 w (Blk b (.cells #[.bool d.off, .bool d.armed, .int .i64 d.left, .slice a d.n c, .int .i64 d.writes] 98) :: Row 117 64 (.slice a d.n c) d.n (d.all.map B) :: L) := by
  have h1 : Sat w0 w (Ex (fun v => fun h => star (DrParts b d v) h) :: L) := h
  obtain ⟨v, h1⟩ := Sat.ex.1 h1
  have h2 : Sat w0 w (DrParts b d v ++ L) := Sat.stars.1 h1
  obtain ⟨a, c, rfl, _, hc, _⟩ := (h2.pick 1).row_len
  exact ⟨a, c, hc, h2⟩
theorem isDrum_shut {w0 w : World} {L M : List Asn} {b : Nat} {d : Drum} (v : Value) (h : Sat w0 w M) (he : Ent M (DrParts b d v ++ L)) : Sat w0 w (isDrum b d :: L) :=
  (h.ent he).ent fun _ h => star_head (star_stars.2 h) fun _ h => ⟨v, h⟩

theorem isDrum_close {w0 w : World} {L0 M1 M2 : List Asn} {b : Nat} {d : Drum} {v : Value} (h : Sat w0 w L0) (s1 : Split L0 (Blk b (.cells #[.bool d.off, .bool d.armed, .int .i64 d.left, v, .int .i64 d.writes] 98)) M1) (s2 : Split M1 (Row 117 64 v d.n (d.all.map B)) M2) : Sat w0 w (isDrum b d :: M2) :=
  isDrum_shut v h (Ent.pull s1 (Ent.pull s2 (Ent.refl _)))
theorem row_addr {w0 w : World} {L : List Asn} {e : TypeId} {k n : Nat} {v : Value} {cs : List Value} (h : Sat w0 w (Row e k v n cs :: L)) (hn : 0 < n) : ∃ g o c, v = .slice (some ⟨g, o, none⟩) n c := by
  obtain ⟨_, ⟨a, _, h0, _⟩ | ⟨g, o, c, cur, hv, _⟩⟩ := h.row_cases
  · omega
  · exact ⟨g, o, c, hv⟩
theorem off_any (b : Nat) (d : Drum) (w0 w : World) (L : List Asn) (hS : Sat w0 w (isDrum b d :: L)) : Calls Tryd.prog 66 #[.pointer (some ⟨b, 0, none⟩)] w fun r w' => r = .returned (.bool d.off) ∧ w = w' := by
  obtain ⟨a, c, hc, hS1⟩ := isDrum_open hS
  clear hS
  have hS := hS1
  clear hS1
  go_enter Tryd.func66, Tryd.ntmps66
  go_wp2_with (((((with_reducible refine wpList_plain ?_ ?_); (focus rfl); intro K hK)); ((with_reducible refine' wp_load hS ?_ ?_ ?_ ?_ ?_); rotate_left 7; (focus rfl); (focus ((repeat (with_reducible exact Split.here)); done)); (focus (((simp only [List.getElem?_toArray, List.getElem?_cons_zero, List.getElem?_cons_succ]); rfl))); (focus (intro _; (simp; done))); (refine hK _ _ ?_; clear hK K))))
  go_ret
  exact ⟨rfl, rfl⟩
theorem blocks_any (b : Nat) (d : Drum) (w0 w : World) (L : List Asn) (hS : Sat w0 w (isDrum b d :: L)) : Calls Tryd.prog 67 #[.pointer (some ⟨b, 0, none⟩)] w fun r w' => r = .returned (.int .i64 (d.n : Nat)) ∧ w = w' := by
  obtain ⟨a, c, hc, hS1⟩ := isDrum_open hS
  clear hS
  have hS := hS1
  clear hS1
  go_enter Tryd.func67, Tryd.ntmps67
  go_wp2_with (((((with_reducible refine wpList_plain ?_ ?_); (focus rfl); intro K hK)); ((with_reducible refine' wp_load hS ?_ ?_ ?_ ?_ ?_); rotate_left 7; (focus rfl); (focus ((repeat (with_reducible exact Split.here)); done)); (focus (((simp only [List.getElem?_toArray, List.getElem?_cons_zero, List.getElem?_cons_succ]); rfl))); (focus (intro _; (simp; done))); (refine hK _ _ ?_; clear hK K))))
  go_ret
  exact ⟨rfl, rfl⟩
theorem writes_any (b : Nat) (d : Drum) (w0 w : World) (L : List Asn) (hS : Sat w0 w (isDrum b d :: L)) : Calls Tryd.prog 55 #[.pointer (some ⟨b, 0, none⟩)] w fun r w' => r = .returned (.int .i64 d.writes) ∧ w = w' := by
  obtain ⟨a, c, hc, hS1⟩ := isDrum_open hS
  clear hS
  have hS := hS1
  clear hS1
  go_enter Tryd.func55, Tryd.ntmps55
  go_wp2_with (((((with_reducible refine wpList_plain ?_ ?_); (focus rfl); intro K hK)); ((with_reducible refine' wp_load hS ?_ ?_ ?_ ?_ ?_); rotate_left 7; (focus rfl); (focus ((repeat (with_reducible exact Split.here)); done)); (focus (((simp only [List.getElem?_toArray, List.getElem?_cons_zero, List.getElem?_cons_succ]); rfl))); (focus (intro _; (simp; done))); (refine hK _ _ ?_; clear hK K))))
  go_ret
  exact ⟨rfl, rfl⟩
theorem on_any (b : Nat) (d : Drum) (w0 w : World) (L : List Asn) (hS : Sat w0 w (isDrum b d :: L)) : Calls Tryd.prog 45 #[.pointer (some ⟨b, 0, none⟩)] w fun r w' => r = .returned (.tuple #[]) ∧ Sat w0 w' (isDrum b d.on :: L) := by
  obtain ⟨a, c, hc, hS1⟩ := isDrum_open hS
  clear hS
  have hS := hS1
  clear hS1
  go_enter Tryd.func45, Tryd.ntmps45
  go_wp2_with (((((with_reducible refine wpList_plain ?_ ?_); (focus rfl); intro K hK)); first | ((with_reducible refine' wp_buildv (v := .agg #[.bool false, .bool false, .int .i64 0]) ?_ ?_); (focus (intro _; kernel_rfl)); (refine hK _ _ ?_; clear hK K)) | ((with_reducible refine' wp_storeN hS ?_ ?_ ?_ ?_ ?_ ?_ ?_ ?_); rotate_left 7; (focus rfl); (focus ((repeat (with_reducible exact Split.here)); done)); (focus (conv => lhs; whnf)); (focus (intro _; (simp; rfl))); (focus rfl); (focus (simp [Value.cells, Value.oneCell']; done)); (focus (simp; done)); intro w'; clear hS; intro hS; (try simp only [setCells, Value.cells, List.take_succ_cons, List.take_zero, List.drop_succ_cons, List.drop_zero, List.append_nil, List.nil_append, List.cons_append, List.length_cons, List.length_nil, Nat.zero_add, Nat.reduceAdd, List.drop_nil] at hS); (refine hK _ _ ?_; clear hK K))))
  refine bodyPost_end (results_none rfl _ _ _) rfl ⟨rfl, ?_⟩
  exact isDrum_shut (d := d.on) (.slice a d.n c) hS (Ent.refl _)
theorem arm_any (b : Nat) (d : Drum) (n : Int) (hn : n ≤ 9223372036854775807) (w0 w : World) (L : List Asn) (hS : Sat w0 w (isDrum b d :: L)) : Calls Tryd.prog 44 #[.pointer (some ⟨b, 0, none⟩), .int .i64 n] w fun r w' => r = .returned (.tuple #[]) ∧ Sat w0 w' (isDrum b (d.arm n) :: L) := by
  obtain ⟨a, c, hc, hS1⟩ := isDrum_open hS
  clear hS
  have hS := hS1
  clear hS1
  have hm : ((if n < 0 then 0 else n).toNat : Int) = if n < 0 then 0 else n := by split <;> omega
  have Hm := Lib.hid hm
  clear hm
  go_enter Tryd.func44, Tryd.ntmps44
  go_wp2_with (((((with_reducible refine wpList_plain ?_ ?_); (focus rfl); intro K hK)); ((with_reducible refine' wp_store hS ?_ ?_ ?_ ?_ ?_ ?_ ?_); rotate_left 6; (focus rfl); (focus ((repeat (with_reducible exact Split.here)); done)); (focus (conv => lhs; whnf)); (focus (intro _; (simp; done))); (focus rfl); (focus (simp; done)); intro w'; clear hS; intro hS; (try simp only [List.setIfInBounds_toArray, List.set_cons_succ, List.set_cons_zero] at hS); (refine hK _ _ ?_; clear hK K))))
  all_goals
    refine bodyPost_end (results_none rfl _ _ _) rfl ⟨rfl, ?_⟩
    refine isDrum_shut (d := d.arm n) (.slice a d.n c) hS ?_
    simp only [DrParts, Drum.arm, Hm.out]
    exact Ent.refl _

/-- The errors that package drum gives. -/
structure DrErrs (E : Nat → Addr) (w0 : World) : Prop where
  range : w0.cell? ⟨1, 0, none⟩ = some (.iface 182 (.pointer (some (E 1))))
  power : w0.cell? ⟨3, 0, none⟩ = some (.iface 182 (.pointer (some (E 6))))
theorem ask_any (E : Nat → Addr) (b : Nat) (d : Drum) (i : Int) (w0 w : World) (L : List Asn) (hE : DrErrs E w0) (hS : Sat w0 w (isDrum b d :: L)) : Calls Tryd.prog 80 #[.pointer (some ⟨b, 0, none⟩), .int .i64 i] w fun r w' => r = .returned (erv E (d.ask i)) ∧ w = w' := by
  obtain ⟨a, c, hc, hS1⟩ := isDrum_open hS
  clear hS
  have hS := hS1
  clear hS1
  have hg1 := hE.range
  have hg6 := hE.power
  obtain ⟨k, hk⟩ : ∃ k, k = d.ask i := ⟨_, rfl⟩
  rw [← hk]
  unfold Drum.ask at hk
  cases hoff : d.off
  case true =>
    rw [hoff, if_pos rfl] at hk
    subst hk
    rw [hoff] at hS
    go_enter Tryd.func80, Tryd.ntmps80
    go_wp2_with (((((with_reducible refine wpList_plain ?_ ?_); (focus rfl); intro K hK)); first | ((with_reducible refine' wp_load hS ?_ ?_ ?_ ?_ ?_); rotate_left 7; (focus rfl); (focus ((repeat (first | with_reducible exact Split.here | with_reducible apply Split.there)); done)); (focus (((simp only [List.getElem?_toArray, List.getElem?_cons_zero, List.getElem?_cons_succ]); rfl))); (focus (intro _; (simp; done))); (refine hK _ _ ?_; clear hK K)) | ((with_reducible refine' wp_load_old hS ?_ ?_ ?_ ?_); rotate_left 2; (focus rfl); (focus (with_reducible assumption)); (focus (intro _; (simp; done))); (refine hK _ _ ?_; clear hK K))))
    go_ret
    exact ⟨rfl, rfl⟩
  case false =>
    rw [hoff, if_neg (by simp)] at hk
    rw [hoff] at hS
    by_cases h0 : i < 0
    case pos =>
      rw [if_pos (.inl h0)] at hk
      subst hk
      go_enter Tryd.func80, Tryd.ntmps80
      go_wp2_with (((((with_reducible refine wpList_plain ?_ ?_); (focus rfl); intro K hK)); first | ((with_reducible refine' wp_load hS ?_ ?_ ?_ ?_ ?_); rotate_left 7; (focus rfl); (focus ((repeat (first | with_reducible exact Split.here | with_reducible apply Split.there)); done)); (focus (((simp only [List.getElem?_toArray, List.getElem?_cons_zero, List.getElem?_cons_succ]); rfl))); (focus (intro _; (simp; done))); (refine hK _ _ ?_; clear hK K)) | ((with_reducible refine' wp_load_old hS ?_ ?_ ?_ ?_); rotate_left 2; (focus rfl); (focus (with_reducible assumption)); (focus (intro _; (simp; done))); (refine hK _ _ ?_; clear hK K))))
      go_ret
      exact ⟨rfl, rfl⟩
    case neg =>
      by_cases h1 : (d.n : Int) ≤ i
      case pos =>
        rw [if_pos (.inr h1)] at hk
        subst hk
        go_enter Tryd.func80, Tryd.ntmps80
        go_wp2_with (((first | ((with_reducible refine wpList_plain ?_ ?_); (focus rfl); intro K hK) | ((with_reducible refine wpList_runG ?_ ?_); (focus rfl); intro K hK)); first | ((with_reducible refine' wp_load hS ?_ ?_ ?_ ?_ ?_); rotate_left 7; (focus rfl); (focus ((repeat (first | with_reducible exact Split.here | with_reducible apply Split.there)); done)); (focus (((simp only [List.getElem?_toArray, List.getElem?_cons_zero, List.getElem?_cons_succ]); rfl))); (focus (intro _; (simp; done))); (refine hK _ _ ?_; clear hK K)) | ((with_reducible refine' wp_load_old hS ?_ ?_ ?_ ?_); rotate_left 2; (focus rfl); (focus (with_reducible assumption)); (focus (intro _; (simp; done))); (refine hK _ _ ?_; clear hK K))))
        go_ret
        exact ⟨rfl, rfl⟩
      case neg =>
        rw [if_neg (by rintro (h | h); exact h0 h; exact h1 h)] at hk
        subst hk
        go_enter Tryd.func80, Tryd.ntmps80
        go_wp2_with (((first | ((with_reducible refine wpList_plain ?_ ?_); (focus rfl); intro K hK) | ((with_reducible refine wpList_runG ?_ ?_); (focus rfl); intro K hK)); ((with_reducible refine' wp_load hS ?_ ?_ ?_ ?_ ?_); rotate_left 7; (focus rfl); (focus ((repeat (with_reducible exact Split.here)); done)); (focus (((simp only [List.getElem?_toArray, List.getElem?_cons_zero, List.getElem?_cons_succ]); rfl))); (focus (intro _; (simp; done))); (refine hK _ _ ?_; clear hK K))))
        go_ret
        exact ⟨rfl, rfl⟩
theorem goes_any (b : Nat) (d : Drum) (w0 w : World) (L : List Asn) (hd : d.left ≤ 4611686018427387904) (v : Value) (hS : Sat w0 w (Blk b (.cells #[.bool d.off, .bool d.armed, .int .i64 d.left, v, .int .i64 d.writes] 98) :: L)) :
    Calls Tryd.prog 81 #[.pointer (some ⟨b, 0, none⟩)] w fun r w' => r = .returned (.bool d.goes.1) ∧ Sat w0 w' (Blk b (.cells #[.bool d.goes.2.off, .bool d.goes.2.armed, .int .i64 d.goes.2.left, v, .int .i64 d.goes.2.writes] 98) :: L) := by
  obtain ⟨g, hg⟩ : ∃ g, g = d.goes := ⟨_, rfl⟩
  rw [← hg]
  unfold Drum.goes at hg
  cases ha : d.armed
  case false =>
    rw [ha, if_pos (by simp)] at hg
    subst hg
    rw [ha] at hS
    go_enter Tryd.func81, Tryd.ntmps81
    go_wp2_with (((((with_reducible refine wpList_plain ?_ ?_); (focus rfl); intro K hK)); ((with_reducible refine' wp_load hS ?_ ?_ ?_ ?_ ?_); rotate_left 7; (focus rfl); (focus ((repeat (with_reducible exact Split.here)); done)); (focus (((simp only [List.getElem?_toArray, List.getElem?_cons_zero, List.getElem?_cons_succ]); rfl))); (focus (intro _; (simp; done))); (refine hK _ _ ?_; clear hK K))))
    go_ret
    exact ⟨rfl, by simp only [ha]; exact hS⟩
  case true =>
    rw [ha, if_neg (by simp)] at hg
    rw [ha] at hS
    by_cases h0 : d.left = 0
    case pos =>
      rw [if_pos h0] at hg
      subst hg
      have h00 : ((d.left : Int) == 0) = true := by simp [h0]
      go_enter Tryd.func81, Tryd.ntmps81
      go_wp2_with (((((with_reducible refine wpList_plain ?_ ?_); (focus rfl); intro K hK)); first | ((with_reducible refine' wp_load hS ?_ ?_ ?_ ?_ ?_); rotate_left 7; (focus rfl); (focus ((repeat (with_reducible exact Split.here)); done)); (focus (((simp only [List.getElem?_toArray, List.getElem?_cons_zero, List.getElem?_cons_succ]); rfl))); (focus (intro _; (simp; done))); (refine hK _ _ ?_; clear hK K)) | ((with_reducible refine' wp_store hS ?_ ?_ ?_ ?_ ?_ ?_ ?_); rotate_left 6; (focus rfl); (focus ((repeat (with_reducible exact Split.here)); done)); (focus (conv => lhs; whnf)); (focus (intro _; (simp; done))); (focus rfl); (focus (simp; done)); intro w'; clear hS; intro hS; (try simp only [List.setIfInBounds_toArray, List.set_cons_succ, List.set_cons_zero] at hS); (refine hK _ _ ?_; clear hK K))))
      go_ret
      exact ⟨rfl, hS⟩
    case neg =>
      rw [if_neg h0] at hg
      subst hg
      have h00 : ((d.left : Int) == 0) = false := by rw [beq_eq_false_iff_ne]; omega
      have hl : ((d.left - 1 : Nat) : Int) = (d.left : Int) - 1 := by omega
      have Hl := Lib.hid hl
      clear hl
      go_enter Tryd.func81, Tryd.ntmps81
      go_wp2_with (((((with_reducible refine wpList_plain ?_ ?_); (focus rfl); intro K hK)); first | ((with_reducible refine' wp_load hS ?_ ?_ ?_ ?_ ?_); rotate_left 7; (focus rfl); (focus ((repeat (with_reducible exact Split.here)); done)); (focus (((simp only [List.getElem?_toArray, List.getElem?_cons_zero, List.getElem?_cons_succ]); rfl))); (focus (intro _; (simp; done))); (refine hK _ _ ?_; clear hK K)) | ((with_reducible refine' wp_store hS ?_ ?_ ?_ ?_ ?_ ?_ ?_); rotate_left 6; (focus rfl); (focus ((repeat (with_reducible exact Split.here)); done)); (focus (conv => lhs; whnf)); (focus (intro _; (simp; done))); (focus rfl); (focus (simp; done)); intro w'; clear hS; intro hS; (try simp only [List.setIfInBounds_toArray, List.set_cons_succ, List.set_cons_zero] at hS); (refine hK _ _ ?_; clear hK K))))
      go_ret
      exact ⟨rfl, by show Sat w0 _ (Blk b (.cells #[.bool d.off, .bool true, .int .i64 ((d.left - 1 : Nat) : Int), v, .int .i64 d.writes] _) :: L); rw [Hl.out]; exact hS⟩

theorem info117 : (Tryd.prog.info? 117).map (fun i => (i.zero.map (·.cells.size), i.size, i.bytes)) = some (some 64, 64, 64) := by kernel_rfl
theorem slBlock : SliceT Tryd.prog 94 117 64 64 := by
  have h := info117
  cases hi : Tryd.prog.info? 117 with
  | none => rw [hi] at h; cases h
  | some i =>
    rw [hi] at h
    simp only [Option.map_some, Option.some.injEq, Prod.mk.injEq] at h
    obtain ⟨h1, h2, h3⟩ := h
    obtain ⟨z, hz, hz2⟩ := Option.map_eq_some_iff.1 h1
    exact ⟨Tryd.underlying94, i, z, hi, hz, h2, h3, hz2⟩
theorem sz117 (w : World) : (sizeOf 117).run Tryd.prog w = .ok 64 w := by kernel_rfl
theorem agg117 (w : World) : (isAgg 117).run Tryd.prog w = .ok true w := by kernel_rfl
theorem put_cells (d : Drum) (i : Nat) (x : List UInt8) (hx : x.length = 64) : putAt (d.all.map B) (i * 64) (x.map B) = (d.put i x).all.map B := by
  simp [putAt, Drum.put, hx, List.map_take, List.map_drop]
set_option maxRecDepth 100000 in
set_option maxHeartbeats 1000000 in
theorem write_any (E : Nat → Addr) (b : Nat) (d : Drum) (i : Int) (x : List UInt8) (hx : x.length = 64) (hd : d.ok) (hl : d.left ≤ 4611686018427387904) (w0 w : World) (L : List Asn) (hE : DrErrs E w0) (hS : Sat w0 w (isDrum b d :: L)) :
    Calls Tryd.prog 71 #[.pointer (some ⟨b, 0, none⟩), .int .i64 i, .agg (x.map B).toArray] w fun r w' => r = .returned (erv E (d.write i x).1) ∧ Sat w0 w' (isDrum b (d.write i x).2 :: L) := by
  have hS0 := hS
  obtain ⟨q, hq⟩ : ∃ q, q = d.write i x := ⟨_, rfl⟩
  rw [← hq]
  unfold Drum.write at hq
  obtain ⟨ak, hak⟩ : ∃ ak, ak = d.ask i := ⟨_, rfl⟩
  have hask := ask_any E b d i w0
  rw [← hak] at hq hask
  have Hask := Lib.hid hask
  by_cases hk : ak = 0
  case neg =>
    rw [if_pos hk] at hq
    subst hq
    obtain ⟨ak, rfl⟩ : ∃ m, ak = m + 1 := ⟨ak - 1, by omega⟩
    clear hask hak hk
    go_enter Tryd.func71, Tryd.ntmps71
    go_wp2_with (first | (go_at_call 80; ((with_reducible refine' (Hask.out _ _ hE (hS.split ?sa1x204)).mono ?sa2x204); (case sa1x204 => ((repeat (first | with_reducible exact Split.here | with_reducible apply Split.there)); done)); (case' sa2x204 => (rintro r4 w4 ⟨rfl, rfl⟩; simp only [erv])))) | ((((with_reducible refine wpList_plain ?_ ?_); (focus rfl); intro K hK)); ((with_reducible refine' wp_box hS ?_ ?_); rotate_left 1; (focus (conv => lhs; whnf)); intro w' b'; clear hS; intro hS; (try simp only [Value.cells] at hS); (refine hK _ _ ?_; clear hK K))))
    go_ret
    exact ⟨rfl, by (refine Sat.ent hS ?_; repeat (first | (with_reducible exact Ent.refl _) | ((with_reducible apply Ent.pull); (focus ((repeat (first | with_reducible exact Split.here | with_reducible apply Split.there)); done))) | (with_reducible apply Ent.skip)))⟩
  rw [if_neg (by simpa using hk)] at hq
  subst hk
  have hin : d.off = false ∧ 0 ≤ i ∧ i < (d.n : Int) := by
    unfold Drum.ask at hak
    split at hak
    · cases hak
    · rename_i h1
      split at hak
      · cases hak
      · rename_i h2
        refine ⟨by simpa using h1, by omega, by omega⟩
  obtain ⟨h0, h1, h2⟩ := hin
  obtain ⟨j, rfl⟩ := Int.eq_ofNat_of_zero_le h1
  have hj : j < d.n := by omega
  clear hask hak
  obtain ⟨gb, hgb⟩ : ∃ gb, gb = d.goes.1 := ⟨_, rfl⟩
  have hgo := goes_any b d w0
  rw [← hgb] at hgo hq
  have Hgo := Lib.hid hgo
  clear hgo
  obtain ⟨a, c, hc, hS1⟩ := isDrum_open hS
  clear hS hS0
  have hS := hS1
  clear hS1
  have hg6 := hE.power
  obtain ⟨dg, hdg⟩ : ∃ dg, dg = d.goes.2 := ⟨_, rfl⟩
  rw [← hdg] at hq
  have hdn : dg.n = d.n ∧ dg.all = d.all ∧ dg.writes = d.writes := by
    rw [hdg]; unfold Drum.goes; split
    · exact ⟨rfl, rfl, rfl⟩
    · split <;> exact ⟨rfl, rfl, rfl⟩
  cases gb
  case true =>
    rw [if_pos rfl] at hq
    subst hq
    clear hgb
    have hS0 : ∀ {w : World} {M : List Asn}, True := trivial
    clear hS0
    have hask0 : ∀ (w : World) (L : List Asn), Sat w0 w (isDrum b d :: L) → Calls Tryd.prog 80 #[.pointer (some ⟨b, 0, none⟩), .int .i64 (j : Int)] w fun r w' => r = .returned (erv E 0) ∧ w = w' := fun w L h => Hask.out w L hE h
    have Hask0 := Lib.hid hask0
    clear hask0
    go_enter Tryd.func71, Tryd.ntmps71
    go_wp2_with (first | (go_at_call 80; ((with_reducible refine' (Hask0.out _ _ (isDrum_close hS ?sb1x251 ?sb2x251)).mono ?sb3x251); (case sb1x251 => ((repeat (first | with_reducible exact Split.here | with_reducible apply Split.there)); done)); (case sb2x251 => ((repeat (first | with_reducible exact Split.here | with_reducible apply Split.there)); done)); (case' sb3x251 => (rintro r4 w4 ⟨rfl, rfl⟩; simp only [erv])))) | (go_at_call 81; ((with_reducible refine' (Hgo.out _ _ hl _ (hS.split ?sc1x252)).mono ?sc2x252); (case sc1x252 => ((repeat (first | with_reducible exact Split.here | with_reducible apply Split.there)); done)); (case' sc2x252 => (rintro r4 w4 ⟨rfl, hS1⟩; (clear hS; have hS := hS1; clear hS1))))) | ((((with_reducible refine wpList_plain ?_ ?_); (focus rfl); intro K hK)); first | ((with_reducible refine' wp_box hS ?_ ?_); rotate_left 1; (focus (conv => lhs; whnf)); intro w' b'; clear hS; intro hS; (try simp only [Value.cells] at hS); (refine hK _ _ ?_; clear hK K)) | ((with_reducible refine' wp_load_old hS ?_ ?_ ?_ ?_); rotate_left 2; (focus rfl); (focus (with_reducible assumption)); (focus (intro _; (simp; done))); (refine hK _ _ ?_; clear hK K))))
    go_ret
    refine ⟨rfl, ?_⟩
    rw [← hdg] at hS
    obtain ⟨e1, e2, e3⟩ := hdn
    refine isDrum_shut (d := dg) (.slice a d.n c) hS ?_
    simp only [DrParts, e1, e2, List.cons_append, List.nil_append]
    (repeat (first | (with_reducible exact Ent.refl _) | ((with_reducible apply Ent.pull); (focus ((repeat (first | with_reducible exact Split.here | with_reducible apply Split.there)); done))) | (with_reducible apply Ent.skip)))
  case false =>
    rw [if_neg (by simp)] at hq
    subst hq
    clear hgb
    have hask0 : ∀ (w : World) (L : List Asn), Sat w0 w (isDrum b d :: L) → Calls Tryd.prog 80 #[.pointer (some ⟨b, 0, none⟩), .int .i64 (j : Int)] w fun r w' => r = .returned (erv E 0) ∧ w = w' := fun w L h => Hask.out w L hE h
    have Hask0 := Lib.hid hask0
    clear hask0
    obtain ⟨g, o, c', hv⟩ := row_addr hS.drop (by omega)
    simp only [Value.slice.injEq, true_and] at hv
    obtain ⟨rfl, rfl⟩ := hv
    have hsz : ((x.map B).toArray).size = 64 := by simp [hx]
    have hsz2 : ∀ w, (sizeOf 117).run Tryd.prog w = .ok ((x.map B).toArray).size w := fun w => by rw [hsz]; exact sz117 w
    have hal : (d.all.map B).length = d.n * 64 := by rw [List.length_map]; exact hd.1
    obtain ⟨e1, e2, e3⟩ := hdn
    have Hdg := Lib.hid hdg
    clear hdg
    go_enter Tryd.func71, Tryd.ntmps71
    go_wp2_with (first | (go_at_call 80; ((with_reducible refine' (Hask0.out _ _ (isDrum_close hS ?sb4x279 ?sb5x279)).mono ?sb6x279); (case sb4x279 => ((repeat (first | with_reducible exact Split.here | with_reducible apply Split.there)); done)); (case sb5x279 => ((repeat (first | with_reducible exact Split.here | with_reducible apply Split.there)); done)); (case' sb6x279 => (rintro r4 w4 ⟨rfl, rfl⟩; simp only [erv])))) | (go_at_call 81; ((with_reducible refine' (Hgo.out _ _ hl _ (hS.split ?sc4x280)).mono ?sc5x280); (case sc4x280 => ((repeat (first | with_reducible exact Split.here | with_reducible apply Split.there)); done)); (case' sc5x280 => (rintro r4 w4 ⟨rfl, hS1⟩; (clear hS; have hS := hS1; clear hS1); rw [← Hdg.out] at hS)))) | ((with_reducible refine Txt.wp_region_text ?_ ?_ ?_); (focus kernel_rfl); (focus decide +kernel); intro Q' hQ'; have hS1 := hS.drew; clear hS; have hS := hS1; clear hS1) | (with_reducible refine Txt.wpTxt_nil ?_) | ((first | ((with_reducible refine wpList_plain ?_ ?_); (focus rfl); intro K hK) | ((with_reducible refine Txt.wpTxt_plain ?_ ?_ ?_); (focus rfl); (focus rfl); intro K hK)); first | ((with_reducible refine' wp_load_all hS ?_ ?_ ?_ ?_ ?_); rotate_left 5; (focus rfl); (focus ((repeat (first | with_reducible exact Split.here | with_reducible apply Split.there)); done)); (focus exact agg117); (focus exact hsz2); (refine hK _ _ ?_; clear hK K)) | ((with_reducible refine' wp_index_slice (j := (o + j * 64)) ?_ ?_ ?_ ?_ ?_ ?_ ?_ ?_); rotate_left 8; (focus rfl); (focus rfl); (focus (intro _; (simp; rfl))); (focus exact sz117); (focus omega); (focus omega); (focus omega); (refine hK _ _ ?_; clear hK K)) | ((with_reducible refine' wp_row_store (v := (.agg (x.map B).toArray)) (j := (j * 64)) (m := 64) hS ?raax281 ?rbax281 ?rcax281 ?rdax281 ?reax281 ?rfax281 ?rgax281 ?rhax281 ?riax281); (case raax281 => rfl); (case rbax281 => ((repeat (first | with_reducible exact Split.here | with_reducible apply Split.there)); done)); (case rcax281 => rfl); (case rdax281 => (rfl)); (case reax281 => (exact sz117)); (case rfax281 => (exact hsz)); (case rgax281 => (exact one_map (fun _ => rfl) _)); (case rhax281 => (omega)); (case' riax281 => (intro w'; clear hS; intro hS; (refine hK _ _ ?_; clear hK K)))) | ((with_reducible refine' wp_load hS ?_ ?_ ?_ ?_ ?_); rotate_left 7; (focus rfl); (focus ((repeat (first | with_reducible exact Split.here | with_reducible apply Split.there)); done)); (focus (((simp only [List.getElem?_toArray, List.getElem?_cons_zero, List.getElem?_cons_succ]); rfl))); (focus (intro _; (simp; done))); (refine hK _ _ ?_; clear hK K)) | ((with_reducible refine' wp_store hS ?_ ?_ ?_ ?_ ?_ ?_ ?_); rotate_left 6; (focus rfl); (focus ((repeat (first | with_reducible exact Split.here | with_reducible apply Split.there)); done)); (focus (conv => lhs; whnf)); (focus (intro _; (simp; done))); (focus rfl); (focus (simp; done)); intro w'; clear hS; intro hS; (try simp only [List.setIfInBounds_toArray, List.set_cons_succ, List.set_cons_zero] at hS); (refine hK _ _ ?_; clear hK K)) | ((with_reducible refine' wp_box hS ?_ ?_); rotate_left 1; (focus (conv => lhs; whnf)); intro w' b'; clear hS; intro hS; (try simp only [Value.cells] at hS); (refine hK _ _ ?_; clear hK K))) | ((with_reducible refine Txt.wpTxt_plain ?_ ?_ ?_); (focus with_reducible rfl); (focus rfl); intro _ _))
    go_ret
    refine ⟨rfl, ?_⟩
    have hp : putAt (d.all.map B) (j * 64) (Value.agg (x.map B).toArray).cells.toList = (dg.put j x).all.map B := by
      rw [← e2, ← put_cells dg j x hx]
      simp [Value.cells]
    rw [hp] at hS
    refine isDrum_shut (d := dg.put j x) (.slice (some ⟨g, o, none⟩) d.n c) hS ?_
    have h1 : (dg.put j x).n = d.n := e1
    have h2 : (dg.put j x).writes = wrap64 (d.writes + 1) := by simp only [Drum.put, e3, Dr.wrap, wrap64]
    have h3 : (dg.put j x).off = dg.off := rfl
    have h4 : (dg.put j x).armed = dg.armed := rfl
    have h5 : (dg.put j x).left = dg.left := rfl
    simp only [DrParts, h1, h2, h3, h4, h5, List.cons_append, List.nil_append]
    (repeat (first | (with_reducible exact Ent.refl _) | ((with_reducible apply Ent.pull); (focus ((repeat (with_reducible exact Split.here)); done))) | (with_reducible apply Ent.skip)))
theorem write_ok {d : Drum} (h : d.ok) (i : Int) {x : List UInt8} (hx : x.length = 64) : (d.write i x).2.ok := by
  unfold Drum.write
  split
  · exact h
  · rename_i h1
    split
    · exact goes_ok h
    · have h2 : d.ask i = 0 := by simpa using h1
      have hn : i.toNat < d.goes.2.n := by
        have : d.goes.2.n = d.n := by unfold Drum.goes; split; rfl; split <;> rfl
        rw [this]
        unfold Drum.ask at h2
        split at h2
        · cases h2
        · split at h2
          · cases h2
          · omega
      exact put_ok (goes_ok h) hn hx

theorem zero117 (w : World) : (zeroValue 117).run Tryd.prog w = .ok (.agg ((List.replicate 64 (0 : UInt8)).map B).toArray) w := by kernel_rfl
theorem blk_cells {d : Drum} (hd : d.ok) {i : Nat} (hi : i < d.n) : ∀ (j : Nat) (u : Value), ((d.blk i).map B)[j]? = some u → (d.all.map B)[i * 64 + j]? = some u := by
  intro j u hu
  rw [List.getElem?_map, Option.map_eq_some_iff] at hu ⊢
  obtain ⟨x, hx, rfl⟩ := hu
  refine ⟨x, ?_, rfl⟩
  unfold Drum.blk at hx
  rw [List.getElem?_take] at hx
  split at hx
  · rwa [List.getElem?_drop] at hx
  · cases hx
set_option maxRecDepth 100000 in
set_option maxHeartbeats 1000000 in
theorem read_ok (E : Nat → Addr) (b : Nat) (d : Drum) (i : Nat) (hd : d.ok) (hi : i < d.n) (hoff : d.off = false) (w0 w : World) (L : List Asn) (hE : DrErrs E w0) (hS : Sat w0 w (isDrum b d :: L)) :
    Calls Tryd.prog 75 #[.pointer (some ⟨b, 0, none⟩), .int .i64 (i : Int)] w fun r w' => r = .returned (.tuple #[.agg ((d.blk i).map B).toArray, .nilIface]) ∧ Sat w0 w' (isDrum b d :: L) := by
  have hask0 : ∀ (w : World) (L : List Asn), Sat w0 w (isDrum b d :: L) → Calls Tryd.prog 80 #[.pointer (some ⟨b, 0, none⟩), .int .i64 (i : Int)] w fun r w' => r = .returned .nilIface ∧ w = w' := fun w L h => by
    have := ask_any E b d i w0 w L hE h
    have e : d.ask i = 0 := by unfold Drum.ask; rw [hoff, if_neg (by simp), if_neg (by omega)]
    rw [e] at this
    exact this
  have Hask0 := Lib.hid hask0
  clear hask0
  have hbl := blk_length hd hi
  have Hbc := Lib.hid (blk_cells hd hi)
  obtain ⟨a, c, hc, hS1⟩ := isDrum_open hS
  clear hS
  have hS := hS1
  clear hS1
  obtain ⟨g, o, c', hv⟩ := row_addr hS.drop (by omega)
  simp only [Value.slice.injEq, true_and] at hv
  obtain ⟨rfl, rfl⟩ := hv
  have hsz : (((d.blk i).map B).toArray).size = 64 := by simp [hbl]
  have hsz2 : ∀ w, (sizeOf 117).run Tryd.prog w = .ok ((d.blk i).map B).length w := fun w => by rw [List.length_map, hbl]; exact sz117 w
  have hsz3 : ∀ w, (sizeOf 117).run Tryd.prog w = .ok (((d.blk i).map B).toArray).size w := fun w => by rw [hsz]; exact sz117 w
  clear hbl hd
  go_enter Tryd.func75, Tryd.ntmps75
  go_wp2_with (first | (go_at_call 80; ((with_reducible refine' (Hask0.out _ _ (isDrum_close hS ?sb4x352 ?sb5x352)).mono ?sb6x352); (case sb4x352 => ((repeat (first | with_reducible exact Split.here | with_reducible apply Split.there)); done)); (case sb5x352 => ((repeat (first | with_reducible exact Split.here | with_reducible apply Split.there)); done)); (case' sb6x352 => (rintro r4 w4 ⟨rfl, rfl⟩)))) | ((((with_reducible refine wpList_plain ?_ ?_); (focus rfl); intro K hK)); first | ((with_reducible refine' wp_row_loadN (vs := ((d.blk i).map B)) (j := (i * 64)) hS ?rlax353 ?rlbx353 ?rlcx353 ?rldx353 ?rlex353 ?rlfx353 ?rlgx353); (case rlax353 => rfl); (case rlbx353 => ((repeat (first | with_reducible exact Split.here | with_reducible apply Split.there)); done)); (case rlcx353 => (rfl)); (case rldx353 => exact Hbc.out); (case rlex353 => exact agg117); (case rlfx353 => exact hsz2); (case' rlgx353 => (refine hK _ _ ?_; clear hK K))) | ((with_reducible refine' wp_index_slice (j := (o + i * 64)) ?_ ?_ ?_ ?_ ?_ ?_ ?_ ?_); rotate_left 8; (focus rfl); (focus rfl); (focus (intro _; (simp; rfl))); (focus exact sz117); (focus omega); (focus omega); (focus omega); (refine hK _ _ ?_; clear hK K)) | ((with_reducible refine' wp_store_all (vs := (((d.blk i).map B).toArray)) hS ?_ ?_ ?_ ?_ ?_ ?_ ?_); rotate_left 4; (focus rfl); (focus ((repeat (with_reducible exact Split.here)); done)); (focus rfl); (focus (exact hsz3)); (focus (rw [hsz]; rfl)); (focus (exact one_map (fun _ => rfl) _)); intro w'; clear hS; intro hS; (refine hK _ _ ?_; clear hK K)) | ((with_reducible refine' wp_load hS ?_ ?_ ?_ ?_ ?_); rotate_left 7; (focus rfl); (focus ((repeat (first | with_reducible exact Split.here | with_reducible apply Split.there)); done)); (focus (((simp only [List.getElem?_toArray, List.getElem?_cons_zero, List.getElem?_cons_succ]); rfl))); (focus (intro _; (simp; done))); (refine hK _ _ ?_; clear hK K)) | ((with_reducible refine' wp_alloc hS ?_ ?_); rotate_left 1; (focus (intro _; (simp; rfl))); intro w' b'; clear hS; intro hS; (try simp only [Value.cells] at hS); (refine hK _ _ ?_; clear hK K))))
  refine bodyPost_ret (results_c1 rfl _ _ _ _ (((d.blk i).map B).toArray) (0, 0) _ rfl hS.at Tryd.underlying117 rfl (by rw [hsz]; kernel_rfl)) rfl ⟨rfl, ?_⟩
  exact isDrum_shut (.slice (some ⟨g, o, none⟩) d.n c) hS (by simp only [DrParts, List.cons_append, List.nil_append]; (repeat (first | (with_reducible exact Ent.refl _) | ((with_reducible apply Ent.pull); (focus ((repeat (first | with_reducible exact Split.here | with_reducible apply Split.there)); done))) | (with_reducible apply Ent.skip))))

theorem info117z : (Tryd.prog.info? 117).map (fun i => i.zero.map (·.cells)) = some (some ((List.replicate 64 (0 : UInt8)).map B).toArray) := by kernel_rfl
theorem zcells : ∀ inf z, Tryd.prog.info? 117 = some inf → inf.zero = some z → ∀ m, m < 64 → z.cells[m]? = some (B 0) := by
  intro inf z hi hz m hm
  have h := info117z
  rw [hi] at h
  simp only [Option.map_some, hz, Option.some.injEq] at h
  rw [h, List.getElem?_toArray, List.getElem?_map, List.getElem?_replicate, if_pos hm]
  rfl
set_option maxRecDepth 100000 in
set_option maxHeartbeats 1000000 in
theorem new_ok (n : Nat) (h1 : 1 ≤ n) (h2 : n ≤ 4096) (w0 w : World) (L : List Asn) (hS : Sat w0 w L) :
    Calls Tryd.prog 37 #[.int .i64 (n : Int)] w fun r w' => ∃ b, r = .returned (.tuple #[.pointer (some ⟨b, 0, none⟩), .nilIface]) ∧ Sat w0 w' (isDrum b (Drum.new n) :: L) := by
  have h1' : ¬ ((n : Int) < 1) := by omega
  have h2' : ¬ ((4096 : Int) < (n : Int)) := by omega
  go_enter Tryd.func37, Tryd.ntmps37
  go_wp2_with (((first | ((with_reducible refine wpList_plain ?_ ?_); (focus rfl); intro K hK) | ((with_reducible refine wpList_runG ?_ ?_); (focus rfl); intro K hK)); first | ((with_reducible refine' wp_make_row n (B 0) slBlock zcells (by decide) hS ?_ ?_ ?_ ?_ ?_ ?_ ?_); rotate_left 4; (focus rfl); (focus rfl); (focus (rfl)); (focus (rfl)); (focus omega); (focus (decide)); intro w' b'; clear hS; intro hS; (refine hK _ _ ?_; clear hK K)) | ((with_reducible refine' wp_box hS ?_ ?_); rotate_left 1; (focus (conv => lhs; whnf)); intro w' b'; clear hS; intro hS; (try simp only [Value.cells] at hS); (refine hK _ _ ?_; clear hK K))))
  go_ret2
  have hr : List.replicate (n * 64) (B 0) = (List.replicate (n * 64) (0 : UInt8)).map B := by simp
  rw [hr] at hS
  exact ⟨_, rfl, isDrum_shut (d := Drum.new n) (.slice (some ⟨_, 0, none⟩) n n) hS (Ent.refl _)⟩
end Go.Proofs.YtndnojbpapjdoaaDoor
