/- What the calls of package sock make of a pair in memory: New, Cut, and what is asked. -/
import Derived.Test.YtndnojbpapjdoaaDoorSockD
namespace Go.Proofs.YtndnojbpapjdoaaDoor
open Go.Sp Go.RowKit

set_option maxRecDepth 100000 in
set_option maxHeartbeats 1000000 in
theorem new_ok (E : Nat → Addr) (room : Int) (w0 w : World) (L : List Asn) (hS : Sat w0 w L) (h1 : 1 ≤ room) (h2 : room ≤ 65536) :
    Calls Tryd.prog 14 #[.int .i64 room] w fun r w' => ∃ b, r = .returned (.tuple #[.pointer (some ⟨b, 0, none⟩), ev E 0]) ∧ Sat w0 w' (isPair b (.new room.toNat) :: L) := by
  obtain ⟨n, rfl⟩ := Int.eq_ofNat_of_zero_le (show 0 ≤ room by omega)
  go_enter Tryd.func14, Tryd.ntmps14
  go_wp2_with (first | (with_reducible refine Txt.wp_region_text (by kernel_rfl) (by kernel_rfl) ?_; intro Q' hQ') | (with_reducible refine Txt.wpTxt_nil ?_) | ((with_reducible refine Txt.wpTxt_plain ?_ ?_ ?_); (focus with_reducible rfl); (focus rfl); intro _ _) | ((with_reducible refine Txt.wpTxt_skipG ?_ ?_); (focus rfl); simp only [Act.put, List.setIfInBounds_toArray, List.set_cons_succ, List.set_cons_zero]) | ((with_reducible refine Txt.wpTxt_runG ?_ ?_ ?_); (focus rfl); (focus rfl); intro _ _))
  go_ret2
  refine ⟨_, rfl, ?_⟩
  refine Sat.ent (hS.alloc _) (Ent.trans ?_ (isPair_shut (p := .new n) (f0 := .slice none 0 0) (i0 := .slice none 0 0) (f1 := .slice none 0 0) (i1 := .slice none 0 0)))
  intro g hg
  have nil : ∀ (A : Asn) (L : List Asn) g, star (A :: L) g → star (A :: Bytes 5 (.slice none 0 0) [] :: L) g := fun A L g hg => star_cons hg fun g hg => star_head (star_emp.2 hg) fun _ _ => ⟨rfl, .inl ⟨none, rfl, rfl⟩⟩
  exact nil _ _ _ (nil _ _ _ (nil _ _ _ (nil _ _ _ hg)))
theorem new_no (E : Nat → Addr) (room : Int) (w0 w : World) (L : List Asn) (hE : SockErrs E w0) (hS : Sat w0 w L) (h1 : ¬ (1 ≤ room ∧ room ≤ 65536)) :
    Calls Tryd.prog 14 #[.int .i64 room] w fun r w' => r = .returned (.tuple #[.pointer none, ev E 1]) ∧ Sat w0 w' L := by
  have hg := old_cell hS hE.range
  by_cases h : room < 1
  · go_enter Tryd.func14, Tryd.ntmps14
    go_wp2_with (first | (with_reducible refine Txt.wp_region_text (by kernel_rfl) (by kernel_rfl) ?_; intro Q' hQ') | (with_reducible refine Txt.wpTxt_nil ?_) | ((with_reducible refine Txt.wpTxt_plain ?_ ?_ ?_); (focus with_reducible rfl); (focus rfl); intro _ _) | ((with_reducible refine Txt.wpTxt_skipG ?_ ?_); (focus rfl); simp only [Act.put, List.setIfInBounds_toArray, List.set_cons_succ, List.set_cons_zero]) | ((with_reducible refine Txt.wpTxt_runG ?_ ?_ ?_); (focus rfl); (focus rfl); intro _ _))
    go_ret2
    exact ⟨rfl, hS.drew⟩
  · have h2 : 65536 < room := by omega
    go_enter Tryd.func14, Tryd.ntmps14
    go_wp2_with (first | (with_reducible refine Txt.wp_region_text (by kernel_rfl) (by kernel_rfl) ?_; intro Q' hQ') | (with_reducible refine Txt.wpTxt_nil ?_) | ((with_reducible refine Txt.wpTxt_plain ?_ ?_ ?_); (focus with_reducible rfl); (focus rfl); intro _ _) | ((with_reducible refine Txt.wpTxt_skipG ?_ ?_); (focus rfl); simp only [Act.put, List.setIfInBounds_toArray, List.set_cons_succ, List.set_cons_zero]) | ((with_reducible refine Txt.wpTxt_runG ?_ ?_ ?_); (focus rfl); (focus rfl); intro _ _))
    go_ret2
    exact ⟨rfl, hS.drew⟩


theorem broken_any (b : Nat) (p : Sock.Pair) (w0 w : World) (L : List Asn) (hS : Sat w0 w (isPair b p :: L)) : Calls Tryd.prog 31 #[.pointer (some ⟨b, 0, none⟩)] w fun r w' => r = .returned (.bool p.cut) ∧ w = w' := by
  obtain ⟨f0, i0, f1, i1, hS⟩ := isPair_open hS
  have hc := cell_blk hS.at 9
  go_enter Tryd.func31, Tryd.ntmps31
  go_wp2
  go_ret
  exact ⟨rfl, rfl⟩

set_option maxRecDepth 100000 in
theorem flight_any (b : Nat) (p : Sock.Pair) (e : Int) (w0 w : World) (L : List Asn) (hS : Sat w0 w (isPair b p :: L)) (hp : p.ok) : Calls Tryd.prog 19 #[.pointer (some ⟨b, 0, none⟩), .int .i64 e] w fun r w' => r = .returned (.int .i64 (p.flightR e : Nat)) ∧ w = w' := by
  unfold Sock.Pair.flightR
  by_cases he : e = 0 ∨ e = 1
  case neg =>
    rw [if_pos he]
    go_enter Tryd.func19, Tryd.ntmps19
    go_wp2_with (first | (go_at_call 49; refine (known_no _ he _).mono ?_; rintro r w' ⟨rfl, rfl⟩))
    go_ret
    exact ⟨rfl, rfl⟩
  rw [if_neg (not_not_intro he)]
  obtain ⟨cs, f, i, M, hat, hS, back⟩ := isPair_at hS e he
  have hway := Sock.Pair.way_le hp e
  have hroom := hp.2.2
  obtain ⟨a0, c0, rfl, hj1, hk1, hk2⟩ := hS.row_len
  obtain ⟨a1, c1, rfl, hj2, hk3, hk4⟩ := (hS.pick 1).row_len
  clear hj1 hj2
  have hb0 := cell_blk (hS.nth 2 rfl)
  have hf0 := free_blk (hS.nth 2 rfl)
  have hc0 := (hb0 0).trans hat.room
  have hc1 := (hb0 9).trans hat.cut
  have hc2 := (hb0 _).trans hat.fl
  have hc3 := (hb0 _).trans hat.inb
  have hc4 := (hb0 _).trans hat.shut
  have hc5 := (hb0 _).trans hat.ended
  unfold maxLen at hk2 hk4
  have hat' := Lib.hid hat
  clear hat hb0
  go_enter Tryd.func19, Tryd.ntmps19
  go_wp2_with (first | (go_at_call 49; refine (known_yes _ he _).mono ?_; rintro r w' ⟨rfl, rfl⟩) | (go_at_call 50; refine (from_any _ _ he _).mono ?_; rintro r w' ⟨rfl, rfl⟩))
  go_ret
  exact ⟨rfl, rfl⟩

set_option maxRecDepth 100000 in
theorem inbox_any (b : Nat) (p : Sock.Pair) (e : Int) (w0 w : World) (L : List Asn) (hS : Sat w0 w (isPair b p :: L)) (hp : p.ok) : Calls Tryd.prog 22 #[.pointer (some ⟨b, 0, none⟩), .int .i64 e] w fun r w' => r = .returned (.int .i64 (p.inboxR e : Nat)) ∧ w = w' := by
  unfold Sock.Pair.inboxR
  by_cases he : e = 0 ∨ e = 1
  case neg =>
    rw [if_pos he]
    go_enter Tryd.func22, Tryd.ntmps22
    go_wp2_with (first | (go_at_call 49; refine (known_no _ he _).mono ?_; rintro r w' ⟨rfl, rfl⟩))
    go_ret
    exact ⟨rfl, rfl⟩
  rw [if_neg (not_not_intro he)]
  have ho := other he
  obtain ⟨cs, f, i, M, hat, hS, back⟩ := isPair_at hS (1 - e) ho
  have hway := Sock.Pair.way_le hp (1 - e)
  have hroom := hp.2.2
  obtain ⟨a0, c0, rfl, hj1, hk1, hk2⟩ := hS.row_len
  obtain ⟨a1, c1, rfl, hj2, hk3, hk4⟩ := (hS.pick 1).row_len
  clear hj1 hj2
  have hb0 := cell_blk (hS.nth 2 rfl)
  have hf0 := free_blk (hS.nth 2 rfl)
  have hc0 := (hb0 0).trans hat.room
  have hc1 := (hb0 9).trans hat.cut
  have hc2 := (hb0 _).trans hat.fl
  have hc3 := (hb0 _).trans hat.inb
  have hc4 := (hb0 _).trans hat.shut
  have hc5 := (hb0 _).trans hat.ended
  unfold maxLen at hk2 hk4
  have hat' := Lib.hid hat
  clear hat hb0
  go_enter Tryd.func22, Tryd.ntmps22
  go_wp2_with (first | (go_at_call 49; refine (known_yes _ he _).mono ?_; rintro r w' ⟨rfl, rfl⟩) | (go_at_call 53; refine (to_any _ _ he _).mono ?_; rintro r w' ⟨rfl, rfl⟩))
  go_ret
  exact ⟨rfl, rfl⟩

set_option maxRecDepth 100000 in
set_option maxHeartbeats 1000000 in
theorem room_any (b : Nat) (p : Sock.Pair) (e : Int) (w0 w : World) (L : List Asn) (hS : Sat w0 w (isPair b p :: L)) (hp : p.ok) : Calls Tryd.prog 23 #[.pointer (some ⟨b, 0, none⟩), .int .i64 e] w fun r w' => r = .returned (.int .i64 (p.roomR e : Nat)) ∧ Sat w0 w' (isPair b p :: L) := by
  unfold Sock.Pair.roomR
  have hS0 := hS
  by_cases he : e = 0 ∨ e = 1
  case neg =>
    rw [if_pos (.inl he)]
    go_enter Tryd.func23, Tryd.ntmps23
    go_wp2_with (first | (go_at_call 49; refine (known_no _ he _).mono ?_; rintro r w' ⟨rfl, rfl⟩) | (with_reducible refine Txt.wp_region_text (by kernel_rfl) (by kernel_rfl) ?_; intro Q' hQ') | (with_reducible refine Txt.wpTxt_nil ?_) | ((with_reducible refine Txt.wpTxt_plain ?_ ?_ ?_); (focus with_reducible rfl); (focus rfl); intro _ _) | ((with_reducible refine Txt.wpTxt_skipG ?_ ?_); (focus rfl); simp only [Act.put, List.setIfInBounds_toArray, List.set_cons_succ, List.set_cons_zero]) | ((with_reducible refine Txt.wpTxt_runG ?_ ?_ ?_); (focus rfl); (focus rfl); intro _ _))
    go_ret
    exact ⟨rfl, hS⟩
  obtain ⟨cs, f, i, M, hat, hS, back⟩ := isPair_at hS e he
  have hway := Sock.Pair.way_le hp e
  have hroom := hp.2.2
  obtain ⟨a0, c0, rfl, hj1, hk1, hk2⟩ := hS.row_len
  obtain ⟨a1, c1, rfl, hj2, hk3, hk4⟩ := (hS.pick 1).row_len
  clear hj1 hj2
  have hb0 := cell_blk (hS.nth 2 rfl)
  have hf0 := free_blk (hS.nth 2 rfl)
  have hc0 := (hb0 0).trans hat.room
  have hc1 := (hb0 9).trans hat.cut
  have hc2 := (hb0 _).trans hat.fl
  have hc3 := (hb0 _).trans hat.inb
  have hc4 := (hb0 _).trans hat.shut
  have hc5 := (hb0 _).trans hat.ended
  unfold maxLen at hk2 hk4
  have hat' := Lib.hid hat
  clear hat hb0
  cases hcut : p.cut
  case true =>
    rw [hcut] at hc1
    rw [if_pos (by simp)]
    go_enter Tryd.func23, Tryd.ntmps23
    go_wp2_with (first | (go_at_call 49; refine (known_yes _ he _).mono ?_; rintro r w' ⟨rfl, rfl⟩) | (with_reducible refine Txt.wp_region_text (by kernel_rfl) (by kernel_rfl) ?_; intro Q' hQ') | (with_reducible refine Txt.wpTxt_nil ?_) | ((with_reducible refine Txt.wpTxt_plain ?_ ?_ ?_); (focus with_reducible rfl); (focus rfl); intro _ _) | ((with_reducible refine Txt.wpTxt_skipG ?_ ?_); (focus rfl); simp only [Act.put, List.setIfInBounds_toArray, List.set_cons_succ, List.set_cons_zero]) | ((with_reducible refine Txt.wpTxt_runG ?_ ?_ ?_); (focus rfl); (focus rfl); intro _ _))
    go_ret
    exact ⟨rfl, hS0⟩
  rw [hcut] at hc1
  cases hsh : (p.way e).shut
  case true =>
    rw [hsh] at hc4
    rw [if_pos (by simp)]
    go_enter Tryd.func23, Tryd.ntmps23
    go_wp2_with (first | (go_at_call 49; refine (known_yes _ he _).mono ?_; rintro r w' ⟨rfl, rfl⟩) | (go_at_call 50; refine (from_any _ _ he _).mono ?_; rintro r w' ⟨rfl, rfl⟩) | (with_reducible refine Txt.wp_region_text (by kernel_rfl) (by kernel_rfl) ?_; intro Q' hQ') | (with_reducible refine Txt.wpTxt_nil ?_) | ((with_reducible refine Txt.wpTxt_plain ?_ ?_ ?_); (focus with_reducible rfl); (focus rfl); intro _ _) | ((with_reducible refine Txt.wpTxt_skipG ?_ ?_); (focus rfl); simp only [Act.put, List.setIfInBounds_toArray, List.set_cons_succ, List.set_cons_zero]) | ((with_reducible refine Txt.wpTxt_runG ?_ ?_ ?_); (focus rfl); (focus rfl); intro _ _))
    go_ret
    exact ⟨rfl, hS0⟩
  rw [hsh] at hc4
  rw [if_neg (by simp [he])]
  go_enter Tryd.func23, Tryd.ntmps23
  go_wp2_with (first | (go_at_call 49; refine (known_yes _ he _).mono ?_; rintro r w' ⟨rfl, rfl⟩) | (go_at_call 50; refine (from_any _ _ he _).mono ?_; rintro r w' ⟨rfl, rfl⟩) | (go_at_call 51; refine (left_any _ _ p.room _ _ _ _ _ _ _ hc0 hc2 hc3 hway hroom).mono ?_; rintro r w' ⟨rfl, rfl⟩) | (with_reducible refine Txt.wp_region_text (by kernel_rfl) (by kernel_rfl) ?_; intro Q' hQ') | (with_reducible refine Txt.wpTxt_nil ?_) | ((with_reducible refine Txt.wpTxt_plain ?_ ?_ ?_); (focus with_reducible rfl); (focus rfl); intro _ _) | ((with_reducible refine Txt.wpTxt_skipG ?_ ?_); (focus rfl); simp only [Act.put, List.setIfInBounds_toArray, List.set_cons_succ, List.set_cons_zero]) | ((with_reducible refine Txt.wpTxt_runG ?_ ?_ ?_); (focus rfl); (focus rfl); intro _ _))
  go_ret
  exact ⟨rfl, hS0.drew⟩

set_option maxRecDepth 100000 in
set_option maxHeartbeats 400000 in
theorem ended_any (b : Nat) (p : Sock.Pair) (e : Int) (w0 w : World) (L : List Asn) (hS : Sat w0 w (isPair b p :: L)) (hp : p.ok) : Calls Tryd.prog 21 #[.pointer (some ⟨b, 0, none⟩), .int .i64 e] w fun r w' => r = .returned (.bool (p.endedR e)) ∧ Sat w0 w' (isPair b p :: L) := by
  unfold Sock.Pair.endedR
  have hS0 := hS
  by_cases he : e = 0 ∨ e = 1
  case neg =>
    rw [if_pos he]
    go_enter Tryd.func21, Tryd.ntmps21
    go_wp2_with (first | (go_at_call 49; refine (known_no _ he _).mono ?_; rintro r w' ⟨rfl, rfl⟩) | (with_reducible refine Txt.wp_region_text (by kernel_rfl) (by kernel_rfl) ?_; intro Q' hQ') | (with_reducible refine Txt.wpTxt_nil ?_) | ((with_reducible refine Txt.wpTxt_plain ?_ ?_ ?_); (focus with_reducible rfl); (focus rfl); intro _ _) | ((with_reducible refine Txt.wpTxt_skipG ?_ ?_); (focus rfl); simp only [Act.put, List.setIfInBounds_toArray, List.set_cons_succ, List.set_cons_zero]) | ((with_reducible refine Txt.wpTxt_runG ?_ ?_ ?_); (focus rfl); (focus rfl); intro _ _))
    go_ret
    exact ⟨rfl, hS⟩
  rw [if_neg (not_not_intro he)]
  rw [show p.hasEnded e = if p.cut = true then (p.way (1 - e)).ended && (p.way (1 - e)).inb.isEmpty else (p.way (1 - e)).shut && (p.way (1 - e)).fl.isEmpty && (p.way (1 - e)).inb.isEmpty from rfl]
  have ho := other he
  obtain ⟨cs, f, i, M, hat, hS, back⟩ := isPair_at hS (1 - e) ho
  have hway := Sock.Pair.way_le hp (1 - e)
  have hroom := hp.2.2
  obtain ⟨a0, c0, rfl, hj1, hk1, hk2⟩ := hS.row_len
  obtain ⟨a1, c1, rfl, hj2, hk3, hk4⟩ := (hS.pick 1).row_len
  clear hj1 hj2
  have hb0 := cell_blk (hS.nth 2 rfl)
  have hf0 := free_blk (hS.nth 2 rfl)
  have hc0 := (hb0 0).trans hat.room
  have hc1 := (hb0 9).trans hat.cut
  have hc2 := (hb0 _).trans hat.fl
  have hc3 := (hb0 _).trans hat.inb
  have hc4 := (hb0 _).trans hat.shut
  have hc5 := (hb0 _).trans hat.ended
  unfold maxLen at hk2 hk4
  have hat' := Lib.hid hat
  clear hat hb0
  have hin : ((((p.way (1 - e)).inb.length : Nat) : Int) == 0) = (p.way (1 - e)).inb.isEmpty := by
    cases (p.way (1 - e)).inb with
    | nil => rfl
    | cons x l => rw [List.isEmpty_cons, beq_eq_false_iff_ne]; simp only [List.length_cons]; omega
  have hsum : ((((p.way (1 - e)).fl.length : Nat) : Int) + (((p.way (1 - e)).inb.length : Nat) : Int) == 0) = ((p.way (1 - e)).fl.isEmpty && (p.way (1 - e)).inb.isEmpty) := by
    cases (p.way (1 - e)).inb with
    | nil =>
      cases (p.way (1 - e)).fl with
      | nil => rfl
      | cons x l => rw [List.isEmpty_cons, Bool.false_and, beq_eq_false_iff_ne]; simp only [List.length_cons, List.length_nil]; omega
    | cons x l => rw [List.isEmpty_cons, Bool.and_false, beq_eq_false_iff_ne]; simp only [List.length_cons]; omega
  cases hcut : p.cut
  case true =>
    rw [hcut] at hc1
    clear hsum
    cases hend : (p.way (1 - e)).ended <;> rw [hend] at hc5
    · go_enter Tryd.func21, Tryd.ntmps21
      go_wp2_with (first | (go_at_call 49; refine (known_yes _ he _).mono ?_; rintro r w' ⟨rfl, rfl⟩) | (go_at_call 53; refine (to_any _ _ he _).mono ?_; rintro r w' ⟨rfl, rfl⟩) | (with_reducible refine Txt.wp_region_text (by kernel_rfl) (by kernel_rfl) ?_; intro Q' hQ') | (with_reducible refine Txt.wpTxt_nil ?_) | ((with_reducible refine Txt.wpTxt_plain ?_ ?_ ?_); (focus with_reducible rfl); (focus rfl); intro _ _) | ((with_reducible refine Txt.wpTxt_skipG ?_ ?_); (focus rfl); simp only [Act.put, List.setIfInBounds_toArray, List.set_cons_succ, List.set_cons_zero]) | ((with_reducible refine Txt.wpTxt_runG ?_ ?_ ?_); (focus rfl); (focus rfl); intro _ _))
      go_ret
      exact ⟨rfl, hS0⟩
    · cases hi : (p.way (1 - e)).inb.isEmpty <;> rw [hi] at hin <;>
      · go_enter Tryd.func21, Tryd.ntmps21
        go_wp2_with (first | (go_at_call 49; refine (known_yes _ he _).mono ?_; rintro r w' ⟨rfl, rfl⟩) | (go_at_call 53; refine (to_any _ _ he _).mono ?_; rintro r w' ⟨rfl, rfl⟩) | (with_reducible refine Txt.wp_region_text (by kernel_rfl) (by kernel_rfl) ?_; intro Q' hQ') | (with_reducible refine Txt.wpTxt_nil ?_) | ((with_reducible refine Txt.wpTxt_plain ?_ ?_ ?_); (focus with_reducible rfl); (focus rfl); intro _ _) | ((with_reducible refine Txt.wpTxt_skipG ?_ ?_); (focus rfl); simp only [Act.put, List.setIfInBounds_toArray, List.set_cons_succ, List.set_cons_zero]) | ((with_reducible refine Txt.wpTxt_runG ?_ ?_ ?_); (focus rfl); (focus rfl); intro _ _))
        go_ret
        exact ⟨rfl, hS0⟩
  rw [hcut] at hc1
  clear hin
  cases hend : (p.way (1 - e)).shut <;> rw [hend] at hc4
  · go_enter Tryd.func21, Tryd.ntmps21
    go_wp2_with (first | (go_at_call 49; refine (known_yes _ he _).mono ?_; rintro r w' ⟨rfl, rfl⟩) | (go_at_call 53; refine (to_any _ _ he _).mono ?_; rintro r w' ⟨rfl, rfl⟩) | (with_reducible refine Txt.wp_region_text (by kernel_rfl) (by kernel_rfl) ?_; intro Q' hQ') | (with_reducible refine Txt.wpTxt_nil ?_) | ((with_reducible refine Txt.wpTxt_plain ?_ ?_ ?_); (focus with_reducible rfl); (focus rfl); intro _ _) | ((with_reducible refine Txt.wpTxt_skipG ?_ ?_); (focus rfl); simp only [Act.put, List.setIfInBounds_toArray, List.set_cons_succ, List.set_cons_zero]) | ((with_reducible refine Txt.wpTxt_runG ?_ ?_ ?_); (focus rfl); (focus rfl); intro _ _))
    go_ret
    exact ⟨rfl, hS0.drew⟩
  · obtain ⟨z, hz⟩ : ∃ z, z = ((p.way (1 - e)).fl.isEmpty && (p.way (1 - e)).inb.isEmpty) := ⟨_, rfl⟩
    rw [← hz] at hsum
    have hgoal : (if false = true then (p.way (1 - e)).ended && (p.way (1 - e)).inb.isEmpty else true && (p.way (1 - e)).fl.isEmpty && (p.way (1 - e)).inb.isEmpty) = z := by rw [hz]; rfl
    rw [hgoal]
    clear hz hgoal hend hcut
    cases z
    · go_enter Tryd.func21, Tryd.ntmps21
      go_wp2_with (first | (go_at_call 49; refine (known_yes _ he _).mono ?_; rintro r w' ⟨rfl, rfl⟩) | (go_at_call 53; refine (to_any _ _ he _).mono ?_; rintro r w' ⟨rfl, rfl⟩) | (with_reducible refine Txt.wp_region_text (by kernel_rfl) (by kernel_rfl) ?_; intro Q' hQ') | (with_reducible refine Txt.wpTxt_nil ?_) | ((with_reducible refine Txt.wpTxt_plain ?_ ?_ ?_); (focus with_reducible rfl); (focus rfl); intro _ _) | ((with_reducible refine Txt.wpTxt_skipG ?_ ?_); (focus rfl); simp only [Act.put, List.setIfInBounds_toArray, List.set_cons_succ, List.set_cons_zero]) | ((with_reducible refine Txt.wpTxt_runG ?_ ?_ ?_); (focus rfl); (focus rfl); intro _ _))
      go_ret
      exact ⟨rfl, hS0.drew⟩
    · go_enter Tryd.func21, Tryd.ntmps21
      go_wp2_with (first | (go_at_call 49; refine (known_yes _ he _).mono ?_; rintro r w' ⟨rfl, rfl⟩) | (go_at_call 53; refine (to_any _ _ he _).mono ?_; rintro r w' ⟨rfl, rfl⟩) | (with_reducible refine Txt.wp_region_text (by kernel_rfl) (by kernel_rfl) ?_; intro Q' hQ') | (with_reducible refine Txt.wpTxt_nil ?_) | ((with_reducible refine Txt.wpTxt_plain ?_ ?_ ?_); (focus with_reducible rfl); (focus rfl); intro _ _) | ((with_reducible refine Txt.wpTxt_skipG ?_ ?_); (focus rfl); simp only [Act.put, List.setIfInBounds_toArray, List.set_cons_succ, List.set_cons_zero]) | ((with_reducible refine Txt.wpTxt_runG ?_ ?_ ?_); (focus rfl); (focus rfl); intro _ _))
      go_ret
      exact ⟨rfl, hS0.drew⟩


set_option maxRecDepth 100000 in
set_option maxHeartbeats 2000000 in
theorem cut_any (b : Nat) (p : Sock.Pair) (w0 w : World) (L : List Asn) (hS : Sat w0 w (isPair b p :: L)) (hp : p.ok) : Calls Tryd.prog 17 #[.pointer (some ⟨b, 0, none⟩)] w fun r w' => r = .returned (.tuple #[]) ∧ Sat w0 w' (isPair b p.cuts :: L) := by
  unfold Sock.Pair.cuts
  obtain ⟨f0, i0, f1, i1, hSo⟩ := isPair_open hS
  have hb := cell_blk hSo.at
  have hf := free_blk hSo.at
  cases hcut : p.cut
  case true =>
    rw [hcut] at hb
    rw [if_pos rfl]
    go_enter Tryd.func17, Tryd.ntmps17
    go_wp2
    refine bodyPost_ret (results_none rfl _ _ _) rfl ?_
    exact ⟨rfl, hS⟩
  rw [if_neg (by simp)]
  rw [hcut] at hb
  have hS1 : Sat w0 (w.setCell ⟨b, 9, none⟩ (.bool true)) (isPair b (p.cutN 0) :: L) := Sat.ent (hSo.store 9 (.bool true)) (isPair_shut (p := p.cutN 0))
  clear hS hSo hcut
  go_enter Tryd.func17, Tryd.ntmps17
  go_wp2
  go_loopw [11] (fun i wr => ∃ k : Nat, k ≤ 2 ∧ i = .int .i64 k ∧ Sat w0 wr (isPair b (p.cutN k) :: L)) (fun i _ => 2 - (intOf i).toNat)
  case atStart => exact ⟨0, by omega, rfl, hS1⟩
  case round =>
    obtain ⟨k, hk, rfl, hSk⟩ := hrel
    clear hb hf hS1
    by_cases hk2 : k < 2
    case neg =>
      obtain rfl : k = 2 := by omega
      go_wp2
      go_end0
      exact ⟨rfl, hSk⟩
    have he : (k : Int) = 0 ∨ (k : Int) = 1 := by omega
    have hoff : off (k : Int) = 1 + k * 4 := by
      unfold off; split <;> omega
    have hp' : (p.cutN k).ok := Sock.Pair.cutN_ok hp k
    obtain ⟨cs, f, i, M, hat, hS, back⟩ := isPair_at hSk k he
    obtain ⟨a0, c0, rfl, hj1, hq1, hq2⟩ := hS.row_len
    obtain ⟨a1, c1, rfl, hj2, hq3, hq4⟩ := (hS.pick 1).row_len
    clear hj1 hj2 hSk
    rw [hoff] at back
    have hat1 := hat.fl
    have hat2 := hat.inb
    have hat3 := hat.shut
    have hat4 := hat.ended
    rw [hoff] at hat1 hat2 hat3 hat4
    have hb := cell_blk (hS.nth 2 rfl)
    have hf := free_blk (hS.nth 2 rfl)
    have hc2 := (hb _).trans hat1
    have hc4 := (hb _).trans hat3
    have hc5 := (hb _).trans hat4
    have H1 := Lib.hid hat1
    have H2 := Lib.hid hat2
    have H3 := Lib.hid hat3
    clear hat hat1 hat2 hat3 hat4 hb hoff
    have hin : (((((p.cutN k).way k).fl.length : Nat) : Int) == 0) = ((p.cutN k).way k).fl.isEmpty := by
      cases ((p.cutN k).way k).fl with
      | nil => rfl
      | cons x l => rw [List.isEmpty_cons, beq_eq_false_iff_ne]; simp only [List.length_cons]; omega
    have fin : ∀ (w' : World) (z : Bool), z = (((p.cutN k).way k).shut && ((p.cutN k).way k).fl.isEmpty) → Sat w0 w' (Blk b (.cells ((cs.setIfInBounds (1 + k * 4 + 3) (.bool z)).setIfInBounds (1 + k * 4) (.slice none 0 0)) 88) :: Bytes 5 (.slice a0 ((p.cutN k).way k).fl.length c0) ((p.cutN k).way k).fl :: Bytes 5 (.slice a1 ((p.cutN k).way k).inb.length c1) ((p.cutN k).way k).inb :: M) → Sat w0 w' (isPair b (p.cutN (k + 1)) :: L) := by
      intro w' z hz hs
      rw [← Sock.Pair.cutN_succ p k hk2]
      refine Sat.ent ((((hs.pick 1).drop.pick 1).row_nil 5 1 none)) (Ent.trans ?_ (back (.slice none 0 0) (.slice a1 ((p.cutN k).way k).inb.length c1) ((p.cutN k).way k).cut))
      rw [Array.setIfInBounds_comm _ _ (by omega)]
      have hcs : ∀ j, j ≠ 1 + k * 4 → (cs.setIfInBounds (1 + k * 4) (.slice none 0 0))[j]? = cs[j]? := fun j hj => by rw [Array.getElem?_setIfInBounds_ne (Ne.symm hj)]
      rw [set_same (i := 1 + k * 4 + 1) ((hcs _ (by omega)).trans H2.out)]
      have e3 : (cs.setIfInBounds (1 + k * 4) (.slice none 0 0)).setIfInBounds (1 + k * 4 + 2) (.bool ((p.cutN k).way k).cut.shut) = cs.setIfInBounds (1 + k * 4) (.slice none 0 0) := set_same ((hcs _ (by omega)).trans H3.out)
      rw [e3, hz]
      exact Ent.refl _
    cases hsh : ((p.cutN k).way k).shut
    · rw [hsh] at hc4
      have Hs := Lib.hid hsh
      clear hsh hin
      go_wp2
      go_roundw
      case rel => exact ⟨k + 1, by omega, by go_num, fin _ false (by rw [Hs.out]; rfl) (((hS.pick 2).store _ _).store _ _)⟩
      case measure => simp [intOf]; omega
    · rw [hsh] at hc4
      have Hs := Lib.hid hsh
      clear hsh
      cases hi : ((p.cutN k).way k).fl.isEmpty
      all_goals
        rw [hi] at hin
        have Hi := Lib.hid hi
        clear hi
        go_wp2
        go_roundw
        case rel => exact ⟨k + 1, by omega, by go_num, fin _ _ (by rw [Hs.out, Hi.out]; rfl) (((hS.pick 2).store _ _).store _ _)⟩
        case measure => simp [intOf]; omega
end Go.Proofs.YtndnojbpapjdoaaDoor
