/- What the calls of package sock make of a pair in memory: the small ones, and the errors. -/
import Derived.Test.YtndnojbpapjdoaaDoorSockC
namespace Go.Proofs.YtndnojbpapjdoaaDoor
open Go.Sp Go.RowKit

def ev (E : Nat → Addr) : Nat → Value
  | 0 => .nilIface
  | k + 1 => er E (k + 1)
@[simp] theorem ev_zero (E : Nat → Addr) : ev E 0 = .nilIface := rfl
@[simp] theorem ev_succ (E : Nat → Addr) (k : Nat) : ev E (k + 1) = er E (k + 1) := rfl


set_option maxRecDepth 100000 in
set_option maxHeartbeats 1000000 in
theorem write_any (E : Nat → Addr) (b : Nat) (p : Sock.Pair) (e : Int) (w0 w : World) (L : List Asn) (hE : SockErrs E w0) (hp : p.ok) (hS : Sat w0 w (isPair b p :: L)) (v : Value) (bs : List UInt8) (hb : Reads w v bs) :
    Calls Tryd.prog 15 #[.pointer (some ⟨b, 0, none⟩), .int .i64 e, v] w fun r w' =>
      r = .returned (.tuple #[.int .i64 ((p.writeR e bs).1 : Nat), ev E (p.writeR e bs).2.1]) ∧ Sat w0 w' (isPair b (p.writeR e bs).2.2 :: L) := by
  unfold Sock.Pair.writeR
  by_cases he : e = 0 ∨ e = 1
  case neg =>
    rw [if_pos he]
    have hg := old_cell hS hE.range
    go_enter Tryd.func15, Tryd.ntmps15
    go_wp2_with (first | (go_at_call 49; refine (known_no _ he _).mono ?_; rintro r w' ⟨rfl, rfl⟩) | (with_reducible refine Txt.wp_region_text (by kernel_rfl) (by kernel_rfl) ?_; intro Q' hQ') | (with_reducible refine Txt.wpTxt_nil ?_) | ((with_reducible refine Txt.wpTxt_plain ?_ ?_ ?_); (focus with_reducible rfl); (focus rfl); intro _ _) | ((with_reducible refine Txt.wpTxt_skipG ?_ ?_); (focus rfl); simp only [Act.put, List.setIfInBounds_toArray, List.set_cons_succ, List.set_cons_zero]) | ((with_reducible refine Txt.wpTxt_runG ?_ ?_ ?_); (focus rfl); (focus rfl); intro _ _))
    go_ret2
    exact ⟨rfl, hS.drew⟩
  rw [if_neg (not_not_intro he)]
  cases hcut : p.cut
  case true =>
    rw [if_pos rfl]
    have hg := old_cell hS hE.broken
    have hS0 := hS
    obtain ⟨cs, f, i, M, hat, hS, back⟩ := isPair_at hS e he
    have hway := Sock.Pair.way_le hp e
    have hroom := hp.2.2
    obtain ⟨a0, c0, rfl, hj1, hk1, hk2⟩ := hS.row_len
    obtain ⟨a1, c1, rfl, hj2, hk3, hk4⟩ := (hS.pick 1).row_len
    clear hj1 hj2
    have hb0 := cell_blk (hS.nth 2 rfl)
    have hf0 := free_blk (hS.nth 2 rfl)
    have hc0 := (hb0 0).trans hat.room
    have hc1 := (hb0 9).trans hat.cut
    have hc2 := (hb0 _).trans hat.fl
    have hc3 := (hb0 _).trans hat.inb
    have hc4 := (hb0 _).trans hat.shut
    have hc5 := (hb0 _).trans hat.ended
    unfold maxLen at hk2 hk4
    have hat' := Lib.hid hat
    clear hat hb0
    rw [hcut] at hc1
    go_enter Tryd.func15, Tryd.ntmps15
    go_wp2_with (first | (go_at_call 49; refine (known_yes _ he _).mono ?_; rintro r w' ⟨rfl, rfl⟩) | (with_reducible refine Txt.wp_region_text (by kernel_rfl) (by kernel_rfl) ?_; intro Q' hQ') | (with_reducible refine Txt.wpTxt_nil ?_) | ((with_reducible refine Txt.wpTxt_plain ?_ ?_ ?_); (focus with_reducible rfl); (focus rfl); intro _ _) | ((with_reducible refine Txt.wpTxt_skipG ?_ ?_); (focus rfl); simp only [Act.put, List.setIfInBounds_toArray, List.set_cons_succ, List.set_cons_zero]) | ((with_reducible refine Txt.wpTxt_runG ?_ ?_ ?_); (focus rfl); (focus rfl); intro _ _))
    go_ret2
    exact ⟨rfl, hS0.drew⟩
  rw [if_neg (by simp)]
  cases hsh : (p.way e).shut
  case true =>
    rw [if_pos rfl]
    have hg := old_cell hS hE.state
    have hS0 := hS
    obtain ⟨cs, f, i, M, hat, hS, back⟩ := isPair_at hS e he
    have hway := Sock.Pair.way_le hp e
    have hroom := hp.2.2
    obtain ⟨a0, c0, rfl, hj1, hk1, hk2⟩ := hS.row_len
    obtain ⟨a1, c1, rfl, hj2, hk3, hk4⟩ := (hS.pick 1).row_len
    clear hj1 hj2
    have hb0 := cell_blk (hS.nth 2 rfl)
    have hf0 := free_blk (hS.nth 2 rfl)
    have hc0 := (hb0 0).trans hat.room
    have hc1 := (hb0 9).trans hat.cut
    have hc2 := (hb0 _).trans hat.fl
    have hc3 := (hb0 _).trans hat.inb
    have hc4 := (hb0 _).trans hat.shut
    have hc5 := (hb0 _).trans hat.ended
    unfold maxLen at hk2 hk4
    have hat' := Lib.hid hat
    clear hat hb0
    rw [hcut] at hc1
    rw [hsh] at hc4
    go_enter Tryd.func15, Tryd.ntmps15
    go_wp2_with (first | (go_at_call 49; refine (known_yes _ he _).mono ?_; rintro r w' ⟨rfl, rfl⟩) | (go_at_call 50; refine (from_any _ _ he _).mono ?_; rintro r w' ⟨rfl, rfl⟩) | (with_reducible refine Txt.wp_region_text (by kernel_rfl) (by kernel_rfl) ?_; intro Q' hQ') | (with_reducible refine Txt.wpTxt_nil ?_) | ((with_reducible refine Txt.wpTxt_plain ?_ ?_ ?_); (focus with_reducible rfl); (focus rfl); intro _ _) | ((with_reducible refine Txt.wpTxt_skipG ?_ ?_); (focus rfl); simp only [Act.put, List.setIfInBounds_toArray, List.set_cons_succ, List.set_cons_zero]) | ((with_reducible refine Txt.wpTxt_runG ?_ ?_ ?_); (focus rfl); (focus rfl); intro _ _))
    go_ret2
    exact ⟨rfl, hS0.drew⟩
  rw [if_neg (by simp)]
  exact write_ok b p e he hp hcut hsh w0 w L hS v bs hb

set_option maxRecDepth 100000 in
set_option maxHeartbeats 1000000 in
theorem shut_any (E : Nat → Addr) (b : Nat) (p : Sock.Pair) (e : Int) (w0 w : World) (L : List Asn) (hE : SockErrs E w0) (hp : p.ok) (hS : Sat w0 w (isPair b p :: L)) :
    Calls Tryd.prog 20 #[.pointer (some ⟨b, 0, none⟩), .int .i64 e] w fun r w' =>
      r = .returned (ev E (p.shutR e).1) ∧ Sat w0 w' (isPair b (p.shutR e).2 :: L) := by
  unfold Sock.Pair.shutR
  by_cases he : e = 0 ∨ e = 1
  case neg =>
    rw [if_pos he]
    have hg := old_cell hS hE.range
    go_enter Tryd.func20, Tryd.ntmps20
    go_wp2_with (first | (go_at_call 49; refine (known_no _ he _).mono ?_; rintro r w' ⟨rfl, rfl⟩) | (with_reducible refine Txt.wp_region_text (by kernel_rfl) (by kernel_rfl) ?_; intro Q' hQ') | (with_reducible refine Txt.wpTxt_nil ?_) | ((with_reducible refine Txt.wpTxt_plain ?_ ?_ ?_); (focus with_reducible rfl); (focus rfl); intro _ _) | ((with_reducible refine Txt.wpTxt_skipG ?_ ?_); (focus rfl); simp only [Act.put, List.setIfInBounds_toArray, List.set_cons_succ, List.set_cons_zero]) | ((with_reducible refine Txt.wpTxt_runG ?_ ?_ ?_); (focus rfl); (focus rfl); intro _ _))
    go_ret
    exact ⟨rfl, hS⟩
  rw [if_neg (not_not_intro he)]
  cases hcut : p.cut
  case true =>
    rw [if_pos rfl]
    have hg := old_cell hS hE.broken
    have hS0 := hS
    obtain ⟨cs, f, i, M, hat, hS, back⟩ := isPair_at hS e he
    have hway := Sock.Pair.way_le hp e
    have hroom := hp.2.2
    obtain ⟨a0, c0, rfl, hj1, hk1, hk2⟩ := hS.row_len
    obtain ⟨a1, c1, rfl, hj2, hk3, hk4⟩ := (hS.pick 1).row_len
    clear hj1 hj2
    have hb0 := cell_blk (hS.nth 2 rfl)
    have hf0 := free_blk (hS.nth 2 rfl)
    have hc0 := (hb0 0).trans hat.room
    have hc1 := (hb0 9).trans hat.cut
    have hc2 := (hb0 _).trans hat.fl
    have hc3 := (hb0 _).trans hat.inb
    have hc4 := (hb0 _).trans hat.shut
    have hc5 := (hb0 _).trans hat.ended
    unfold maxLen at hk2 hk4
    have hat' := Lib.hid hat
    clear hat hb0
    rw [hcut] at hc1
    go_enter Tryd.func20, Tryd.ntmps20
    go_wp2_with (first | (go_at_call 49; refine (known_yes _ he _).mono ?_; rintro r w' ⟨rfl, rfl⟩) | (with_reducible refine Txt.wp_region_text (by kernel_rfl) (by kernel_rfl) ?_; intro Q' hQ') | (with_reducible refine Txt.wpTxt_nil ?_) | ((with_reducible refine Txt.wpTxt_plain ?_ ?_ ?_); (focus with_reducible rfl); (focus rfl); intro _ _) | ((with_reducible refine Txt.wpTxt_skipG ?_ ?_); (focus rfl); simp only [Act.put, List.setIfInBounds_toArray, List.set_cons_succ, List.set_cons_zero]) | ((with_reducible refine Txt.wpTxt_runG ?_ ?_ ?_); (focus rfl); (focus rfl); intro _ _))
    go_ret
    exact ⟨rfl, hS0⟩
  rw [if_neg (by simp)]
  obtain ⟨cs, f, i, M, hat, hS, back⟩ := isPair_at hS e he
  have hway := Sock.Pair.way_le hp e
  have hroom := hp.2.2
  obtain ⟨a0, c0, rfl, hj1, hk1, hk2⟩ := hS.row_len
  obtain ⟨a1, c1, rfl, hj2, hk3, hk4⟩ := (hS.pick 1).row_len
  clear hj1 hj2
  have hb0 := cell_blk (hS.nth 2 rfl)
  have hf0 := free_blk (hS.nth 2 rfl)
  have hc0 := (hb0 0).trans hat.room
  have hc1 := (hb0 9).trans hat.cut
  have hc2 := (hb0 _).trans hat.fl
  have hc3 := (hb0 _).trans hat.inb
  have hc4 := (hb0 _).trans hat.shut
  have hc5 := (hb0 _).trans hat.ended
  unfold maxLen at hk2 hk4
  have hat' := Lib.hid hat
  clear hat hb0
  rw [hcut] at hc1
  go_enter Tryd.func20, Tryd.ntmps20
  go_wp2_with (first | (go_at_call 49; refine (known_yes _ he _).mono ?_; rintro r w' ⟨rfl, rfl⟩) | (go_at_call 50; refine (from_any _ _ he _).mono ?_; rintro r w' ⟨rfl, rfl⟩) | (with_reducible refine Txt.wp_region_text (by kernel_rfl) (by kernel_rfl) ?_; intro Q' hQ') | (with_reducible refine Txt.wpTxt_nil ?_) | ((with_reducible refine Txt.wpTxt_plain ?_ ?_ ?_); (focus with_reducible rfl); (focus rfl); intro _ _) | ((with_reducible refine Txt.wpTxt_skipG ?_ ?_); (focus rfl); simp only [Act.put, List.setIfInBounds_toArray, List.set_cons_succ, List.set_cons_zero]) | ((with_reducible refine Txt.wpTxt_runG ?_ ?_ ?_); (focus rfl); (focus rfl); intro _ _))
  go_ret
  refine ⟨rfl, Sat.ent ((((hS.pick 2).store (off e + 2) _).pick 2).pick 2) (Ent.trans ?_ (back (.slice a0 (p.way e).fl.length c0) (.slice a1 (p.way e).inb.length c1) { p.way e with shut := true }))⟩
  have hcs : ∀ j, j ≠ off e + 2 → (cs.setIfInBounds (off e + 2) (.bool true))[j]? = cs[j]? := fun j hj => by rw [Array.getElem?_setIfInBounds_ne (Ne.symm hj)]
  rw [set_same (i := off e) hat'.out.fl, set_same (i := off e + 1) hat'.out.inb, set_same (i := off e + 3) ((hcs _ (by omega)).trans hat'.out.ended)]
  exact Ent.refl _

set_option maxRecDepth 100000 in
set_option maxHeartbeats 1000000 in
theorem carry_any (E : Nat → Addr) (b : Nat) (p : Sock.Pair) (e : Int) (w0 w : World) (L : List Asn) (hE : SockErrs E w0) (hp : p.ok) (hS : Sat w0 w (isPair b p :: L)) (n : Int) :
    Calls Tryd.prog 16 #[.pointer (some ⟨b, 0, none⟩), .int .i64 e, .int .i64 n] w fun r w' =>
      r = .returned (.tuple #[.int .i64 ((p.carryR e n).1 : Nat), ev E (p.carryR e n).2.1]) ∧ Sat w0 w' (isPair b (p.carryR e n).2.2 :: L) := by
  unfold Sock.Pair.carryR
  by_cases he : e = 0 ∨ e = 1
  case neg =>
    rw [if_pos (.inl he)]
    have hg := old_cell hS hE.range
    go_enter Tryd.func16, Tryd.ntmps16
    go_wp2_with (first | (go_at_call 49; refine (known_no _ he _).mono ?_; rintro r w' ⟨rfl, rfl⟩) | (with_reducible refine Txt.wp_region_text (by kernel_rfl) (by kernel_rfl) ?_; intro Q' hQ') | (with_reducible refine Txt.wpTxt_nil ?_) | ((with_reducible refine Txt.wpTxt_plain ?_ ?_ ?_); (focus with_reducible rfl); (focus rfl); intro _ _) | ((with_reducible refine Txt.wpTxt_skipG ?_ ?_); (focus rfl); simp only [Act.put, List.setIfInBounds_toArray, List.set_cons_succ, List.set_cons_zero]) | ((with_reducible refine Txt.wpTxt_runG ?_ ?_ ?_); (focus rfl); (focus rfl); intro _ _))
    go_ret2
    exact ⟨rfl, hS.drew⟩
  by_cases hn : n < 0
  case pos =>
    rw [if_pos (.inr hn)]
    have hg := old_cell hS hE.range
    go_enter Tryd.func16, Tryd.ntmps16
    go_wp2_with (first | (go_at_call 49; refine (known_yes _ he _).mono ?_; rintro r w' ⟨rfl, rfl⟩) | (with_reducible refine Txt.wp_region_text (by kernel_rfl) (by kernel_rfl) ?_; intro Q' hQ') | (with_reducible refine Txt.wpTxt_nil ?_) | ((with_reducible refine Txt.wpTxt_plain ?_ ?_ ?_); (focus with_reducible rfl); (focus rfl); intro _ _) | ((with_reducible refine Txt.wpTxt_skipG ?_ ?_); (focus rfl); simp only [Act.put, List.setIfInBounds_toArray, List.set_cons_succ, List.set_cons_zero]) | ((with_reducible refine Txt.wpTxt_runG ?_ ?_ ?_); (focus rfl); (focus rfl); intro _ _))
    go_ret2
    exact ⟨rfl, hS.drew⟩
  rw [if_neg (fun h => h.elim (fun h => h he) (fun h => hn h))]
  cases hcut : p.cut
  case true =>
    rw [if_pos rfl]
    have hg := old_cell hS hE.broken
    have hS0 := hS
    obtain ⟨cs, f, i, M, hat, hS, back⟩ := isPair_at hS e he
    have hway := Sock.Pair.way_le hp e
    have hroom := hp.2.2
    obtain ⟨a0, c0, rfl, hj1, hk1, hk2⟩ := hS.row_len
    obtain ⟨a1, c1, rfl, hj2, hk3, hk4⟩ := (hS.pick 1).row_len
    clear hj1 hj2
    have hb0 := cell_blk (hS.nth 2 rfl)
    have hf0 := free_blk (hS.nth 2 rfl)
    have hc0 := (hb0 0).trans hat.room
    have hc1 := (hb0 9).trans hat.cut
    have hc2 := (hb0 _).trans hat.fl
    have hc3 := (hb0 _).trans hat.inb
    have hc4 := (hb0 _).trans hat.shut
    have hc5 := (hb0 _).trans hat.ended
    unfold maxLen at hk2 hk4
    have hat' := Lib.hid hat
    clear hat hb0
    rw [hcut] at hc1
    go_enter Tryd.func16, Tryd.ntmps16
    go_wp2_with (first | (go_at_call 49; refine (known_yes _ he _).mono ?_; rintro r w' ⟨rfl, rfl⟩) | (with_reducible refine Txt.wp_region_text (by kernel_rfl) (by kernel_rfl) ?_; intro Q' hQ') | (with_reducible refine Txt.wpTxt_nil ?_) | ((with_reducible refine Txt.wpTxt_plain ?_ ?_ ?_); (focus with_reducible rfl); (focus rfl); intro _ _) | ((with_reducible refine Txt.wpTxt_skipG ?_ ?_); (focus rfl); simp only [Act.put, List.setIfInBounds_toArray, List.set_cons_succ, List.set_cons_zero]) | ((with_reducible refine Txt.wpTxt_runG ?_ ?_ ?_); (focus rfl); (focus rfl); intro _ _))
    go_ret2
    exact ⟨rfl, hS0.drew⟩
  rw [if_neg (by simp)]
  obtain ⟨k, rfl⟩ := Int.eq_ofNat_of_zero_le (Int.not_lt.1 hn)
  exact carry_ok b p e k he hp hcut w0 w L hS

set_option maxRecDepth 100000 in
set_option maxHeartbeats 1000000 in
theorem read_any (E : Nat → Addr) (b : Nat) (p : Sock.Pair) (e : Int) (w0 w : World) (L : List Asn) (hE : SockErrs E w0) (hp : p.ok) (hS : Sat w0 w (isPair b p :: L)) (n : Int) :
    Calls Tryd.prog 18 #[.pointer (some ⟨b, 0, none⟩), .int .i64 e, .int .i64 n] w fun r w' =>
      ∃ v, r = .returned (.tuple #[v, ev E (p.readR e n).2.1]) ∧ Sat w0 w' (Bytes 5 v (p.readR e n).1 :: isPair b (p.readR e n).2.2 :: L) := by
  unfold Sock.Pair.readR
  by_cases he : e = 0 ∨ e = 1
  case neg =>
    rw [if_pos (.inl he)]
    have hg := old_cell hS hE.range
    go_enter Tryd.func18, Tryd.ntmps18
    go_wp2_with (first | (go_at_call 49; refine (known_no _ he _).mono ?_; rintro r w' ⟨rfl, rfl⟩) | (with_reducible refine Txt.wp_region_text (by kernel_rfl) (by kernel_rfl) ?_; intro Q' hQ') | (with_reducible refine Txt.wpTxt_nil ?_) | ((with_reducible refine Txt.wpTxt_plain ?_ ?_ ?_); (focus with_reducible rfl); (focus rfl); intro _ _) | ((with_reducible refine Txt.wpTxt_skipG ?_ ?_); (focus rfl); simp only [Act.put, List.setIfInBounds_toArray, List.set_cons_succ, List.set_cons_zero]) | ((with_reducible refine Txt.wpTxt_runG ?_ ?_ ?_); (focus rfl); (focus rfl); intro _ _))
    go_ret2
    exact ⟨_, rfl, hS.drew.row_nil _ _ none⟩
  by_cases hn : n < 0
  case pos =>
    rw [if_pos (.inr hn)]
    have hg := old_cell hS hE.range
    go_enter Tryd.func18, Tryd.ntmps18
    go_wp2_with (first | (go_at_call 49; refine (known_yes _ he _).mono ?_; rintro r w' ⟨rfl, rfl⟩) | (with_reducible refine Txt.wp_region_text (by kernel_rfl) (by kernel_rfl) ?_; intro Q' hQ') | (with_reducible refine Txt.wpTxt_nil ?_) | ((with_reducible refine Txt.wpTxt_plain ?_ ?_ ?_); (focus with_reducible rfl); (focus rfl); intro _ _) | ((with_reducible refine Txt.wpTxt_skipG ?_ ?_); (focus rfl); simp only [Act.put, List.setIfInBounds_toArray, List.set_cons_succ, List.set_cons_zero]) | ((with_reducible refine Txt.wpTxt_runG ?_ ?_ ?_); (focus rfl); (focus rfl); intro _ _))
    go_ret2
    exact ⟨_, rfl, hS.drew.row_nil _ _ none⟩
  rw [if_neg (fun h => h.elim (fun h => h he) (fun h => hn h))]
  obtain ⟨k, rfl⟩ := Int.eq_ofNat_of_zero_le (Int.not_lt.1 hn)
  by_cases hcut : p.cut ∧ (p.way (1 - e)).inb = []
  case pos =>
    rw [if_pos hcut]
    have hg := old_cell hS hE.broken
    have hS0 := hS
    have ho := other he
    obtain ⟨cs, f, i, M, hat, hS, back⟩ := isPair_at hS (1 - e) ho
    have hway := Sock.Pair.way_le hp (1 - e)
    have hroom := hp.2.2
    obtain ⟨a0, c0, rfl, hj1, hk1, hk2⟩ := hS.row_len
    obtain ⟨a1, c1, rfl, hj2, hk3, hk4⟩ := (hS.pick 1).row_len
    clear hj1 hj2
    have hb0 := cell_blk (hS.nth 2 rfl)
    have hf0 := free_blk (hS.nth 2 rfl)
    have hc0 := (hb0 0).trans hat.room
    have hc1 := (hb0 9).trans hat.cut
    have hc2 := (hb0 _).trans hat.fl
    have hc3 := (hb0 _).trans hat.inb
    have hc4 := (hb0 _).trans hat.shut
    have hc5 := (hb0 _).trans hat.ended
    unfold maxLen at hk2 hk4
    have hat' := Lib.hid hat
    clear hat hb0
    rw [hcut.1] at hc1
    rw [hcut.2] at hc3
    clear hcut
    go_enter Tryd.func18, Tryd.ntmps18
    go_wp2_with (first | (go_at_call 49; refine (known_yes _ he _).mono ?_; rintro r w' ⟨rfl, rfl⟩) | (go_at_call 53; refine (to_any _ _ he _).mono ?_; rintro r w' ⟨rfl, rfl⟩) | (with_reducible refine Txt.wp_region_text (by kernel_rfl) (by kernel_rfl) ?_; intro Q' hQ') | (with_reducible refine Txt.wpTxt_nil ?_) | ((with_reducible refine Txt.wpTxt_plain ?_ ?_ ?_); (focus with_reducible rfl); (focus rfl); intro _ _) | ((with_reducible refine Txt.wpTxt_skipG ?_ ?_); (focus rfl); simp only [Act.put, List.setIfInBounds_toArray, List.set_cons_succ, List.set_cons_zero]) | ((with_reducible refine Txt.wpTxt_runG ?_ ?_ ?_); (focus rfl); (focus rfl); intro _ _))
    go_ret2
    exact ⟨_, rfl, hS0.drew.row_nil _ _ none⟩
  rw [if_neg hcut]
  refine read_ok b p e k he hp ?_ w0 w L hS
  cases h : p.cut
  · exact .inl rfl
  · right; intro h0; exact hcut ⟨h, List.eq_nil_of_length_eq_zero h0⟩

end Go.Proofs.YtndnojbpapjdoaaDoor
