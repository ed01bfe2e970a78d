/- What the calls of package sock make of a pair in memory, more. -/
import Derived.Test.YtndnojbpapjdoaaDoorSock
namespace Go.Proofs.YtndnojbpapjdoaaDoor
open Go.Sp Go.RowKit

set_option maxRecDepth 100000 in
set_option maxHeartbeats 2000000 in
theorem clone_any (v : Value) (l : List UInt8) (w0 w : World) (L : List Asn) (hr : Reads w v l) (hlen : l.length ≤ 70368744177664) (hS : Sat w0 w L) :
    Calls Tryd.prog 52 #[v] w fun r w' => ∃ v', r = .returned v' ∧ Sat w0 w' (Bytes 5 v' l :: L) := by
  obtain ⟨a, c, rfl, h1, h2, h3, h4⟩ := id hr
  cases a with
  | none =>
    obtain rfl := h3 rfl
    clear h4
    have h5 : ∀ ww, (binOp .eql 22 (.slice none 0 c) (.slice none 0 0)).run Tryd.prog ww = .ok (.bool true) ww := fun _ => by kernel_rfl
    go_enter Tryd.func52, Tryd.ntmps52
    go_wp2
    go_ret
    exact ⟨_, rfl, hS.row_nil _ _ none⟩
  | some ad =>
    clear h3 h4
    have h5 : ∀ ww, (binOp .eql 22 (.slice (some ad) l.length c) (.slice none 0 0)).run Tryd.prog ww = .ok (.bool false) ww := fun _ => by kernel_rfl
    have hSn := ((hS.alloc (.cells #[] 5)).row (e := 5) (k := 1) (n := 0) (cs := []) (cap := 0) (off := 0) rfl (Nat.le_refl 0) (by unfold maxLen; omega) (by simp) (fun j u hu => by simp at hu))
    have hrn : Reads (w.alloc (.cells #[] 5)) (.slice (some ad) l.length c) l := hr.sat_alloc _
    go_enter Tryd.func52, Tryd.ntmps52
    go_wp2_with (first | ((with_reducible refine wpList_plain ?_ ?_); (focus rfl); intro K hK; (with_reducible apply wp_append_row sl22); (focus exact hSn); (focus rfl); (focus rfl); (focus refine Src.reads Tryd.underlying22 hrn ?_ _ _ ?_; (focus rfl); omega); (focus (unfold maxLen; omega)); (focus omega); intro v' w' hS2; refine hK _ _ ?_))
    go_ret
    refine ⟨_, rfl, ?_⟩
    have := hS2
    simp only [Nat.zero_add, List.nil_append, List.take_length] at this
    exact this


/-- The error of a number, as package api holds it. -/
abbrev er (E : Nat → Addr) (k : Nat) : Value := .iface 182 (.pointer (some (E k)))
structure SockErrs (E : Nat → Addr) (w0 : World) : Prop where
  range : w0.cell? ⟨1, 0, none⟩ = some (er E 1)
  broken : w0.cell? ⟨0, 0, none⟩ = some (er E 5)
  state : w0.cell? ⟨6, 0, none⟩ = some (er E 17)
theorem old_cell {w0 w : World} {L : List Asn} (h : Sat w0 w L) {p : Addr} {v : Value} (hc : w0.cell? p = some v) : w.cell? p = some v := (h.cell (block_lt_of_cell hc)).trans hc

set_option maxRecDepth 100000 in
set_option maxHeartbeats 2000000 in
theorem carry_ok (b : Nat) (p : Sock.Pair) (e : Int) (n : Nat) (he : e = 0 ∨ e = 1) (hp : p.ok) (hcut : p.cut = false) (w0 w : World) (L : List Asn) (hS : Sat w0 w (isPair b p :: L)) :
    Calls Tryd.prog 16 #[.pointer (some ⟨b, 0, none⟩), .int .i64 e, .int .i64 n] w fun r w' =>
      r = .returned (.tuple #[.int .i64 (min n (p.way e).fl.length : Nat), .nilIface]) ∧ Sat w0 w' (isPair b (p.carry e (min n (p.way e).fl.length)) :: L) := by
  obtain ⟨cs, f, i, M, hat, hS, back⟩ := isPair_at hS e he
  have hway := Sock.Pair.way_le hp e
  have hroom := hp.2.2
  obtain ⟨a0, c0, rfl, hj1, hk1, hk2⟩ := hS.row_len
  obtain ⟨a1, c1, rfl, hj2, hk3, hk4⟩ := (hS.pick 1).row_len
  clear hj1 hj2
  have hb0 := cell_blk (hS.nth 2 rfl)
  have hf0 := free_blk (hS.nth 2 rfl)
  have hc0 := (hb0 0).trans hat.room
  have hc1 := (hb0 9).trans hat.cut
  have hc2 := (hb0 _).trans hat.fl
  have hc3 := (hb0 _).trans hat.inb
  have hc4 := (hb0 _).trans hat.shut
  have hc5 := (hb0 _).trans hat.ended
  unfold maxLen at hk2 hk4
  have hat' := Lib.hid hat
  clear hat hb0
  rw [hcut] at hc1
  obtain ⟨m, hm⟩ : ∃ m, m = min n (p.way e).fl.length := ⟨_, rfl⟩
  rw [← hm]
  have hm1 : m ≤ (p.way e).fl.length := by omega
  have fin : ∀ (w' : World) (v' v2 : Value), Sat w0 w' (Bytes 5 v2 ((p.way e).fl.drop m) :: Row 5 1 v' ((p.way e).inb.length + m) ((p.way e).inb.map B ++ ((p.way e).fl.take m).map B) :: Blk b (.cells ((cs.setIfInBounds (off e + 1) v').setIfInBounds (off e) v2) 88) :: M) → Sat w0 w' (isPair b (p.carry e m) :: L) := by
    intro w' v' v2 hs
    refine Sat.ent ?_ (back v2 v' ((p.way e).carry m))
    simp only [Sock.Way.carry]
    rw [Array.setIfInBounds_comm (i := off e + 1) (j := off e) _ _ (by omega)] at hs
    have hcs : ∀ j, j ≠ off e → j ≠ off e + 1 → ((cs.setIfInBounds (off e) v2).setIfInBounds (off e + 1) v')[j]? = cs[j]? := fun j hj hj' => by rw [Array.getElem?_setIfInBounds_ne (Ne.symm hj'), Array.getElem?_setIfInBounds_ne (Ne.symm hj)]
    rw [set_same (i := off e + 2) ((hcs _ (by omega) (by omega)).trans hat'.out.shut), set_same (i := off e + 3) ((hcs _ (by omega) (by omega)).trans hat'.out.ended)]
    unfold Bytes at *
    simp only [List.length_append, List.length_take, List.map_append, Nat.min_eq_left hm1]
    exact hs
  have hS1 := hS.pick 1
  have hr := hS.bytes_reads
  have hcase : m = n ∧ ¬ (p.way e).fl.length < n ∨ m = (p.way e).fl.length ∧ (p.way e).fl.length < n := by omega
  clear hm
  rcases hcase with ⟨rfl, hlt⟩ | ⟨rfl, hlt⟩
  all_goals
    go_enter Tryd.func16, Tryd.ntmps16
    go_wp2_with (first | (go_at_call 49; refine (known_yes _ he _).mono ?_; rintro r w' ⟨rfl, rfl⟩) | (go_at_call 50; refine (from_any _ _ he _).mono ?_; rintro r w' ⟨rfl, rfl⟩) | (with_reducible refine Txt.wp_region_text (by kernel_rfl) (by kernel_rfl) ?_; intro Q' hQ') | (with_reducible refine Txt.wpTxt_nil ?_) | ((with_reducible refine Txt.wpTxt_plain ?_ ?_ ?_); (focus rfl); (focus rfl); intro K hK; (with_reducible apply wp_append_row sl22); (focus exact hS1.drew); (focus rfl); (focus rfl); (focus refine Src.reads Tryd.underlying22 hr ?_ _ _ ?_; (focus rfl); omega); (focus (unfold maxLen; omega)); (focus omega); intro v' w' hS2; refine hK _ _ ?_; have hS3 := ((hS2.pick 2).store (off e + 1) v').pick 2; obtain ⟨a5, c5, rfl, _⟩ := hS2.row_len; have hd5 := (cell_blk (hS2.nth 2 rfl) _).trans hat'.out.inb; have hd6 := (cell_blk (hS2.nth 2 rfl) _).trans hat'.out.fl; have hf2 := free_blk (hS2.nth 2 rfl)) | ((with_reducible refine wpList_plain ?_ ?_); (focus rfl); intro K hK; (with_reducible apply wp_slice_lo sl22); go_must ((focus rfl); (focus rfl); (focus omega); intro a6 n6 c6 hsub; refine hK _ _ ?_)) | (go_at_call 52; go_must (refine (clone_any _ ((p.way e).fl.drop _) _ _ _ (Reads.sub (Sat.bytes_reads hS3) hsub ?_) ?_ hS3).mono ?_; (focus omega); (focus (rw [List.length_drop]; omega)); rintro r w2 ⟨v2, rfl, hS4⟩; obtain ⟨a7, n7, c7, rfl, hn7⟩ := hS4.row_val; have hd7 := (cell_blk (hS4.nth 2 rfl) (off e)).trans ((Array.getElem?_setIfInBounds_ne (by omega)).trans hat'.out.fl); have hf3 := free_blk (hS4.nth 2 rfl))) | ((with_reducible refine Txt.wpTxt_plain ?_ ?_ ?_); (focus with_reducible rfl); (focus rfl); intro _ _) | ((with_reducible refine Txt.wpTxt_skipG ?_ ?_); (focus rfl); simp only [Act.put, List.setIfInBounds_toArray, List.set_cons_succ, List.set_cons_zero]) | ((with_reducible refine Txt.wpTxt_runG ?_ ?_ ?_); (focus rfl); (focus rfl); intro _ _))
    go_ret2
    refine ⟨rfl, fin _ _ _ ((((hS4.pick 1).drop.pick 1).store (off e) _).pick 2 |>.pick 2)⟩

end Go.Proofs.YtndnojbpapjdoaaDoor
