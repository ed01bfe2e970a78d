/- What the calls of package sock make of a pair in memory, the rest. -/
import Derived.Test.YtndnojbpapjdoaaDoorSockB
namespace Go.Proofs.YtndnojbpapjdoaaDoor
open Go.Sp Go.RowKit

theorem other {e : Int} (he : e = 0 ∨ e = 1) : 1 - e = 0 ∨ 1 - e = 1 := by omega

set_option maxRecDepth 100000 in
set_option maxHeartbeats 2000000 in
theorem read_ok (b : Nat) (p : Sock.Pair) (e : Int) (n : Nat) (he : e = 0 ∨ e = 1) (hp : p.ok) (hcut : p.cut = false ∨ (p.way (1 - e)).inb.length ≠ 0) (w0 w : World) (L : List Asn) (hS : Sat w0 w (isPair b p :: L)) :
    Calls Tryd.prog 18 #[.pointer (some ⟨b, 0, none⟩), .int .i64 e, .int .i64 n] w fun r w' =>
      ∃ v, r = .returned (.tuple #[v, .nilIface]) ∧ Sat w0 w' (Bytes 5 v ((p.way (1 - e)).inb.take (min n (p.way (1 - e)).inb.length)) :: isPair b (p.read e (min n (p.way (1 - e)).inb.length)) :: L) := by
  have ho := other he
  obtain ⟨cs, f, i, M, hat, hS, back⟩ := isPair_at hS (1 - e) ho
  have hway := Sock.Pair.way_le hp (1 - e)
  have hroom := hp.2.2
  obtain ⟨a0, c0, rfl, hj1, hk1, hk2⟩ := hS.row_len
  obtain ⟨a1, c1, rfl, hj2, hk3, hk4⟩ := (hS.pick 1).row_len
  clear hj1 hj2
  have hb0 := cell_blk (hS.nth 2 rfl)
  have hf0 := free_blk (hS.nth 2 rfl)
  have hc0 := (hb0 0).trans hat.room
  have hc1 := (hb0 9).trans hat.cut
  have hc2 := (hb0 _).trans hat.fl
  have hc3 := (hb0 _).trans hat.inb
  have hc4 := (hb0 _).trans hat.shut
  have hc5 := (hb0 _).trans hat.ended
  unfold maxLen at hk2 hk4
  have hat' := Lib.hid hat
  clear hat hb0
  obtain ⟨m, hm⟩ : ∃ m, m = min n (p.way (1 - e)).inb.length := ⟨_, rfl⟩
  rw [← hm]
  have hm1 : m ≤ (p.way (1 - e)).inb.length := by omega
  have fin : ∀ (w' : World) (v v2 : Value), Sat w0 w' (Bytes 5 v ((p.way (1 - e)).inb.take m) :: Bytes 5 (.slice a0 (p.way (1 - e)).fl.length c0) (p.way (1 - e)).fl :: Bytes 5 v2 ((p.way (1 - e)).inb.drop m) :: Blk b (.cells (cs.setIfInBounds (off (1 - e) + 1) v2) 88) :: M) → Sat w0 w' (Bytes 5 v ((p.way (1 - e)).inb.take m) :: isPair b (p.read e m) :: L) := by
    intro w' v v2 hs
    refine hs.ent (Ent.cons ?_)
    refine Ent.trans ?_ (back (.slice a0 (p.way (1 - e)).fl.length c0) v2 { p.way (1 - e) with inb := (p.way (1 - e)).inb.drop m })
    have hcs : ∀ j, j ≠ off (1 - e) + 1 → (cs.setIfInBounds (off (1 - e) + 1) v2)[j]? = cs[j]? := fun j hj => by rw [Array.getElem?_setIfInBounds_ne (Ne.symm hj)]
    rw [set_same (i := off (1 - e)) hat'.out.fl, set_same (i := off (1 - e) + 2) ((hcs _ (by omega)).trans hat'.out.shut), set_same (i := off (1 - e) + 3) ((hcs _ (by omega)).trans hat'.out.ended)]
    exact Ent.refl _
  have hr := (hS.pick 1).bytes_reads
  have hcase : m = n ∧ ¬ (p.way (1 - e)).inb.length < n ∨ m = (p.way (1 - e)).inb.length ∧ (p.way (1 - e)).inb.length < n := by omega
  have hz : (((p.way (1 - e)).inb.length : Int) == 0) = false ∨ p.cut = false := by
    rcases hcut with h | h
    · exact .inr h
    · left; simpa using h
  clear hm hcut
  have hcut2 : (p.cut = true ∧ (((p.way (1 - e)).inb.length : Int) == 0) = false) ∨ p.cut = false := by
    cases h : p.cut <;> simp_all
  clear hz
  rcases hcut2 with ⟨hcut, hz⟩ | hcut
  all_goals rw [hcut] at hc1
  all_goals rcases hcase with ⟨rfl, hlt⟩ | ⟨rfl, hlt⟩
  all_goals
    go_enter Tryd.func18, Tryd.ntmps18
    go_wp2_with (first | (go_at_call 49; refine (known_yes _ he _).mono ?_; rintro r w' ⟨rfl, rfl⟩) | (go_at_call 53; refine (to_any _ _ he _).mono ?_; rintro r w' ⟨rfl, rfl⟩) | (with_reducible refine Txt.wp_region_text (by kernel_rfl) (by kernel_rfl) ?_; intro Q' hQ') | (with_reducible refine Txt.wpTxt_nil ?_) | ((with_reducible refine wpList_plain ?_ ?_); (focus rfl); intro K hK; (with_reducible apply wp_slice_lo sl22); go_must ((focus rfl); (focus rfl); (focus omega); intro a6 n6 c6 hsub; refine hK _ _ ?_)) | (go_at_call 52; refine (clone_any _ ((p.way (1 - e)).inb.drop _) _ _ _ (Reads.sub ((hS1.pick 2).bytes_reads) hsub ?_) ?_ hS1).mono ?_; (focus omega); (focus (rw [List.length_drop]; omega)); rintro r w2 ⟨v2, rfl, hS2⟩; obtain ⟨a7, n7, c7, rfl, hn7⟩ := hS2.row_val; have hd7 := (cell_blk (hS2.nth 4 rfl) _).trans hat'.out.inb; have hf7 := free_blk (hS2.nth 4 rfl)) | (go_at_call 52; refine (clone_any _ _ _ _ _ (Reads.take hr ?_) ?_ hS).mono ?_; (focus omega); (focus (rw [List.length_take]; omega)); rintro r w1 ⟨v1, rfl, hS1⟩; have hd1 := (cell_blk (hS1.nth 3 rfl) _).trans hat'.out.inb) | ((with_reducible refine Txt.wpTxt_plain ?_ ?_ ?_); (focus with_reducible rfl); (focus rfl); intro _ _) | ((with_reducible refine Txt.wpTxt_skipG ?_ ?_); (focus rfl); simp only [Act.put, List.setIfInBounds_toArray, List.set_cons_succ, List.set_cons_zero]) | ((with_reducible refine Txt.wpTxt_runG ?_ ?_ ?_); (focus rfl); (focus rfl); intro _ _))
    go_ret2
    refine ⟨_, rfl, fin _ _ _ (((((((hS2.pick 3).drop).pick 3).store (off (1 - e) + 1) _).pick 1).pick 3).pick 3)⟩

end Go.Proofs.YtndnojbpapjdoaaDoor
