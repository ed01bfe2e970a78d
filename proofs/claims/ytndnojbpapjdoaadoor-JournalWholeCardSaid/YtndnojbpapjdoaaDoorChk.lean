/- slices.Chunk walked: pieces of 46 bytes. -/
import Derived.Test.YtndnojbpapjdoaaDoorRng
import Derived.Test.YtndnojbpapjdoaaDoorPg
import Derived.RangeFuncNested
import Derived.RangeFuncBound
import Derived.Shelf.Abstract
import Derived.Shelf.RegionOpen
import Derived.OwnWalkIn
import Derived.TacticsInMore
import Derived.LoopNIn
import Derived.LoopIn
set_option linter.unusedSimpArgs false
set_option linter.unusedVariables false
set_option linter.unusedSectionVars false
namespace Go.Proofs.YtndnojbpapjdoaaDoor
open Go.Sp Go.RowKit

/-- The i-th piece of n bytes at o. -/
def chunkV (g o n i : Nat) : Value := .slice (some ⟨g, o + 46 * i, none⟩) (min 46 (n - 46 * i)) (min 46 (n - 46 * i))
def chunkFn (bs bn : Nat) : Value := .func (.func 83) #[] #[.pointer (some ⟨bs, 0, none⟩), .pointer (some ⟨bn, 0, none⟩)]
theorem chunk_any (a : Option Addr) (n c : Nat) (w0 w : World) (L : List Asn) (hS : Sat w0 w L) :
    Calls Tryd.prog 73 #[.slice a n c, .int .i64 46] w fun r w' => ∃ bs bn, r = .returned (chunkFn bs bn) ∧ Sat w0 w' (Blk bs (.cells #[.slice a n c] 22) :: Blk bn (.cells #[.int .i64 46] 3) :: L) := by
  go_enter Tryd.func73, Tryd.ntmps73
  go_wp2_with (((((with_reducible refine wpList_plain ?_ ?_); (focus rfl); intro K hK)); first | ((with_reducible refine' wp_load hS ?_ ?_ ?_ ?_ ?_); rotate_left 7; (focus rfl); (focus ((repeat (with_reducible exact Split.here)); done)); (focus (((simp only [List.getElem?_toArray, List.getElem?_cons_zero, List.getElem?_cons_succ]); rfl))); (focus (intro _; (simp; done))); (refine hK _ _ ?_; clear hK K)) | ((with_reducible refine' wp_box hS ?_ ?_); rotate_left 1; (focus (conv => lhs; whnf)); intro w' b'; clear hS; intro hS; (try simp only [Value.cells] at hS); (refine hK _ _ ?_; clear hK K))))
  go_ret
  exact ⟨_, _, rfl, by (refine Sat.ent hS ?_; repeat (first | (with_reducible exact Ent.refl _) | ((with_reducible apply Ent.pull); (focus ((repeat (first | with_reducible exact Split.here | with_reducible apply Split.there)); done)))))⟩
theorem range_split {k m : Nat} (h : k < m) : List.range m = List.range k ++ k :: (List.range m).drop (k + 1) := by
  have h1 := (List.take_append_drop k (List.range m)).symm
  rw [List.drop_eq_getElem_cons (by simpa using h), List.take_range, Nat.min_eq_left (by omega), List.getElem_range] at h1
  exact h1
set_option maxRecDepth 100000 in
set_option maxHeartbeats 4000000 in
theorem chunk_seq (bs bn g o n c : Nat) (hn : n ≤ 100000) (hc : n ≤ c) (hc2 : c ≤ maxLen) :
    SeqJ Tryd.prog 83 #[.pointer (some ⟨bs, 0, none⟩), .pointer (some ⟨bn, 0, none⟩)] (fun i : Nat => #[chunkV g o n i]) (List.range ((n + 45) / 46)) (fun W => W.cell? ⟨bs, 0, none⟩ = some (.slice (some ⟨g, o, none⟩) n c) ∧ W.cell? ⟨bn, 0, none⟩ = some (.int .i64 46)) := by
  intro m l J Jx W hR hD hY h0
  refine callsIn_of_wp Tryd.func83 rfl trivial ?_ rfl
  simp only [Tryd.ntmps83, List.size_toArray, List.length_cons, List.length_nil, Nat.reduceAdd, Nat.reduceSub, Array.replicate_succ, Array.replicate_zero, List.push_toArray, List.append_toArray, List.nil_append, List.cons_append]
  gi_wp2
  gi_loopw [4] (fun iv wr => ∃ k : Nat, 46 * k < n + 46 ∧ iv = .int .i64 ((46 * k : Nat) : Int) ∧ J (List.range k) wr) (fun iv _ => n + 46 - (intOf iv).toNat)
  case atStart => exact ⟨0, by omega, rfl, h0⟩
  case round =>
    obtain ⟨k, hk, rfl, hJ⟩ := hrel
    obtain ⟨hs, hb⟩ := hR _ _ hJ
    by_cases hlt : 46 * k < n
    case neg =>
      have hlt' : (n : Int) ≤ ((46 * k : Nat) : Int) := by omega
      gi_wp2
      obtain rfl : k = (n + 45) / 46 := by omega
      go_end0
      exact ⟨⟨_, rfl⟩, .inl hJ⟩
    case pos =>
      have hlt' : 46 * (k : Int) < (n : Int) := by omega
      have hn' : (n : Int) ≤ 100000 := by omega
      have hJ1 := hD _ _ hJ
      obtain ⟨fn, tmps, assign, body, hy, hRd⟩ := hY (List.range k) k ((List.range ((n + 45) / 46)).drop (k + 1)) wr.drew (range_split (by omega)) hJ1
      unfold chunkV at hy
      have hs2 : wr.drew.cell? ⟨bs, 0, none⟩ = some (.slice (some ⟨g, o, none⟩) n c) := hs
      have hb2 : wr.drew.cell? ⟨bn, 0, none⟩ = some (.int .i64 46) := hb
      gi_wp2
      ((with_reducible refine region_text_wide ?_ ?_ ?_ ?_); (focus kernel_rfl); (focus kernel_rfl); (focus decide +kernel); intro Q' hQ')
      go_wp2_with (first | ((((with_reducible refine Txt.wpTxt_plain ?_ ?_ ?_); (focus rfl); (focus rfl); intro K hK)); (with_reducible refine' wp_load_known ?_ ?_ ?_ ?_); rotate_left 2; (focus rfl); (focus (with_reducible assumption)); (focus (intro _; (simp; done))); (refine hK _ _ ?_; clear hK K)) | ((with_reducible refine Txt.wpTxt_plain ?_ ?_ ?_); (focus with_reducible rfl); (focus rfl); intro _ _))
      (((with_reducible refine Txt.wpTxt_plain ?_ ?_ ?_); (focus rfl); (focus (simp only [Txt.dyn, List.all_toArray, List.all_cons, List.all_nil]; rfl)); intro K hK); (with_reducible refine' wp_imin (m := ((min 46 (n - 46 * k) : Nat) : Int)) ?_ ?_ ?_ ?_); rotate_left 2; (focus (conv => lhs; whnf)); (focus (conv => lhs; whnf)); (focus (omega)); (refine hK _ _ ?_; clear hK K))
      go_wp2_with (first | (with_reducible refine Txt.wpTxt_nil ?_) | ((with_reducible refine Txt.wpTxt_plain ?_ ?_ ?_); (focus with_reducible rfl); (focus rfl); intro _ _))
      gi_wp2
      refine ⟨fun h => (by cases h), hRd.mono ?_⟩
      rintro e W3 (⟨rfl, hJ3⟩ | ⟨rfl, hJx3⟩)
      · have hJ4 : J (List.range (k + 1)) W3 := by rw [List.range_succ]; exact hJ3
        obtain ⟨hs3, hb3⟩ := hR _ _ hJ3
        gi_wp2
        go_roundw
        case rel => exact ⟨k + 1, by omega, by go_num, hJ4⟩
        case measure => simp [intOf]; omega
      · gi_wp2
        refine bodyPost_ret (results_none rfl _ _ _) rfl ?_
        exact ⟨⟨_, rfl⟩, .inr ⟨_, hJx3⟩⟩
end Go.Proofs.YtndnojbpapjdoaaDoor
