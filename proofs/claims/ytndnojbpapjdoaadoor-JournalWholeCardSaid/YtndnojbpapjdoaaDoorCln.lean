/- slices.Clone walked. -/
import Derived.Test.YtndnojbpapjdoaaDoorPg
set_option linter.unusedSimpArgs false
set_option linter.unusedVariables false
set_option linter.unusedSectionVars false
namespace Go.Proofs.YtndnojbpapjdoaaDoor
open Go.Sp Go.RowKit

set_option maxRecDepth 100000 in
set_option maxHeartbeats 2000000 in
theorem clone0 (v : Value) (l : List UInt8) (w0 w : World) (L : List Asn) (hr : Reads w v l) (hlen : l.length ≤ 70368744177664) (hS : Sat w0 w L) :
    Calls Tryd.prog 52 #[v] w fun r w' => ∃ v', r = .returned v' ∧ Sat w0 w' (Bytes 5 v' l :: L) := by
  obtain ⟨a, c, rfl, h1, h2, h3, h4⟩ := id hr
  cases a with
  | none =>
    obtain rfl := h3 rfl
    clear h4
    have h5 : ∀ ww, (binOp .eql 22 (.slice none 0 c) (.slice none 0 0)).run Tryd.prog ww = .ok (.bool true) ww := fun _ => by kernel_rfl
    go_enter Tryd.func52, Tryd.ntmps52
    go_wp2
    go_ret
    exact ⟨_, rfl, hS.row_nil _ _ none⟩
  | some ad =>
    clear h3 h4
    have h5 : ∀ ww, (binOp .eql 22 (.slice (some ad) l.length c) (.slice none 0 0)).run Tryd.prog ww = .ok (.bool false) ww := fun _ => by kernel_rfl
    have hSn := ((hS.alloc (.cells #[] 5)).row (e := 5) (k := 1) (n := 0) (cs := []) (cap := 0) (off := 0) rfl (Nat.le_refl 0) (by unfold maxLen; omega) (by simp) (fun j u hu => by simp at hu))
    have hrn : Reads (w.alloc (.cells #[] 5)) (.slice (some ad) l.length c) l := hr.sat_alloc _
    go_enter Tryd.func52, Tryd.ntmps52
    go_wp2_with (((with_reducible refine wpList_plain ?_ ?_); (focus rfl); intro K hK; (with_reducible apply wp_append_row sl22); (focus exact hSn); (focus rfl); (focus rfl); (focus refine Src.reads Tryd.underlying22 hrn ?_ _ _ ?_; (focus rfl); omega); (focus (unfold maxLen; omega)); (focus omega); intro v' w' hS2; refine hK _ _ ?_))
    go_ret
    refine ⟨_, rfl, ?_⟩
    have := hS2
    simp only [Nat.zero_add, List.nil_append, List.take_length] at this
    exact this
/-- The bytes in a slice of their own. -/
theorem clone_b (v : Value) (l : List UInt8) (w0 w : World) (L : List Asn) (hS : Sat w0 w L) (hr : Under w0 L v l) (hlen : l.length ≤ 70368744177664) :
    Calls Tryd.prog 52 #[v] w fun r w' => ∃ a c, r = .returned (.slice a l.length c) ∧ Sat w0 w' (Bytes 5 (.slice a l.length c) l :: L) :=
  (clone0 v l w0 w L (hr w hS) hlen hS).mono fun r w' ⟨v', h1, h2⟩ => by
    obtain ⟨a, c, rfl, _⟩ := h2.row_len
    exact ⟨a, c, h1, h2⟩
end Go.Proofs.YtndnojbpapjdoaaDoor
