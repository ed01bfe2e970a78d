/- Package journal walked: a block's bytes. -/
import Derived.Test.YtndnojbpapjdoaaDoorArr
import Derived.Test.YtndnojbpapjdoaaDoorSpc
import Derived.Test.YtndnojbpapjdoaaDoorFldY
import Derived.Test.YtndnojbpapjdoaaDoorShaX
import Derived.Test.YtndnojbpapjdoaaDoorDrum
set_option linter.unusedSimpArgs false
set_option linter.unusedVariables false
set_option linter.unusedSectionVars false
namespace Go.Proofs.YtndnojbpapjdoaaDoor
open Go.Sp Go.RowKit Go.Fld Go.Sha Go.Jr

theorem sz133 (w : World) : (sizeOf 133).run Tryd.prog w = .ok 4 w := by kernel_rfl
theorem agg133 (w : World) : (isAgg 133).run Tryd.prog w = .ok true w := by kernel_rfl
theorem zero133 (w : World) : (zeroValue 133).run Tryd.prog w = .ok (.agg ((List.replicate 4 (0 : UInt8)).map B).toArray) w := by kernel_rfl
/-- A block, as it is handed on. -/
def BlkV (x : Jr.Block) (v : Value) : Value := .agg #[.int .i64 x.kind, .int .i64 x.a, .int .i64 x.b, .int .i64 x.c, v]
def f0 : Value := .float .f64 0
def bcells (x : Jr.Block) : Array Value := #[.int .i64 x.kind, f0, S [], .int .i64 x.a, f0, S [], .int .i64 x.b, f0, S [], .int .i64 x.c, f0, S [], .int .i64 0, f0, S x.bytes]
theorem bcells_at {w0 : World} {L M : List Asn} {b : Nat} {x : Jr.Block} {e : TypeId} {f : Nat × Nat} (s : Split L (Blk b (.cells (bcells x) e f)) M) : CellsAt w0 L (.slice (some ⟨b, 0, none⟩) 5 5) (x.cells.map fun c => (c, f0)) := by
  refine ⟨⟨b, 0, none⟩, 5, rfl, fun w' hS j y hy => ?_⟩
  have hb := cell_blk (hS.split s).at
  simp only [addr_add, hb]
  rcases j with _ | _ | _ | _ | _ | j
  · cases hy; exact ⟨rfl, rfl, rfl⟩
  · cases hy; exact ⟨rfl, rfl, rfl⟩
  · cases hy; exact ⟨rfl, rfl, rfl⟩
  · cases hy; exact ⟨rfl, rfl, rfl⟩
  · cases hy; exact ⟨rfl, rfl, rfl⟩
  · cases hy
theorem map_cells (x : Jr.Block) : (x.cells.map fun c => (c, f0)).map (·.1) = x.cells := rfl
theorem enc_call (x : Jr.Block) (hx : x.ok) (b : Nat) (w0 w : World) (L M : List Asn) (hS : Sat w0 w L) (s : Split L (Blk b (.cells (bcells x) 132)) M) :
    Calls Tryd.prog 78 #[.string ⟨#[98, 119, 119, 119, 116]⟩, .slice (some ⟨b, 0, none⟩) 5 5] w fun r w' => ∃ a k, r = .returned (.tuple #[.slice a x.enc.length k, .nilIface]) ∧ x.enc.length ≤ k ∧ Sat w0 w' (Bytes 5 (.slice a x.enc.length k) x.enc :: L) := by
  have h := encode_fits layout (x.cells.map fun c => (c, f0)) (.slice (some ⟨b, 0, none⟩) 5 5) layout_letters rfl (by decide) (fun k c y hc hy => by
    have hy2 : x.cells[k]? = some y.1 := by
      have := congrArg (Option.map (·.1)) hy
      rw [← List.getElem?_map, map_cells] at this
      exact this
    exact cells_fits hx k c y.1 hc hy2) (fun y hy => by
      have hb := hx.bytes
      simp only [Jr.Block.cells, List.map_cons, List.map_nil, List.mem_cons, List.not_mem_nil, or_false] at hy
      rcases hy with rfl | rfl | rfl | rfl | rfl <;> simp <;> omega) (fun y hy => by
      simp only [Jr.Block.cells, List.map_cons, List.map_nil, List.mem_cons, List.not_mem_nil, or_false] at hy
      rcases hy with rfl | rfl | rfl | rfl | rfl <;> rfl) w0 w L hS (bcells_at s)
  rw [map_cells] at h
  exact h
/-- The check of some bytes of an array. -/
theorem check_arr {b g o n c : Nat} {l x : List UInt8} {e t : TypeId} {f f' : Nat × Nat} {w0 w : World} {L M N : List Asn} (hT : Table w0) (hS : Sat w0 w L) (s : Split L (Blk b (.cells #[.slice (some ⟨g, o, none⟩) n c] e f)) M) (s2 : Split L (Blk g (.cells (l.map B).toArray t f')) N)
    (h1 : o + n ≤ l.length) (h2 : n ≤ c) (h3 : c ≤ 1000) (hx : (l.drop o).take n = x) :
    Calls Tryd.prog 79 #[.slice (some ⟨b, 0, none⟩) 1 1] w fun r w' => r = .returned (.agg ((check x).map B).toArray) ∧ Sat w0 w' L := by
  subst hx
  exact check_any _ _ _ w0 w L hT hS (parts_one s (under_ba s2 h1 h2 (by unfold maxLen; omega))) (by rw [List.length_take]; omega)

set_option maxRecDepth 100000 in
set_option maxHeartbeats 4000000 in
theorem put_ok (x : Jr.Block) (hx : x.ok) (v : Value) (w0 w : World) (L : List Asn) (hT : Table w0) (hS : Sat w0 w L) (hr : Under w0 L v x.bytes) :
    Calls Tryd.prog 70 #[BlkV x v] w fun r w' => r = .returned (.tuple #[.agg (x.put.map B).toArray, .nilIface]) ∧ Sat w0 w' L := by
  have hle := Jr.length_enc x
  have hlb := hx.bytes
  have hlf := length_front hx
  have hlp := Jr.length_put hx
  have hlc := length_check x.front
  have Hs1 := Lib.hid (show splice (List.replicate 64 0) 0 (List.take 64 x.enc) = x.front ++ List.replicate 4 0 by
    rw [List.take_of_length_le (by omega), splice_zero, Jr.Block.front, List.append_assoc, List.drop_replicate, List.replicate_append_replicate]
    congr 2
    omega)
  have Hfr := Lib.hid (show ((x.front ++ List.replicate 4 0).drop 0).take 60 = x.front by simp [hlf])
  have Hs2 := Lib.hid (show splice (x.front ++ List.replicate 4 0) 60 (List.take 4 (check x.front)) = x.put by
    rw [List.take_of_length_le (by omega), splice, List.take_append_of_le_length (by omega), List.take_of_length_le (by omega), List.drop_eq_nil_of_le (by simp; omega), List.append_nil]
    rfl)
  have Hl := Lib.hid hle
  have hlx : (x.front ++ List.replicate 4 0).length = 64 := by simp [hlf]
  have Hlx := Lib.hid hlx
  have Hlp := Lib.hid hlp
  have Hlc := Lib.hid hlc
  have Hlf := Lib.hid hlf
  have hle' : x.enc.length ≤ 60 := by omega
  clear hle hlx
  unfold BlkV
  obtain ⟨a, c, rfl, hc⟩ := hr w hS
  go_enter Tryd.func70, Tryd.ntmps70
  go_wp2_with (first | ((first | ((with_reducible refine wpList_plain ?_ ?_); (focus rfl); intro K hK) | ((with_reducible refine Txt.wpTxt_plain ?_ ?_ ?_); (focus rfl); (focus rfl); intro K hK)); (with_reducible refine' wp_string ?_ ?_ ?_ ?_ ?_ ?_); rotate_left 3; (focus (conv => lhs; whnf)); (focus ((exact hr _ hS.drop.drop.drop))); (focus ((simp; rfl))); (focus ((simp; done))); (focus ((simp; done))); (refine hK _ _ ?_; clear hK K)) | (go_at_call 78; ((with_reducible refine' (enc_call x hx _ w0 _ _ _ hS ?sa1x80).mono ?sa2x80); (case sa1x80 => ((repeat (with_reducible exact Split.here)); done)); (case' sa2x80 => (rintro r4 w4 ⟨a4, k4, rfl, hk4, hS1⟩; (clear hS; have hS := hS1; clear hS1))))) | (go_at_call 79; ((with_reducible refine' (check_arr hT hS ?sb1x81 ?sb3x81 ?sb4x81 ?sb5x81 ?sb6x81 Hfr.out).mono ?sb2x81); (case sb1x81 => ((repeat (with_reducible exact Split.here)); done)); (case sb3x81 => ((repeat (first | with_reducible exact Split.here | with_reducible apply Split.there)); done)); (case sb4x81 => (have := Hlx.out; omega)); (case sb5x81 => omega); (case sb6x81 => omega); (case' sb2x81 => (rintro r4 w4 ⟨rfl, hS1⟩; (clear hS; have hS := hS1; clear hS1))))) | ((with_reducible refine Txt.wp_region_text ?_ ?_ ?_); (focus kernel_rfl); (focus decide +kernel); intro Q' hQ'; have hS1 := hS.drew; clear hS; have hS := hS1; clear hS1) | (with_reducible refine Txt.wpTxt_nil ?_) | ((first | ((with_reducible refine wpList_plain ?_ ?_); (focus rfl); intro K hK) | ((with_reducible refine Txt.wpTxt_plain ?_ ?_ ?_); (focus rfl); (focus rfl); intro K hK)); first | ((with_reducible refine' wp_slice_lit (t := 137) (cs := bcells x) hS ?_ ?_ ?_ ?_ ?_ ?_ ?_ ?_); rotate_left 4; (focus (intro _; (simp; rfl))); (focus (intro _; (simp; rfl))); (focus (intro _; (simp; rfl))); (focus decide); (focus decide); (focus rfl); (focus (kernel_rfl)); intro w' b'; clear hS; intro hS; (refine hK _ _ ?_; clear hK K)) | (((with_reducible refine' wp_copy_bytes hS ?_ ?_ ?_ ?_ ?_ ?_ ?_ ?_); rotate_left 10; (focus rfl); (focus ((repeat (first | with_reducible exact Split.here | with_reducible apply Split.there)); done)); (focus rfl); (focus (first | (((refine' reads_own_take hS ?_ ?_); rotate_left 4; (focus ((repeat (first | with_reducible exact Split.here | with_reducible apply Split.there)); done)); (focus omega))) | exact reads_ba0 hS (by ((repeat (with_reducible exact Split.here)); done)) hlc (by omega) (by unfold maxLen; omega))); (focus rfl); (focus kernel_rfl); (focus (first | (simp; done) | (simp; omega))); intro w'; clear hS; intro hS; (refine hK _ _ ?_; clear hK K)); (try rw [List.take_length] at hS); (try rw [Hs1.out] at hS); (try rw [Hs2.out] at hS)) | ((with_reducible refine' wp_alloc_ba hS ?_ ?_); rotate_left 1; (focus (first | exact zero117 | exact zero133)); intro w' b'; clear hS; intro hS; (refine hK _ _ ?_; clear hK K)) | ((with_reducible refine' wp_load_ba hS ?_ ?_ ?_ ?_ ?_ ?_); rotate_left 6; (focus rfl); (focus ((repeat (first | with_reducible exact Split.here | with_reducible apply Split.there)); done)); (focus (exact agg117)); (focus (exact sz117)); (focus (omega)); (refine hK _ _ ?_; clear hK K)) | ((with_reducible refine' wp_store_ba hS ?_ ?_ ?_ ?_ ?_ ?_ ?_); rotate_left 6; (focus rfl); (focus ((repeat (first | with_reducible exact Split.here | with_reducible apply Split.there)); done)); (focus rfl); (focus (first | exact sz117 | exact sz133)); (focus (omega)); (focus ((simp; done))); intro w'; clear hS; intro hS; (refine hK _ _ ?_; clear hK K)) | ((with_reducible refine' wp_load hS ?_ ?_ ?_ ?_ ?_); rotate_left 7; (focus rfl); (focus ((repeat (first | with_reducible exact Split.here | with_reducible apply Split.there)); done)); (focus (((simp only [List.getElem?_toArray, List.getElem?_cons_zero, List.getElem?_cons_succ]); rfl))); (focus (intro _; (simp; done))); (refine hK _ _ ?_; clear hK K)) | ((with_reducible refine' wp_box hS ?_ ?_); rotate_left 1; (focus (conv => lhs; whnf)); intro w' b'; clear hS; intro hS; (try simp only [Value.cells] at hS); (refine hK _ _ ?_; clear hK K)) | ((with_reducible refine' wp_arr_sl ?_ ?_ ?_ ?_ ?_); rotate_left 5; (focus (intro _; (simp; exact ⟨rfl, rfl⟩))); (focus (intro _; (simp; rfl))); (focus rfl); (focus (omega)); (refine hK _ _ ?_; clear hK K)) | ((with_reducible refine' wp_arr_hi ?_ ?_ ?_ ?_ ?_ ?_ ?_ ?_ ?_); rotate_left 8; (focus (intro _; (simp; exact ⟨rfl, rfl⟩))); (focus (intro _; (simp; rfl))); (focus rfl); (focus rfl); (focus (omega)); (focus (((simp only [Int.toNat_natCast, Int.reduceToNat, Nat.mul_one, Nat.zero_add, Nat.add_zero, Nat.reduceMul, Nat.reduceAdd, Nat.reduceSub]); rfl))); (focus (omega)); (focus (omega)); (refine hK _ _ ?_; clear hK K)) | ((with_reducible refine' wp_arr_lo ?_ ?_ ?_ ?_ ?_ ?_ ?_ ?_ ?_ ?_); rotate_left 10; (focus (intro _; (simp; exact ⟨rfl, rfl⟩))); (focus (intro _; (simp; rfl))); (focus rfl); (focus rfl); (focus (omega)); (focus (((simp only [Int.toNat_natCast, Int.reduceToNat, Nat.mul_one, Nat.zero_add, Nat.add_zero, Nat.reduceMul, Nat.reduceAdd, Nat.reduceSub]); rfl))); (focus (omega)); (focus (((simp only [Int.toNat_natCast, Int.reduceToNat, Nat.mul_one, Nat.zero_add, Nat.add_zero, Nat.reduceMul, Nat.reduceAdd, Nat.reduceSub]); rfl))); (focus (((simp only [Int.toNat_natCast, Int.reduceToNat, Nat.mul_one, Nat.zero_add, Nat.add_zero, Nat.reduceMul, Nat.reduceAdd, Nat.reduceSub]); rfl))); (refine hK _ _ ?_; clear hK K)) | ((with_reducible refine' wp_lit1 hS ?_ ?_ ?_ ?_ ?_ ?_); rotate_left 3; (focus (intro _; (simp; rfl))); (focus (intro _; (simp; done))); (focus (intro _; (simp; rfl))); (focus (conv => lhs; whnf)); (focus rfl); intro w' b'; clear hS; intro hS; (refine hK _ _ ?_; clear hK K))))
  refine bodyPost_ret (results_c1 rfl _ _ _ _ ((x.put.map B).toArray) (0, 0) _ rfl hS.at Tryd.underlying117 rfl (by simp only [List.size_toArray, List.length_map, hlp]; kernel_rfl)) rfl ⟨rfl, by (refine Sat.ent hS ?_; repeat (first | (with_reducible exact Ent.refl _) | (with_reducible apply Ent.skip)))⟩
end Go.Proofs.YtndnojbpapjdoaaDoor
