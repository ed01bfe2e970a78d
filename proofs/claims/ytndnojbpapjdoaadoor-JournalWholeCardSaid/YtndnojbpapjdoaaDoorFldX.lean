/- Package fields walked: what is got out of bytes. -/
import Derived.Test.YtndnojbpapjdoaaDoorFldW
set_option linter.unusedSimpArgs false
set_option linter.unusedVariables false
set_option linter.unusedSectionVars false
namespace Go.Proofs.YtndnojbpapjdoaaDoor
open Go.Sp Go.RowKit Go.Fld

theorem num_snoc (l : List UInt8) (b : UInt8) : num (l ++ [b]) = num l * 256 + b.toNat := by simp [num]
theorem num_lt (l : List UInt8) : num l < 256 ^ l.length := by
  generalize hk : l.length = k
  induction k generalizing l with
  | zero => rw [List.eq_nil_of_length_eq_zero hk]; decide
  | succ k ih =>
    have hne : l ≠ [] := by intro h; rw [h] at hk; cases hk
    have h1 := List.dropLast_concat_getLast hne
    rw [← h1, num_snoc]
    have h2 := ih l.dropLast (by simp [hk])
    have h3 := lt8 (l.getLast hne)
    rw [Nat.pow_succ]
    omega
theorem shl_or (x : UInt64) (b : UInt8) (h : x.toNat < 72057594037927936) : ((x <<< UInt64.ofNat (8 : Int).toNat) ||| b.toUInt64).toNat = x.toNat * 256 + b.toNat := by
  have h1 : (x <<< UInt64.ofNat (8 : Int).toNat).toNat = x.toNat * 256 := by
    show (x <<< UInt64.ofNat 8).toNat = _
    rw [UInt64.toNat_shiftLeft, Nat.shiftLeft_eq]
    have : (UInt64.ofNat 8).toNat = 8 := rfl
    rw [this, show 2 ^ (8 % 64) = 256 from rfl]
    omega
  rw [UInt64.toNat_or, h1, UInt8.toNat_toUInt64]
  have h2 := lt8 b
  have := Nat.shiftLeft_add_eq_or_of_lt (i := 8) (b := b.toNat) (by omega) x.toNat
  rw [Nat.shiftLeft_eq] at this
  exact this.symm
theorem reads_sub2 {w : World} {a a' : Option Addr} {n c i j : Nat} {l : List UInt8} (h : Reads w (.slice a n c) l) (hs : Sp.Sub 1 a j c i a' (j - i) (c - i)) (hi : i ≤ j) (hj : j ≤ n) : Reads w (.slice a' (j - i) (c - i)) ((l.take j).drop i) := (h.take hj).sub hs hi

/-- What get answers. -/
def GetPost (E : Nat → Addr) (l : List UInt8) (c : UInt8) (r : Ending) : Prop := match Fld.get l c with
  | .ok (x, n) => r = .returned (.tuple #[CellV x (.float .f64 0), .int .i64 (n : Nat), .nilIface])
  | .error e => r = .returned (.tuple #[CellV ⟨0, []⟩ (.float .f64 0), .int .i64 0, .iface 182 (.pointer (some (E e)))])

set_option maxRecDepth 100000 in
set_option maxHeartbeats 4000000 in
theorem get_any (E : Nat → Addr) (c : UInt8) (v : Value) (l : List UInt8) (hc : isLetter c = true) (hf : c ≠ 102) (hlen : l.length ≤ 140737488355328) (w0 w : World) (L : List Asn) (hE : FldErrs E w0) (hS : Sat w0 w L) (hr : Under w0 L v l) :
    Calls Tryd.prog 93 #[v, B c] w fun r w' => GetPost E l c r ∧ Sat w0 w' L := by
  obtain ⟨aa, ac, rfl, _⟩ := hr w hS
  obtain ⟨_, hac, hac2⟩ := reads_len (hr w hS)
  have hw4 := width_four hc
  have hwp := width_pos c
  obtain ⟨m, hm⟩ : ∃ m, m = width c := ⟨_, rfl⟩
  rw [← hm] at hw4 hwp
  have hfe : ((c.toNat : Int) == 102) = false := by
    rw [beq_eq_false_iff_ne]
    intro h
    apply hf
    apply UInt8.toNat_inj.1
    have h2 : (102 : UInt8).toNat = 102 := rfl
    rw [h2]
    omega
  have Hw := Lib.hid (show ∀ w : World, Calls Tryd.prog 96 #[B c] w fun r w' => r = .returned (.int .i64 (m : Nat)) ∧ w = w' by rw [hm]; exact width_any c hc)
  have Ht := Lib.hid (text_any c hc)
  have hg7 := hE.short
  have hg1 := hE.range
  have Hm := Lib.hid hm
  clear hm hf hc
  by_cases hsh : l.length < m
  case pos =>
    go_enter Tryd.func93, Tryd.ntmps93
    go_wp2_with (first | (go_at_call 96; ((with_reducible refine' (Hw.out _).mono ?_); rintro r4 w4 ⟨rfl, rfl⟩)) | (have hS1 := hS.drew; clear hS; have hS := hS1; clear hS1; (with_reducible refine' Txh.wp_region_held (id := 3) (fun w => ∃ M, Sat w0 w M) [(1, .iface 182 (.pointer (some (E 2))))] [1] 5 rfl ?hm3x66 ?hB3x66 ?hI3x66 ?hh3x66); (case hm3x66 => kernel_rfl); (case hB3x66 => decide +kernel); (case hI3x66 => exact ⟨_, hS⟩); (case' hh3x66 => (intro Q' hQ'))) | (with_reducible refine Txh.wpHeld_nil ?_) | (((with_reducible refine' Txh.wpHeld_held ?_ ?_ ?_ ?_); rotate_left 1; (focus rfl); (focus rfl); (focus ((with_reducible refine' fixed_load ?_ ?_ ?_); rotate_left 1; (focus rfl); (focus (intro _; (simp; done))); (focus (rintro w5 ⟨M5, hM5⟩; exact old_cell hM5 (by with_reducible assumption))))))) | ((((with_reducible refine Txh.wpHeld_owes ?_ ?_ ?_ ?_); (focus rfl); (focus rfl); (focus rfl); intro K hK)); first | ((with_reducible refine' wp_buildv (v := CellV ⟨0, []⟩ (.float .f64 0)) ?_ ?_); (focus (intro _; kernel_rfl)); (refine hK _ _ ⟨_, hS⟩ ?_; clear hK K)) | ((with_reducible refine' wp_storeN hS ?_ ?_ ?_ ?_ ?_ ?_ ?_ ?_); rotate_left 7; (focus rfl); (focus ((repeat (with_reducible exact Split.here)); done)); (focus (conv => lhs; whnf)); (focus (intro _; (simp; rfl))); (focus rfl); (focus (simp [Value.cells, Value.oneCell']; done)); (focus (simp; done)); intro w'; clear hS; intro hS; (try simp only [setCells, Value.cells, List.take_succ_cons, List.take_zero, List.drop_succ_cons, List.drop_zero, List.append_nil, List.nil_append, List.cons_append, List.length_cons, List.length_nil, Nat.zero_add, Nat.reduceAdd, List.drop_nil] at hS); (refine hK _ _ ⟨_, hS⟩ ?_; clear hK K))) | (((with_reducible refine Txh.wpHeld_free ?_ ?_ ?_ ?_ ?_); (focus rfl); (focus rfl); (focus rfl); (focus decide +kernel); intro _ _)) | ((((with_reducible refine wpList_plain ?_ ?_); (focus rfl); intro K hK)); ((with_reducible refine' wp_alloc hS ?_ ?_); rotate_left 1; (focus (intro _; (simp; rfl))); intro w' b'; clear hS; intro hS; (try simp only [Value.cells] at hS); (refine hK _ _ ?_; clear hK K))))
    refine bodyPost_ret (results_c2 rfl _ _ _ _ _ (0, 0) _ rfl hS.at Tryd.underlying132 rfl (by kernel_rfl)) rfl ⟨?_, hS.drop⟩
    unfold GetPost Fld.get
    rw [← Hm.out, if_pos hsh]
    rfl
  have hmn : m ≤ l.length := by omega
  have Hsh := Lib.hid hsh
  clear hsh
  have hlm : (l.take m).length = m := by rw [List.length_take]; omega
  go_enter Tryd.func93, Tryd.ntmps93
  go_wp2_with (first | (go_at_call 96; ((with_reducible refine' (Hw.out _).mono ?_); rintro r4 w4 ⟨rfl, rfl⟩)) | ((((with_reducible refine wpList_plain ?_ ?_); (focus rfl); intro K hK)); first | ((with_reducible refine' wp_slice_hi m sl22 ?_ ?_ ?_ ?_ ?_); ((rotate_left 5; (focus rfl); (focus rfl); (focus (rfl)); (focus (omega)); (refine hK _ _ ?_; clear hK K)))) | ((with_reducible refine' wp_alloc hS ?_ ?_); rotate_left 1; (focus (intro _; (simp; rfl))); intro w' b'; clear hS; intro hS; (try simp only [Value.cells] at hS); (refine hK _ _ ?_; clear hK K))))
  replace hS : Sat w0 w' (Blk b' (.cells #[.int .i64 0, .float .f64 0, S []] 132) :: L) := hS
  go_loopw [8, 23] (fun u i wr => ∃ k : Nat, k ≤ m ∧ i = .int .i64 k ∧ u = .int .u64 ((num ((l.take m).take k) : Nat) : Int) ∧ Sat w0 wr (Blk b' (.cells #[.int .i64 0, .float .f64 0, S []] 132) :: L)) (fun _ i _ => m - (intOf i).toNat)
  case atStart => exact ⟨0, by omega, rfl, rfl, hS⟩
  case round =>
    clear hS
    obtain ⟨k, hk, rfl, rfl, hS⟩ := hrel
    by_cases hlt : k < m
    case pos =>
      obtain ⟨p, hp⟩ : ∃ p, (l.take m)[k]? = some p := ⟨_, List.getElem?_eq_getElem (by omega)⟩
      have hrd := (hr _ hS.drop).take hmn
      obtain ⟨ad, rfl⟩ := reads_addr hrd (by omega)
      have hcell := reads_at hrd k p hp
      have hnl := num_lt ((l.take m).take k)
      have hkl : ((l.take m).take k).length = k := by rw [List.length_take]; omega
      rw [hkl] at hnl
      have h7 : 256 ^ k ≤ 256 ^ 7 := Nat.pow_le_pow_right (by decide) (by omega)
      have hn7 : num ((l.take m).take k) < 72057594037927936 := by omega
      have hsn : num ((l.take m).take (k + 1)) = num ((l.take m).take k) * 256 + p.toNat := by
        rw [List.take_add_one, hp]
        exact num_snoc _ _
      obtain ⟨x, hx⟩ : ∃ x : UInt64, x.toNat = num ((l.take m).take k) := ⟨UInt64.ofNat (num ((l.take m).take k)), by rw [UInt64.toNat_ofNat', Nat.mod_eq_of_lt (by omega)]⟩
      rw [← hx] at hn7 hsn ⊢
      have Hsn := Lib.hid (show num ((l.take m).take (k + 1)) = ((x <<< UInt64.ofNat (8 : Int).toNat) ||| p.toUInt64).toNat by rw [shl_or x p hn7]; exact hsn)
      have Hx := Lib.hid hx
      clear hx hsn hn7 hnl h7 hkl hp hrd
      go_wp2_with (((((with_reducible refine wpList_plain ?_ ?_); (focus rfl); intro K hK)); first | ((with_reducible refine' wp_bin ?_ ?_ ?_ ?_ ?_); rotate_left 3; (focus (conv => lhs; whnf)); (focus (conv => lhs; whnf)); (focus (intro _; rfl)); (focus (intro _; first | with_reducible exact run_q_or _ _ _ | with_reducible exact run_q_shl' _ _ _ _ (by omega) (by omega))); (refine hK _ _ ?_; clear hK K)) | ((with_reducible refine' wp_conv ?_ ?_ ?_ ?_ ?_); rotate_left 5; (focus (conv => lhs; whnf)); (focus (intro _; (simp; rfl))); (focus (intro _; (simp; rfl))); (focus (with_reducible exact wrap_b_q _)); (refine hK _ _ ?_; clear hK K)) | ((with_reducible refine' wp_load_known ?_ ?_ ?_ ?_); rotate_left 2; (focus rfl); (focus (with_reducible assumption)); (focus (intro _; (simp; done))); (refine hK _ _ ?_; clear hK K))))
      go_roundw
      case rel => exact ⟨k + 1, by omega, by go_num, by rw [Hsn.out]; rfl, hS⟩
      case measure => simp [intOf]; omega
    case neg =>
      obtain rfl : k = m := by omega
      have ht2 : (l.take k).take k = l.take k := List.take_of_length_le (by omega)
      rw [ht2]
      obtain ⟨nm, hnm⟩ : ∃ nm, nm = num (l.take k) := ⟨_, rfl⟩
      have hnl := num_lt (l.take k)
      rw [hlm, ← hnm] at hnl
      have h8 : 256 ^ k ≤ 256 ^ 8 := Nat.pow_le_pow_right (by decide) hwp.2
      have hn8 : nm < 18446744073709551616 := by omega
      rw [← hnm]
      have Hnm := Lib.hid hnm
      clear hnm hnl h8 ht2 hlt
      cases hte : isText c
      case true =>
        rw [hte] at Ht
        have Hte := Lib.hid hte
        clear hte
        by_cases hlt : l.length - k < nm
        case pos =>
          have hlt' : (l.length : Int) - (k : Int) < (nm : Int) := by omega
          go_wp2_with (first | (go_at_call 99; ((with_reducible refine' (Ht.out _).mono ?_); rintro r4 w4 ⟨rfl, rfl⟩)) | (have hS1 := hS.drew; clear hS; have hS := hS1; clear hS1; (with_reducible refine' Txh.wp_region_held (id := 14) (fun w => ∃ M, Sat w0 w M) [(1, .iface 182 (.pointer (some (E 2))))] [1] 5 rfl ?hm14x132 ?hB14x132 ?hI14x132 ?hh14x132); (case hm14x132 => kernel_rfl); (case hB14x132 => decide +kernel); (case hI14x132 => exact ⟨_, hS⟩); (case' hh14x132 => (intro Q' hQ'))) | (with_reducible refine Txh.wpHeld_nil ?_) | (((with_reducible refine' Txh.wpHeld_held ?_ ?_ ?_ ?_); rotate_left 1; (focus rfl); (focus rfl); (focus ((with_reducible refine' fixed_load ?_ ?_ ?_); rotate_left 1; (focus rfl); (focus (intro _; (simp; done))); (focus (rintro w5 ⟨M5, hM5⟩; exact old_cell hM5 (by with_reducible assumption))))))) | ((((with_reducible refine Txh.wpHeld_owes ?_ ?_ ?_ ?_); (focus rfl); (focus rfl); (focus rfl); intro K hK)); first | ((with_reducible refine' wp_buildv (v := CellV ⟨0, []⟩ (.float .f64 0)) ?_ ?_); (focus (intro _; kernel_rfl)); (refine hK _ _ ⟨_, hS⟩ ?_; clear hK K)) | ((with_reducible refine' wp_storeN hS ?_ ?_ ?_ ?_ ?_ ?_ ?_ ?_); rotate_left 7; (focus rfl); (focus ((repeat (with_reducible exact Split.here)); done)); (focus (conv => lhs; whnf)); (focus (intro _; (simp; rfl))); (focus rfl); (focus (simp [Value.cells, Value.oneCell']; done)); (focus (simp; done)); intro w'; clear hS; intro hS; (try simp only [setCells, Value.cells, List.take_succ_cons, List.take_zero, List.drop_succ_cons, List.drop_zero, List.append_nil, List.nil_append, List.cons_append, List.length_cons, List.length_nil, Nat.zero_add, Nat.reduceAdd, List.drop_nil] at hS); (refine hK _ _ ⟨_, hS⟩ ?_; clear hK K))) | (((with_reducible refine Txh.wpHeld_free ?_ ?_ ?_ ?_ ?_); (focus rfl); (focus rfl); (focus rfl); (focus decide +kernel); intro _ _)))
          refine bodyPost_ret (results_c2 rfl _ _ _ _ _ (0, 0) _ rfl hS.at Tryd.underlying132 rfl (by kernel_rfl)) rfl ⟨?_, hS.drop⟩
          unfold GetPost Fld.get
          rw [← Hm.out, if_neg Hsh.out, if_pos Hte.out, ← Hnm.out, if_pos hlt]
          rfl
        case neg =>
          have hle : nm ≤ l.length - k := by omega
          have hle' : ¬ ((l.length : Int) - (k : Int) < (nm : Int)) := by omega
          have hnb : (nm : Int) ≤ 140737488355328 := by omega
          obtain ⟨tx, htx⟩ : ∃ tx, tx = (l.drop k).take nm := ⟨_, rfl⟩
          have htx2 : (l.take (k + nm)).drop k = tx := by rw [htx, List.drop_take, Nat.add_sub_cancel_left]
          have Htx := Lib.hid htx
          have Htx2 := Lib.hid htx2
          clear htx htx2
          have Hone := Lib.hid (show ∀ u ∈ (#[.int .i64 0, .float .f64 0, S tx] : Array Value).toList, u.oneCell' = true by
            intro u hu
            simp only [List.mem_cons, List.not_mem_nil, or_false] at hu
            rcases hu with rfl | rfl | rfl <;> rfl)
          go_wp2_with (first | (go_at_call 99; ((with_reducible refine' (Ht.out _).mono ?_); rintro r4 w4 ⟨rfl, rfl⟩)) | ((((with_reducible refine wpList_plain ?_ ?_); (focus rfl); intro K hK)); first | ((with_reducible refine' wp_slice_lh k (k + nm) sl22 ?_ ?_ ?_ ?_ ?_ ?_ ?_ ?_); ((rotate_left 7; (focus rfl); (focus rfl); (focus rfl); (focus (rfl)); (focus (rfl)); (focus (omega)); (focus (omega)); intro a' hsub; (refine hK _ _ ?_; clear hK K)))) | ((with_reducible refine' wp_string ?_ ?_ ?_ ?_ ?_ ?_); rotate_left 3; (focus (conv => lhs; whnf)); (focus ((exact (by rw [← Htx2.out]; exact reads_sub2 (hr _ (by (refine Sat.ent hS ?_; repeat (first | (with_reducible exact Ent.refl _) | (with_reducible apply Ent.skip))))) hsub (by omega) (by omega) : Reads _ _ tx)))); (focus ((simp; rfl))); (focus ((simp; done))); (focus ((simp; done))); (refine hK _ _ ?_; clear hK K)) | ((with_reducible refine' wp_buildv (v := CellV ⟨0, tx⟩ (.float .f64 0)) ?_ ?_); (focus (intro _; kernel_rfl)); (refine hK _ _ ?_; clear hK K)) | ((with_reducible refine' wp_store_all (vs := #[.int .i64 0, .float .f64 0, S tx]) hS ?_ ?_ ?_ ?_ ?_ ?_ ?_); rotate_left 4; (focus rfl); (focus ((repeat (with_reducible exact Split.here)); done)); (focus rfl); (focus (exact sz132)); (focus rfl); (focus (exact Hone.out)); intro w'; clear hS; intro hS; (refine hK _ _ ?_; clear hK K))))
          refine bodyPost_ret (results_c2 rfl _ _ _ _ _ (0, 0) _ rfl hS.at Tryd.underlying132 rfl (by kernel_rfl)) rfl ⟨?_, hS.drop⟩
          unfold GetPost Fld.get
          rw [← Hm.out, if_neg Hsh.out, if_pos Hte.out, ← Hnm.out, if_neg hlt, ← Htx.out]
          rfl
      case false =>
        rw [hte] at Ht
        have Hte := Lib.hid hte
        clear hte
        by_cases hbig : 9223372036854775807 < nm
        case pos =>
          have hbig' : (9223372036854775807 : Int) < (nm : Int) := by omega
          go_wp2_with (first | (go_at_call 99; ((with_reducible refine' (Ht.out _).mono ?_); rintro r4 w4 ⟨rfl, rfl⟩)) | (have hS1 := hS.drew; clear hS; have hS := hS1; clear hS1; (with_reducible refine' Txh.wp_region_held (id := 17) (fun w => ∃ M, Sat w0 w M) [(1, .iface 182 (.pointer (some (E 1))))] [1] 5 rfl ?hm17x168 ?hB17x168 ?hI17x168 ?hh17x168); (case hm17x168 => kernel_rfl); (case hB17x168 => decide +kernel); (case hI17x168 => exact ⟨_, hS⟩); (case' hh17x168 => (intro Q' hQ'))) | (with_reducible refine Txh.wpHeld_nil ?_) | (((with_reducible refine' Txh.wpHeld_held ?_ ?_ ?_ ?_); rotate_left 1; (focus rfl); (focus rfl); (focus ((with_reducible refine' fixed_load ?_ ?_ ?_); rotate_left 1; (focus rfl); (focus (intro _; (simp; done))); (focus (rintro w5 ⟨M5, hM5⟩; exact old_cell hM5 (by with_reducible assumption))))))) | ((((with_reducible refine Txh.wpHeld_owes ?_ ?_ ?_ ?_); (focus rfl); (focus rfl); (focus rfl); intro K hK)); first | ((with_reducible refine' wp_buildv (v := CellV ⟨0, []⟩ (.float .f64 0)) ?_ ?_); (focus (intro _; kernel_rfl)); (refine hK _ _ ⟨_, hS⟩ ?_; clear hK K)) | ((with_reducible refine' wp_storeN hS ?_ ?_ ?_ ?_ ?_ ?_ ?_ ?_); rotate_left 7; (focus rfl); (focus ((repeat (with_reducible exact Split.here)); done)); (focus (conv => lhs; whnf)); (focus (intro _; (simp; rfl))); (focus rfl); (focus (simp [Value.cells, Value.oneCell']; done)); (focus (simp; done)); intro w'; clear hS; intro hS; (try simp only [setCells, Value.cells, List.take_succ_cons, List.take_zero, List.drop_succ_cons, List.drop_zero, List.append_nil, List.nil_append, List.cons_append, List.length_cons, List.length_nil, Nat.zero_add, Nat.reduceAdd, List.drop_nil] at hS); (refine hK _ _ ⟨_, hS⟩ ?_; clear hK K))) | (((with_reducible refine Txh.wpHeld_free ?_ ?_ ?_ ?_ ?_); (focus rfl); (focus rfl); (focus rfl); (focus decide +kernel); intro _ _)))
          refine bodyPost_ret (results_c2 rfl _ _ _ _ _ (0, 0) _ rfl hS.at Tryd.underlying132 rfl (by kernel_rfl)) rfl ⟨?_, hS.drop⟩
          unfold GetPost Fld.get
          rw [← Hm.out, if_neg Hsh.out, if_neg (by rw [Hte.out]; simp), ← Hnm.out, if_pos hbig]
          rfl
        case neg =>
          have hsm : (nm : Int) ≤ 9223372036854775807 := by omega
          have Hone := Lib.hid (show ∀ u ∈ (#[.int .i64 nm, .float .f64 0, S []] : Array Value).toList, u.oneCell' = true by
            intro u hu
            simp only [List.mem_cons, List.not_mem_nil, or_false] at hu
            rcases hu with rfl | rfl | rfl <;> rfl)
          go_wp2_with (first | (go_at_call 99; ((with_reducible refine' (Ht.out _).mono ?_); rintro r4 w4 ⟨rfl, rfl⟩)) | ((((with_reducible refine wpList_plain ?_ ?_); (focus rfl); intro K hK)); first | ((with_reducible refine' wp_buildv (v := CellV ⟨(nm : Int), []⟩ (.float .f64 0)) ?_ ?_); (focus (intro _; kernel_rfl)); (refine hK _ _ ?_; clear hK K)) | ((with_reducible refine' wp_store_all (vs := #[.int .i64 nm, .float .f64 0, S []]) hS ?_ ?_ ?_ ?_ ?_ ?_ ?_); rotate_left 4; (focus rfl); (focus ((repeat (with_reducible exact Split.here)); done)); (focus rfl); (focus (exact sz132)); (focus rfl); (focus (exact Hone.out)); intro w'; clear hS; intro hS; (refine hK _ _ ?_; clear hK K))))
          refine bodyPost_ret (results_c2 rfl _ _ _ _ _ (0, 0) _ rfl hS.at Tryd.underlying132 rfl (by kernel_rfl)) rfl ⟨?_, hS.drop⟩
          unfold GetPost Fld.get
          rw [← Hm.out, if_neg Hsh.out, if_neg (by rw [Hte.out]; simp), ← Hnm.out, if_neg hbig]
          rfl
end Go.Proofs.YtndnojbpapjdoaaDoor
