/- Package hash walked: the rotation. -/
import Derived.Test.YtndnojbpapjdoaaDoorPg
import Derived.Test.YtndnojbpapjdoaaDoorSpc
import Derived.Deep.DeepCutAuto
import Derived.Deep.CutBlock
set_option linter.unusedSimpArgs false
set_option linter.unusedVariables false
set_option linter.unusedSectionVars false
namespace Go.Proofs.YtndnojbpapjdoaaDoor
open Go.Sp Go.RowKit Go.Sha

theorem and31 (n : Nat) (h0 : 0 < n) (h : n < 32) : bits .and .u64 (18446744073709551616 - (n : Int)) 31 = ((32 - n : Nat) : Int) := by
  show IntKind.u64.wrap ((BitVec.ofInt 64 (18446744073709551616 - (n : Int)) &&& BitVec.ofInt 64 31).toNat : Int) = _
  have e1 : (18446744073709551616 - (n : Int)) = ((18446744073709551616 - n : Nat) : Int) := by omega
  rw [e1, show (31 : Int) = ((31 : Nat) : Int) from rfl, BitVec.toNat_and, ofInt_nat _ (by omega), ofInt_nat _ (by omega), show (31 : Nat) = 2 ^ 5 - 1 from rfl, Nat.and_two_pow_sub_one_eq_mod, wrap_u64n]
  omega
theorem neg_u64 (n : Nat) (h0 : 0 < n) (h : n < 32) : IntKind.u64.wrap (-(n : Int)) = 18446744073709551616 - (n : Int) := by
  simp [IntKind.wrap, IntKind.bits, IntKind.signed]; omega

set_option maxRecDepth 100000 in
theorem rotl_any (x : UInt32) (n : Nat) (h0 : 0 < n) (h : n < 32) (w : World) : Calls Tryd.prog 109 #[W x, .int .i64 (-(n : Int))] w fun r w' => r = .returned (W (rotr x n)) ∧ w = w' := by
  have e1 := neg_u64 n h0 h
  have e2 := and31 n h0 h
  have e3 : IntKind.u64.wrap (32 - ((32 - n : Nat) : Int)) = ((n : Nat) : Int) := by
    rw [show (32 - ((32 - n : Nat) : Int)) = (n : Int) by omega, wrap_u64n]; omega
  have e4 : bits .or .u32 ((x.toNat : Int) * 2 ^ (32 - n) % 4294967296) ((x.toNat : Int) / 2 ^ n) = ((rotr x n).toNat : Int) := by
    have h1 : (x.toNat : Int) * 2 ^ (32 - n) % 4294967296 = ((x <<< UInt32.ofNat (32 - n)).toNat : Int) := by rw [shl_nat x _ (by omega)]; simp
    have h2 : (x.toNat : Int) / 2 ^ n = ((x >>> UInt32.ofNat n).toNat : Int) := by rw [shr_nat x _ h]; simp
    rw [h1, h2, bits_or32]
    rfl
  have E4 := Lib.hid e4
  clear e4
  go_enter Tryd.func109, Tryd.ntmps109
  go_wp2_with fail
  go_ret
  exact ⟨by rw [E4.out]; rfl, rfl⟩

theorem turn_any (x : UInt32) (n : Nat) (h0 : 0 < n) (h : n < 32) (w : World) : Calls Tryd.prog 108 #[W x, .int .i64 (n : Int)] w fun r w' => r = .returned (W (rotr x n)) ∧ w = w' := by
  go_enter Tryd.func108, Tryd.ntmps108
  go_wp2_with ((go_at_call 109; ((with_reducible refine' (rotl_any x n h0 h _).mono ?_); rintro r w' ⟨rfl, rfl⟩)))
  go_ret
  exact ⟨rfl, rfl⟩

theorem turn_at (x : UInt32) (m : Int) (h0 : 0 < m) (h : m < 32) (w : World) : Calls Tryd.prog 108 #[W x, .int .i64 m] w fun r w' => r = .returned (W (rotr x m.toNat)) ∧ w = w' := by
  obtain ⟨n, rfl⟩ := Int.eq_ofNat_of_zero_le (Int.le_of_lt h0)
  exact turn_any x n (by omega) (by omega) w
theorem seven (a b c d e f g h : UInt32) : ∀ (j : Nat) (v : Value), [W a, W b, W c, W d, W e, W f, W g][j]? = some v → #[W a, W b, W c, W d, W e, W f, W g, W h][0 + j]? = some v := by
  intro j v hv
  rcases j with _ | _ | _ | _ | _ | _ | _ | j <;> first | exact hv | cases hv
theorem seven1 (a b c d e f g : UInt32) : ∀ v ∈ [W a, W b, W c, W d, W e, W f, W g], v.oneCell' = true := by
  intro v hv
  simp only [List.mem_cons, List.not_mem_nil, or_false] at hv
  rcases hv with rfl | rfl | rfl | rfl | rfl | rfl | rfl <;> rfl
/-- The table of the rounds, as the program lays it. -/
def Table (w0 : World) : Prop := ∀ (i : Nat) (u : UInt32), K[i]? = some u → w0.cell? ⟨19, i, none⟩ = some (W u)
theorem reads_get {w : World} {b o n c : Nat} {l : List UInt8} (h : Reads w (.slice (some ⟨b, o, none⟩) n c) l) (i : Nat) (hi : i < n) : w.cell? ⟨b, o + i, none⟩ = some (B (l.getD i 0)) := by
  obtain ⟨a, c', e, h1, h2, h3, h4⟩ := h
  cases e
  have := h4 _ rfl i (l[i]) (List.getElem?_eq_getElem hi)
  rw [addr_add] at this
  rw [this, List.getD_eq_getElem?_getD, List.getElem?_eq_getElem hi]
  rfl

def zeros (n : Nat) : List UInt32 := List.replicate n 0
theorem sched_set (p : List UInt8) (t : Nat) (ht : t < 64) (x : UInt32) (hx : sched p (t + 1) = sched p t ++ [x]) : (sched p t ++ zeros (64 - t)).set t x = sched p (t + 1) ++ zeros (64 - (t + 1)) := by
  rw [hx]
  have hl := sched_length p t
  have : 64 - t = (64 - (t + 1)) + 1 := by omega
  rw [this, zeros, List.replicate_succ, List.set_append_right _ _ (by omega), hl, Nat.sub_self]
  simp [zeros]
theorem sched_len (p : List UInt8) (t : Nat) (ht : t ≤ 64) : (sched p t ++ zeros (64 - t)).length = 64 := by
  rw [List.length_append, sched_length, zeros, List.length_replicate]; omega
theorem sched_get (p : List UInt8) (t i : Nat) (hi : i < t) : (sched p t ++ zeros (64 - t))[i]? = some ((sched p t).getD i 0) := by
  have hl := sched_length p t
  rw [List.getElem?_append_left (by omega), List.getD_eq_getElem?_getD, List.getElem?_eq_getElem (by omega)]
  rfl
/-- The eight words as the cells ahead of the rest of a state. -/
abbrev isSt (b : Nat) (s : St) (rv nv : Value) : Asn := Blk b (.cells #[W s.a, W s.b, W s.c, W s.d, W s.e, W s.f, W s.g, W s.h, rv, nv] 177)

/-- The words while they are summed: k of them are. -/
def plusK (s r : St) (k : Nat) : St := ⟨if 0 < k then s.a + r.a else s.a, if 1 < k then s.b + r.b else s.b, if 2 < k then s.c + r.c else s.c, if 3 < k then s.d + r.d else s.d, if 4 < k then s.e + r.e else s.e, if 5 < k then s.f + r.f else s.f, if 6 < k then s.g + r.g else s.g, if 7 < k then s.h + r.h else s.h⟩
abbrev isWd (b : Nat) (r : St) : Asn := Blk b (.cells #[W r.a, W r.b, W r.c, W r.d, W r.e, W r.f, W r.g, W r.h] 175)
set_option maxRecDepth 100000 in
set_option maxHeartbeats 4000000 in
theorem piece_any (b : Nat) (s : St) (rv nv : Value) (g o : Nat) (c : Nat) (p : List UInt8) (w0 w : World) (L : List Asn) (hT : Table w0) (hS : Sat w0 w (isSt b s rv nv :: L))
    (hr : ∀ w', Sat w0 w' L → Reads w' (.slice (some ⟨g, o, none⟩) 64 c) p) :
    Calls Tryd.prog 106 #[.pointer (some ⟨b, 0, none⟩), .slice (some ⟨g, o, none⟩) 64 c] w fun r w' => r = .returned (.tuple #[]) ∧ Sat w0 w' (isSt b (s.piece p) rv nv :: L) := by
  go_enter Tryd.func106, Tryd.ntmps106
  go_wp2_with (((((with_reducible refine wpList_plain ?_ ?_); (focus rfl); intro K hK)); ((with_reducible refine' wp_alloc hS ?_ ?_); rotate_left 1; (focus (intro _; (simp; rfl))); intro w' b'; clear hS; intro hS; (try simp only [Value.cells] at hS); (refine hK _ _ ?_; clear hK K))))
  obtain ⟨bw, hbw, hS⟩ := name0 hS
  subst hbw
  go_loopw [14] (fun i wr => ∃ t : Nat, t ≤ 64 ∧ i = .int .i64 t ∧ Sat w0 wr (Blk bw (.cells ((sched p t ++ zeros (64 - t)).map W).toArray 179) :: isSt b s rv nv :: L)) (fun i _ => 64 - (intOf i).toNat)
  case atStart => exact ⟨0, by omega, rfl, hS⟩
  case round =>
    clear hS
    obtain ⟨t, ht, rfl, hS⟩ := hrel
    by_cases hlt : t < 64
    case pos =>
      have hlen := sched_len p t ht
      by_cases h16 : t < 16
      case pos =>
        have hx : sched p (t + 1) = sched p t ++ [word p t] := by simp [sched, h16]
        have hset := Lib.hid (sched_set p t hlt _ hx)
        have hrd := hr _ hS.drop.drop
        have hc0 := reads_get hrd (4 * t) (by omega)
        have hc1 := reads_get hrd (4 * t + 1) (by omega)
        have hc2 := reads_get hrd (4 * t + 2) (by omega)
        have hc3 := reads_get hrd (4 * t + 3) (by omega)
        have hj : t < (sched p t ++ zeros (64 - t)).length := by omega
        clear hx hrd
        go_wp2_with (first | ((with_reducible refine Txt.wp_region_text ?_ ?_ ?_); (focus kernel_rfl); (focus decide +kernel); intro Q' hQ'; have hS1 := hS.drew; clear hS; have hS := hS1; clear hS1) | (with_reducible refine Txt.wpTxt_nil ?_) | ((first | ((with_reducible refine wpList_plain ?_ ?_); (focus rfl); intro K hK) | ((with_reducible refine Txt.wpTxt_plain ?_ ?_ ?_); (focus rfl); (focus rfl); intro K hK)); first | ((with_reducible refine' wp_bin ?_ ?_ ?_ ?_ ?_); rotate_left 3; (focus (conv => lhs; whnf)); (focus (conv => lhs; whnf)); (focus (intro _; rfl)); (focus (intro _; first | with_reducible exact run_w_or _ _ _ | with_reducible exact run_w_shl' _ _ _ _ (by omega) (by omega))); (refine hK _ _ ?_; clear hK K)) | ((with_reducible refine' wp_conv ?_ ?_ ?_ ?_ ?_); rotate_left 5; (focus (conv => lhs; whnf)); (focus (intro _; (simp; rfl))); (focus (intro _; (simp; rfl))); (focus (with_reducible exact wrap_b_w _)); (refine hK _ _ ?_; clear hK K)) | ((with_reducible refine' wp_index_slice (j := (o + 4 * t)) ?_ ?_ ?_ ?_ ?_ ?_ ?_ ?_); rotate_left 8; (focus rfl); (focus rfl); (focus (intro _; (simp; rfl))); (focus (intro _; (simp; rfl))); (focus omega); (focus omega); (focus omega); (refine hK _ _ ?_; clear hK K)) | ((with_reducible refine' wp_index_slice (j := (o + (4 * t + 1))) ?_ ?_ ?_ ?_ ?_ ?_ ?_ ?_); rotate_left 8; (focus rfl); (focus rfl); (focus (intro _; (simp; rfl))); (focus (intro _; (simp; rfl))); (focus omega); (focus omega); (focus omega); (refine hK _ _ ?_; clear hK K)) | ((with_reducible refine' wp_index_slice (j := (o + (4 * t + 2))) ?_ ?_ ?_ ?_ ?_ ?_ ?_ ?_); rotate_left 8; (focus rfl); (focus rfl); (focus (intro _; (simp; rfl))); (focus (intro _; (simp; rfl))); (focus omega); (focus omega); (focus omega); (refine hK _ _ ?_; clear hK K)) | ((with_reducible refine' wp_index_slice (j := (o + (4 * t + 3))) ?_ ?_ ?_ ?_ ?_ ?_ ?_ ?_); rotate_left 8; (focus rfl); (focus rfl); (focus (intro _; (simp; rfl))); (focus (intro _; (simp; rfl))); (focus omega); (focus omega); (focus omega); (refine hK _ _ ?_; clear hK K)) | ((with_reducible refine' wp_index_arr (j := t) ?_ ?_ ?_ ?_ ?_ ?_ ?_ ?_); rotate_left 7; (focus rfl); (focus rfl); (focus (intro _; (simp; exact ⟨rfl, rfl⟩))); (focus (intro _; (simp; rfl))); (focus (omega)); (focus (omega)); (focus (omega)); (refine hK _ _ ?_; clear hK K)) | ((with_reducible refine' wp_arr_store (u := word p t) hS ?_ ?_ ?_ ?_ ?_ ?_); rotate_left 5; (focus rfl); (focus ((repeat (with_reducible exact Split.here)); done)); (focus rfl); (focus exact hj); (focus (intro _; (simp; done))); intro w'; clear hS; intro hS; (refine hK _ _ ?_; clear hK K))) | ((with_reducible refine Txt.wpTxt_plain ?_ ?_ ?_); (focus with_reducible rfl); (focus rfl); intro _ _))
        go_roundw
        case rel => exact ⟨t + 1, by omega, by go_num, by rw [hset.out] at hS; exact hS⟩
        case measure => simp [intOf]; omega
      case neg =>
        have hx : sched p (t + 1) = sched p t ++ [ext (sched p t) t] := by simp [sched, h16]
        have hset := Lib.hid (sched_set p t hlt _ hx)
        have g15 := sched_get p t (t - 15) (by omega)
        have g2 := sched_get p t (t - 2) (by omega)
        have g16 := sched_get p t (t - 16) (by omega)
        have g7 := sched_get p t (t - 7) (by omega)
        have hj : t < (sched p t ++ zeros (64 - t)).length := by omega
        clear hx
        go_wp2_with (first | (have hS1 := hS.drew; clear hS; have hS := hS1; clear hS1; (with_reducible refine' Txh.wp_region_held (id := 7) (fun _ => True) [(11, _), (13, _), (20, _), (22, _)] [11, 13, 20, 22] 23 rfl ?hm7x121 ?hB7x121 ?hI7x121 ?hh7x121); (case hm7x121 => kernel_rfl); (case hB7x121 => decide +kernel); (case hI7x121 => exact trivial); (case' hh7x121 => (intro Q' hQ'))) | (with_reducible refine Txh.wpHeld_nil ?_) | (((with_reducible refine' Txh.wpHeld_held ?_ ?_ ?_ ?_); rotate_left 1; (focus rfl); (focus rfl); (focus ((with_reducible refine' fixed_call2 (f := 108) ?_ ?_ ?_ ?_); rotate_left 2; (focus (conv => lhs; whnf)); (focus (conv => lhs; whnf)); (focus (intro _ _; simp)); (focus (intro w5 hI5; (with_reducible exact turn_at _ _ (by decide) (by decide) w5))))))) | ((with_reducible refine Txh.wpHeld_free ?_ ?_ ?_ ?_ ?_); (focus rfl); (focus rfl); (focus rfl); (focus decide +kernel); intro K hK; first | ((with_reducible refine' wp_bin ?_ ?_ ?_ ?_ ?_); rotate_left 3; (focus (conv => lhs; whnf)); (focus (conv => lhs; whnf)); (focus (intro _; rfl)); (focus (intro _; first | with_reducible exact run_w_add _ _ _ | with_reducible exact run_w_xor _ _ _ | with_reducible exact run_w_shr' _ _ _ _ (by omega) (by omega))); (refine hK _ _ ?_; clear hK K)) | ((with_reducible refine' wp_index_arr (j := (t - 16)) ?_ ?_ ?_ ?_ ?_ ?_ ?_ ?_); rotate_left 7; (focus rfl); (focus rfl); (focus (intro _; (simp; exact ⟨rfl, rfl⟩))); (focus (intro _; (simp; rfl))); (focus (omega)); (focus (omega)); (focus (omega)); (refine hK _ _ ?_; clear hK K)) | ((with_reducible refine' wp_index_arr (j := (t - 7)) ?_ ?_ ?_ ?_ ?_ ?_ ?_ ?_); rotate_left 7; (focus rfl); (focus rfl); (focus (intro _; (simp; exact ⟨rfl, rfl⟩))); (focus (intro _; (simp; rfl))); (focus (omega)); (focus (omega)); (focus (omega)); (refine hK _ _ ?_; clear hK K)) | ((with_reducible refine' wp_index_arr (j := t) ?_ ?_ ?_ ?_ ?_ ?_ ?_ ?_); rotate_left 7; (focus rfl); (focus rfl); (focus (intro _; (simp; exact ⟨rfl, rfl⟩))); (focus (intro _; (simp; rfl))); (focus (omega)); (focus (omega)); (focus (omega)); (refine hK _ _ ?_; clear hK K)) | ((with_reducible refine' wp_arr_load hS ?_ ?_ ?_ ?_ ?_); rotate_left 7; (focus rfl); (focus ((repeat (with_reducible exact Split.here)); done)); (focus (with_reducible assumption)); (focus (intro _; (simp; done))); (refine hK _ _ ?_; clear hK K)) | ((with_reducible refine' wp_arr_store (u := ext (sched p t) t) hS ?_ ?_ ?_ ?_ ?_ ?_); rotate_left 5; (focus rfl); (focus ((repeat (with_reducible exact Split.here)); done)); (focus rfl); (focus exact hj); (focus (intro _; (simp; done))); intro w'; clear hS; intro hS; (refine hK _ _ ?_; clear hK K))) | (((with_reducible refine Txh.wpHeld_free ?_ ?_ ?_ ?_ ?_); (focus rfl); (focus rfl); (focus rfl); (focus decide +kernel); intro _ _)) | ((with_reducible refine Txt.wp_region_text ?_ ?_ ?_); (focus kernel_rfl); (focus decide +kernel); intro Q' hQ'; have hS1 := hS.drew; clear hS; have hS := hS1; clear hS1) | (with_reducible refine Txt.wpTxt_nil ?_) | ((first | ((with_reducible refine wpList_plain ?_ ?_); (focus rfl); intro K hK) | ((with_reducible refine Txt.wpTxt_plain ?_ ?_ ?_); (focus rfl); (focus rfl); intro K hK)); first | ((with_reducible refine' wp_index_arr (j := (t - 15)) ?_ ?_ ?_ ?_ ?_ ?_ ?_ ?_); rotate_left 7; (focus rfl); (focus rfl); (focus (intro _; (simp; exact ⟨rfl, rfl⟩))); (focus (intro _; (simp; rfl))); (focus (omega)); (focus (omega)); (focus (omega)); (refine hK _ _ ?_; clear hK K)) | ((with_reducible refine' wp_index_arr (j := (t - 2)) ?_ ?_ ?_ ?_ ?_ ?_ ?_ ?_); rotate_left 7; (focus rfl); (focus rfl); (focus (intro _; (simp; exact ⟨rfl, rfl⟩))); (focus (intro _; (simp; rfl))); (focus (omega)); (focus (omega)); (focus (omega)); (refine hK _ _ ?_; clear hK K)) | ((with_reducible refine' wp_arr_load hS ?_ ?_ ?_ ?_ ?_); rotate_left 7; (focus rfl); (focus ((repeat (with_reducible exact Split.here)); done)); (focus (with_reducible assumption)); (focus (intro _; (simp; done))); (refine hK _ _ ?_; clear hK K))) | ((with_reducible refine Txt.wpTxt_plain ?_ ?_ ?_); (focus with_reducible rfl); (focus rfl); intro _ _))
        go_roundw
        case rel => exact ⟨t + 1, by omega, by go_num, by rw [hset.out] at hS; exact hS⟩
        case measure => simp [intOf]; omega
    case neg =>
      obtain rfl : t = 64 := by omega
      clear ht hlt
      have he : sched p 64 ++ zeros (64 - 64) = sched p 64 := by simp [zeros]
      rw [he] at hS
      clear he hr
      have hpi : s.piece p = s.plus (rounds s (sched p 64) 64) := rfl
      have hl := sched_length p 64
      obtain ⟨sw, hsw⟩ : ∃ sw, sw = sched p 64 := ⟨_, rfl⟩
      rw [← hsw] at hS hpi hl
      have Hpi := Lib.hid hpi
      clear hpi hsw
      have hTab : ∀ (j : Nat) (u : Value), (K.map W)[j]? = some u → w0.cell? ((⟨19, 0, none⟩ : Addr).add j) = some u := by
        intro j u hu
        rw [List.getElem?_map, Option.map_eq_some_iff] at hu
        obtain ⟨x, hx, rfl⟩ := hu
        rw [addr_add, Nat.zero_add]
        exact hT j x hx
      go_wp2_with (((((with_reducible refine wpList_plain ?_ ?_); (focus rfl); intro K hK)); first | ((with_reducible refine' wp_loadN hS ?_ ?_ ?_ ?_ ?_ ?_ ?_); rotate_left 8; (focus rfl); (focus ((repeat (first | with_reducible exact Split.here | with_reducible apply Split.there)); done)); (focus (intro _; (simp; done))); (focus (intro _; (simp; rfl))); (focus (simp; done)); (focus (simp; rfl)); (refine hK _ _ ?_; clear hK K)) | ((with_reducible refine' wp_storeN hS ?_ ?_ ?_ ?_ ?_ ?_ ?_ ?_); rotate_left 7; (focus rfl); (focus ((repeat (with_reducible exact Split.here)); done)); (focus (conv => lhs; whnf)); (focus (intro _; (simp; rfl))); (focus rfl); (focus (simp [Value.cells, Value.oneCell']; done)); (focus (simp; done)); intro w'; clear hS; intro hS; (try simp only [setCells, Value.cells, List.take_succ_cons, List.take_zero, List.drop_succ_cons, List.drop_zero, List.append_nil, List.nil_append, List.cons_append, List.length_cons, List.length_nil, Nat.zero_add, Nat.reduceAdd, List.drop_nil] at hS); (refine hK _ _ ?_; clear hK K)) | ((with_reducible refine' wp_alloc hS ?_ ?_); rotate_left 1; (focus (intro _; (simp; rfl))); intro w' b'; clear hS; intro hS; (try simp only [Value.cells] at hS); (refine hK _ _ ?_; clear hK K)) | ((with_reducible refine' wp_loadN_old hS ?_ ?_ ?_ ?_ ?_ ?_); rotate_left 3; (focus rfl); (focus (with_reducible assumption)); (focus (intro _; (simp; done))); (focus (intro _; (simp; rfl))); (focus rfl); (refine hK _ _ ?_; clear hK K))))
      obtain ⟨bv, hbv, hS⟩ := name0 hS
      subst hbv
      go_loopw [97] (fun i wr => ∃ t : Nat, t ≤ 64 ∧ i = .int .i64 t ∧ Sat w0 wr (isWd bv (rounds s sw t) :: Blk bw (.cells (sw.map W).toArray 179) :: isSt b s rv nv :: L)) (fun i _ => 64 - (intOf i).toNat)
      case atStart => exact ⟨0, by omega, rfl, hS⟩
      case round =>
        clear hS
        obtain ⟨t, ht, rfl, hS⟩ := hrel
        by_cases hlt : t < 64
        case pos =>
          obtain ⟨r, hr⟩ : ∃ r, r = rounds s sw t := ⟨_, rfl⟩
          have hnext : rounds s sw (t + 1) = r.round (K.getD t 0) (sw.getD t 0) := by rw [hr]; rfl
          rw [← hr] at hS
          clear hr
          have hk : (K.map W).toArray[(t : Int).toNat]? = some (W (K.getD t 0)) := by
            have : t < K.length := hlt
            simp [List.getElem?_eq_getElem this]
          obtain ⟨kt, hkt⟩ : ∃ kt, kt = K.getD t 0 := ⟨_, rfl⟩
          rw [← hkt] at hk hnext
          have Hk := Lib.hid hk
          clear hkt hk
          have gw : sw[t]? = some (sw.getD t 0) := by
            have : t < sw.length := by omega
            rw [List.getD_eq_getElem?_getD, List.getElem?_eq_getElem this]
            rfl
          obtain ⟨wt, hwt⟩ : ∃ wt, wt = sw.getD t 0 := ⟨_, rfl⟩
          rw [← hwt] at gw hnext
          have Hnext := Lib.hid hnext
          clear hwt hnext
          go_wp2_with (first | (have hS1 := hS.drew; clear hS; have hS := hS1; clear hS1; (with_reducible refine' Txh.wp_region_held (id := 13) (fun _ => True) [(4, _), (7, _), (11, _)] [4, 7, 11] 12 rfl ?hm13x175 ?hB13x175 ?hI13x175 ?hh13x175); (case hm13x175 => kernel_rfl); (case hB13x175 => decide +kernel); (case hI13x175 => exact trivial); (case' hh13x175 => (intro Q' hQ'))) | (have hS1 := hS.drew; clear hS; have hS := hS1; clear hS1; (with_reducible refine' Txh.wp_region_held (id := 14) (fun _ => True) [(2, _), (5, _), (9, _)] [2, 5, 9] 10 rfl ?hm14x176 ?hB14x176 ?hI14x176 ?hh14x176); (case hm14x176 => kernel_rfl); (case hB14x176 => decide +kernel); (case hI14x176 => exact trivial); (case' hh14x176 => (intro Q' hQ'))) | (with_reducible refine Txh.wpHeld_nil ?_) | (((with_reducible refine' Txh.wpHeld_held ?_ ?_ ?_ ?_); rotate_left 1; (focus rfl); (focus rfl); (focus ((with_reducible refine' fixed_call2 (f := 108) ?_ ?_ ?_ ?_); rotate_left 2; (focus (conv => lhs; whnf)); (focus (conv => lhs; whnf)); (focus (intro _ _; simp)); (focus (intro w5 hI5; (with_reducible exact turn_at _ _ (by decide) (by decide) w5))))))) | ((with_reducible refine Txh.wpHeld_free ?_ ?_ ?_ ?_ ?_); (focus rfl); (focus rfl); (focus rfl); (focus decide +kernel); intro K hK; first | ((with_reducible refine' wp_bin ?_ ?_ ?_ ?_ ?_); rotate_left 3; (focus (conv => lhs; whnf)); (focus (conv => lhs; whnf)); (focus (intro _; rfl)); (focus (intro _; first | with_reducible exact run_w_add _ _ _ | with_reducible exact run_w_xor _ _ _ | with_reducible exact run_w_and _ _ _)); (refine hK _ _ ?_; clear hK K)) | ((with_reducible refine' wp_un ?_ ?_ ?_); rotate_left 2; (focus (conv => lhs; whnf)); (focus (intro _; exact run_w_not _)); (refine hK _ _ ?_; clear hK K)) | ((with_reducible refine' wp_index_arr (j := t) ?_ ?_ ?_ ?_ ?_ ?_ ?_ ?_); rotate_left 7; (focus rfl); (focus rfl); (focus (intro _; (simp; exact ⟨rfl, rfl⟩))); (focus (intro _; (simp; rfl))); (focus (omega)); (focus (omega)); (focus (omega)); (refine hK _ _ ?_; clear hK K)) | ((with_reducible refine' wp_arr_load hS ?_ ?_ ?_ ?_ ?_); rotate_left 7; (focus rfl); (focus ((repeat (first | with_reducible exact Split.here | with_reducible apply Split.there)); done)); (focus (with_reducible assumption)); (focus (intro _; (simp; done))); (refine hK _ _ ?_; clear hK K)) | ((with_reducible refine' wp_load hS ?_ ?_ ?_ ?_ ?_); rotate_left 7; (focus rfl); (focus ((repeat (with_reducible exact Split.here)); done)); (focus (((simp only [List.getElem?_toArray, List.getElem?_cons_zero, List.getElem?_cons_succ]); rfl))); (focus (intro _; (simp; done))); (refine hK _ _ ?_; clear hK K))) | (((with_reducible refine Txh.wpHeld_free ?_ ?_ ?_ ?_ ?_); (focus rfl); (focus rfl); (focus rfl); (focus decide +kernel); intro _ _)) | ((with_reducible refine Txt.wp_region_text ?_ ?_ ?_); (focus kernel_rfl); (focus decide +kernel); intro Q' hQ'; have hS1 := hS.drew; clear hS; have hS := hS1; clear hS1) | (with_reducible refine Txt.wpTxt_nil ?_) | ((first | ((with_reducible refine wpList_plain ?_ ?_); (focus rfl); intro K hK) | ((with_reducible refine Txt.wpTxt_plain ?_ ?_ ?_); (focus rfl); (focus rfl); intro K hK)); first | ((with_reducible refine' wp_bin ?_ ?_ ?_ ?_ ?_); rotate_left 3; (focus (conv => lhs; whnf)); (focus (conv => lhs; whnf)); (focus (intro _; rfl)); (focus (intro _; with_reducible exact run_w_add _ _ _)); (refine hK _ _ ?_; clear hK K)) | ((with_reducible refine' wp_index_val (v := W kt) ?_ ?_ ?_ ?_ ?_ ?_ ?_ ?_ ?_); rotate_left 5; (focus rfl); (focus rfl); (focus (intro _; (simp; exact ⟨rfl, rfl⟩))); (focus (intro _; (simp; done))); (focus (intro _; (simp; done))); (focus (omega)); (focus (omega)); (focus exact Hk.out); (refine hK _ _ ?_; clear hK K)) | ((with_reducible refine' wp_copy [W r.a, W r.b, W r.c, W r.d, W r.e, W r.f, W r.g] hS ?_ ?_ ?_ ?_ ?_ ?_ ?_ ?_ ?_ ?_); rotate_left 11; (focus rfl); (focus ((repeat (with_reducible exact Split.here)); done)); (focus rfl); (focus rfl); (focus kernel_rfl); (focus rfl); (focus (exact cells_of_split hS (by ((repeat (with_reducible exact Split.here)); done)) (seven _ _ _ _ _ _ _ _))); (focus (exact Nat.le_refl _)); (focus (exact seven1 _ _ _ _ _ _ _)); intro w'; clear hS; intro hS; (try simp only [setCells, List.take_succ_cons, List.take_zero, List.drop_succ_cons, List.drop_zero, List.append_nil, List.nil_append, List.cons_append, List.length_cons, List.length_nil, Nat.zero_add, Nat.reduceAdd, List.drop_nil] at hS); (refine hK _ _ ?_; clear hK K)) | ((with_reducible refine' wp_load hS ?_ ?_ ?_ ?_ ?_); rotate_left 7; (focus rfl); (focus ((repeat (with_reducible exact Split.here)); done)); (focus (((simp only [List.getElem?_toArray, List.getElem?_cons_zero, List.getElem?_cons_succ]); rfl))); (focus (intro _; (simp; done))); (refine hK _ _ ?_; clear hK K)) | ((with_reducible refine' wp_store hS ?_ ?_ ?_ ?_ ?_ ?_ ?_); rotate_left 6; (focus rfl); (focus ((repeat (with_reducible exact Split.here)); done)); (focus (conv => lhs; whnf)); (focus (intro _; (simp; done))); (focus rfl); (focus (simp; done)); intro w'; clear hS; intro hS; (try simp only [List.setIfInBounds_toArray, List.set_cons_succ, List.set_cons_zero] at hS); (refine hK _ _ ?_; clear hK K))) | ((with_reducible refine Txt.wpTxt_plain ?_ ?_ ?_); (focus with_reducible rfl); (focus rfl); intro _ _))
          go_roundw
          case rel => exact ⟨t + 1, by omega, by go_num, by rw [Hnext.out]; exact hS⟩
          case measure => simp [intOf]; omega
        case neg =>
          obtain rfl : t = 64 := by omega
          clear hlt ht hTab
          rw [show ((64 : Nat) : Int) = 64 from rfl]
          obtain ⟨r, hr⟩ : ∃ r, r = rounds s sw 64 := ⟨_, rfl⟩
          have Hr := Lib.hid hr
          rw [← hr] at hS
          clear hr
          go_wp2_with (fail)
          go_loopw [176] (fun i wr => ∃ k : Nat, k ≤ 8 ∧ i = .int .i64 k ∧ Sat w0 wr (isSt b (plusK s r k) rv nv :: isWd bv r :: Blk bw (.cells (sw.map W).toArray 179) :: L)) (fun i _ => 8 - (intOf i).toNat)
          case atStart => exact ⟨0, by omega, rfl, by (replace hS : Sat w0 _ (isWd bv r :: Blk bw (.cells (sw.map W).toArray 179) :: isSt b (plusK s r 0) rv nv :: L) := hS); exact hS.pick 2⟩
          case round =>
            clear hS
            obtain ⟨k, hk, rfl, hS⟩ := hrel
            obtain rfl | rfl | rfl | rfl | rfl | rfl | rfl | rfl | rfl : k = 0 ∨ k = 1 ∨ k = 2 ∨ k = 3 ∨ k = 4 ∨ k = 5 ∨ k = 6 ∨ k = 7 ∨ k = 8 := by omega
            case inl =>
              replace hS : Sat w0 wr (Blk b (.cells #[W s.a, W s.b, W s.c, W s.d, W s.e, W s.f, W s.g, W s.h, rv, nv] 177) :: isWd bv r :: Blk bw (.cells (sw.map W).toArray 179) :: L) := hS
              go_wp2_with (first | ((with_reducible refine Txt.wp_region_text ?_ ?_ ?_); (focus kernel_rfl); (focus decide +kernel); intro Q' hQ'; have hS1 := hS.drew; clear hS; have hS := hS1; clear hS1) | (with_reducible refine Txt.wpTxt_nil ?_) | ((first | ((with_reducible refine wpList_plain ?_ ?_); (focus rfl); intro K hK) | ((with_reducible refine Txt.wpTxt_plain ?_ ?_ ?_); (focus rfl); (focus rfl); intro K hK)); first | ((with_reducible refine' wp_bin ?_ ?_ ?_ ?_ ?_); rotate_left 3; (focus (conv => lhs; whnf)); (focus (conv => lhs; whnf)); (focus (intro _; rfl)); (focus (intro _; with_reducible exact run_w_add _ _ _)); (refine hK _ _ ?_; clear hK K)) | ((with_reducible refine' wp_load hS ?_ ?_ ?_ ?_ ?_); rotate_left 7; (focus rfl); (focus ((repeat (first | with_reducible exact Split.here | with_reducible apply Split.there)); done)); (focus (((simp only [List.getElem?_toArray, List.getElem?_cons_zero, List.getElem?_cons_succ]); rfl))); (focus (intro _; (simp; done))); (refine hK _ _ ?_; clear hK K)) | ((with_reducible refine' wp_store hS ?_ ?_ ?_ ?_ ?_ ?_ ?_); rotate_left 6; (focus rfl); (focus ((repeat (with_reducible exact Split.here)); done)); (focus (conv => lhs; whnf)); (focus (intro _; (simp; done))); (focus rfl); (focus (simp; done)); intro w'; clear hS; intro hS; (try simp only [List.setIfInBounds_toArray, List.set_cons_succ, List.set_cons_zero] at hS); (refine hK _ _ ?_; clear hK K))) | ((with_reducible refine Txt.wpTxt_plain ?_ ?_ ?_); (focus with_reducible rfl); (focus rfl); intro _ _))
              go_roundw
              case rel => exact ⟨1, by omega, by go_num, hS⟩
              case measure => simp [intOf]
            case inr.inl =>
              replace hS : Sat w0 wr (Blk b (.cells #[W (s.a + r.a), W s.b, W s.c, W s.d, W s.e, W s.f, W s.g, W s.h, rv, nv] 177) :: isWd bv r :: Blk bw (.cells (sw.map W).toArray 179) :: L) := hS
              go_wp2_with (first | ((with_reducible refine Txt.wp_region_text ?_ ?_ ?_); (focus kernel_rfl); (focus decide +kernel); intro Q' hQ'; have hS1 := hS.drew; clear hS; have hS := hS1; clear hS1) | (with_reducible refine Txt.wpTxt_nil ?_) | ((first | ((with_reducible refine wpList_plain ?_ ?_); (focus rfl); intro K hK) | ((with_reducible refine Txt.wpTxt_plain ?_ ?_ ?_); (focus rfl); (focus rfl); intro K hK)); first | ((with_reducible refine' wp_bin ?_ ?_ ?_ ?_ ?_); rotate_left 3; (focus (conv => lhs; whnf)); (focus (conv => lhs; whnf)); (focus (intro _; rfl)); (focus (intro _; with_reducible exact run_w_add _ _ _)); (refine hK _ _ ?_; clear hK K)) | ((with_reducible refine' wp_load hS ?_ ?_ ?_ ?_ ?_); rotate_left 7; (focus rfl); (focus ((repeat (first | with_reducible exact Split.here | with_reducible apply Split.there)); done)); (focus (((simp only [List.getElem?_toArray, List.getElem?_cons_zero, List.getElem?_cons_succ]); rfl))); (focus (intro _; (simp; done))); (refine hK _ _ ?_; clear hK K)) | ((with_reducible refine' wp_store hS ?_ ?_ ?_ ?_ ?_ ?_ ?_); rotate_left 6; (focus rfl); (focus ((repeat (with_reducible exact Split.here)); done)); (focus (conv => lhs; whnf)); (focus (intro _; (simp; done))); (focus rfl); (focus (simp; done)); intro w'; clear hS; intro hS; (try simp only [List.setIfInBounds_toArray, List.set_cons_succ, List.set_cons_zero] at hS); (refine hK _ _ ?_; clear hK K))) | ((with_reducible refine Txt.wpTxt_plain ?_ ?_ ?_); (focus with_reducible rfl); (focus rfl); intro _ _))
              go_roundw
              case rel => exact ⟨2, by omega, by go_num, hS⟩
              case measure => simp [intOf]
            case inr.inr.inl =>
              replace hS : Sat w0 wr (Blk b (.cells #[W (s.a + r.a), W (s.b + r.b), W s.c, W s.d, W s.e, W s.f, W s.g, W s.h, rv, nv] 177) :: isWd bv r :: Blk bw (.cells (sw.map W).toArray 179) :: L) := hS
              go_wp2_with (first | ((with_reducible refine Txt.wp_region_text ?_ ?_ ?_); (focus kernel_rfl); (focus decide +kernel); intro Q' hQ'; have hS1 := hS.drew; clear hS; have hS := hS1; clear hS1) | (with_reducible refine Txt.wpTxt_nil ?_) | ((first | ((with_reducible refine wpList_plain ?_ ?_); (focus rfl); intro K hK) | ((with_reducible refine Txt.wpTxt_plain ?_ ?_ ?_); (focus rfl); (focus rfl); intro K hK)); first | ((with_reducible refine' wp_bin ?_ ?_ ?_ ?_ ?_); rotate_left 3; (focus (conv => lhs; whnf)); (focus (conv => lhs; whnf)); (focus (intro _; rfl)); (focus (intro _; with_reducible exact run_w_add _ _ _)); (refine hK _ _ ?_; clear hK K)) | ((with_reducible refine' wp_load hS ?_ ?_ ?_ ?_ ?_); rotate_left 7; (focus rfl); (focus ((repeat (first | with_reducible exact Split.here | with_reducible apply Split.there)); done)); (focus (((simp only [List.getElem?_toArray, List.getElem?_cons_zero, List.getElem?_cons_succ]); rfl))); (focus (intro _; (simp; done))); (refine hK _ _ ?_; clear hK K)) | ((with_reducible refine' wp_store hS ?_ ?_ ?_ ?_ ?_ ?_ ?_); rotate_left 6; (focus rfl); (focus ((repeat (with_reducible exact Split.here)); done)); (focus (conv => lhs; whnf)); (focus (intro _; (simp; done))); (focus rfl); (focus (simp; done)); intro w'; clear hS; intro hS; (try simp only [List.setIfInBounds_toArray, List.set_cons_succ, List.set_cons_zero] at hS); (refine hK _ _ ?_; clear hK K))) | ((with_reducible refine Txt.wpTxt_plain ?_ ?_ ?_); (focus with_reducible rfl); (focus rfl); intro _ _))
              go_roundw
              case rel => exact ⟨3, by omega, by go_num, hS⟩
              case measure => simp [intOf]
            case inr.inr.inr.inl =>
              replace hS : Sat w0 wr (Blk b (.cells #[W (s.a + r.a), W (s.b + r.b), W (s.c + r.c), W s.d, W s.e, W s.f, W s.g, W s.h, rv, nv] 177) :: isWd bv r :: Blk bw (.cells (sw.map W).toArray 179) :: L) := hS
              go_wp2_with (first | ((with_reducible refine Txt.wp_region_text ?_ ?_ ?_); (focus kernel_rfl); (focus decide +kernel); intro Q' hQ'; have hS1 := hS.drew; clear hS; have hS := hS1; clear hS1) | (with_reducible refine Txt.wpTxt_nil ?_) | ((first | ((with_reducible refine wpList_plain ?_ ?_); (focus rfl); intro K hK) | ((with_reducible refine Txt.wpTxt_plain ?_ ?_ ?_); (focus rfl); (focus rfl); intro K hK)); first | ((with_reducible refine' wp_bin ?_ ?_ ?_ ?_ ?_); rotate_left 3; (focus (conv => lhs; whnf)); (focus (conv => lhs; whnf)); (focus (intro _; rfl)); (focus (intro _; with_reducible exact run_w_add _ _ _)); (refine hK _ _ ?_; clear hK K)) | ((with_reducible refine' wp_load hS ?_ ?_ ?_ ?_ ?_); rotate_left 7; (focus rfl); (focus ((repeat (first | with_reducible exact Split.here | with_reducible apply Split.there)); done)); (focus (((simp only [List.getElem?_toArray, List.getElem?_cons_zero, List.getElem?_cons_succ]); rfl))); (focus (intro _; (simp; done))); (refine hK _ _ ?_; clear hK K)) | ((with_reducible refine' wp_store hS ?_ ?_ ?_ ?_ ?_ ?_ ?_); rotate_left 6; (focus rfl); (focus ((repeat (with_reducible exact Split.here)); done)); (focus (conv => lhs; whnf)); (focus (intro _; (simp; done))); (focus rfl); (focus (simp; done)); intro w'; clear hS; intro hS; (try simp only [List.setIfInBounds_toArray, List.set_cons_succ, List.set_cons_zero] at hS); (refine hK _ _ ?_; clear hK K))) | ((with_reducible refine Txt.wpTxt_plain ?_ ?_ ?_); (focus with_reducible rfl); (focus rfl); intro _ _))
              go_roundw
              case rel => exact ⟨4, by omega, by go_num, hS⟩
              case measure => simp [intOf]
            case inr.inr.inr.inr.inl =>
              replace hS : Sat w0 wr (Blk b (.cells #[W (s.a + r.a), W (s.b + r.b), W (s.c + r.c), W (s.d + r.d), W s.e, W s.f, W s.g, W s.h, rv, nv] 177) :: isWd bv r :: Blk bw (.cells (sw.map W).toArray 179) :: L) := hS
              go_wp2_with (first | ((with_reducible refine Txt.wp_region_text ?_ ?_ ?_); (focus kernel_rfl); (focus decide +kernel); intro Q' hQ'; have hS1 := hS.drew; clear hS; have hS := hS1; clear hS1) | (with_reducible refine Txt.wpTxt_nil ?_) | ((first | ((with_reducible refine wpList_plain ?_ ?_); (focus rfl); intro K hK) | ((with_reducible refine Txt.wpTxt_plain ?_ ?_ ?_); (focus rfl); (focus rfl); intro K hK)); first | ((with_reducible refine' wp_bin ?_ ?_ ?_ ?_ ?_); rotate_left 3; (focus (conv => lhs; whnf)); (focus (conv => lhs; whnf)); (focus (intro _; rfl)); (focus (intro _; with_reducible exact run_w_add _ _ _)); (refine hK _ _ ?_; clear hK K)) | ((with_reducible refine' wp_load hS ?_ ?_ ?_ ?_ ?_); rotate_left 7; (focus rfl); (focus ((repeat (first | with_reducible exact Split.here | with_reducible apply Split.there)); done)); (focus (((simp only [List.getElem?_toArray, List.getElem?_cons_zero, List.getElem?_cons_succ]); rfl))); (focus (intro _; (simp; done))); (refine hK _ _ ?_; clear hK K)) | ((with_reducible refine' wp_store hS ?_ ?_ ?_ ?_ ?_ ?_ ?_); rotate_left 6; (focus rfl); (focus ((repeat (with_reducible exact Split.here)); done)); (focus (conv => lhs; whnf)); (focus (intro _; (simp; done))); (focus rfl); (focus (simp; done)); intro w'; clear hS; intro hS; (try simp only [List.setIfInBounds_toArray, List.set_cons_succ, List.set_cons_zero] at hS); (refine hK _ _ ?_; clear hK K))) | ((with_reducible refine Txt.wpTxt_plain ?_ ?_ ?_); (focus with_reducible rfl); (focus rfl); intro _ _))
              go_roundw
              case rel => exact ⟨5, by omega, by go_num, hS⟩
              case measure => simp [intOf]
            case inr.inr.inr.inr.inr.inl =>
              replace hS : Sat w0 wr (Blk b (.cells #[W (s.a + r.a), W (s.b + r.b), W (s.c + r.c), W (s.d + r.d), W (s.e + r.e), W s.f, W s.g, W s.h, rv, nv] 177) :: isWd bv r :: Blk bw (.cells (sw.map W).toArray 179) :: L) := hS
              go_wp2_with (first | ((with_reducible refine Txt.wp_region_text ?_ ?_ ?_); (focus kernel_rfl); (focus decide +kernel); intro Q' hQ'; have hS1 := hS.drew; clear hS; have hS := hS1; clear hS1) | (with_reducible refine Txt.wpTxt_nil ?_) | ((first | ((with_reducible refine wpList_plain ?_ ?_); (focus rfl); intro K hK) | ((with_reducible refine Txt.wpTxt_plain ?_ ?_ ?_); (focus rfl); (focus rfl); intro K hK)); first | ((with_reducible refine' wp_bin ?_ ?_ ?_ ?_ ?_); rotate_left 3; (focus (conv => lhs; whnf)); (focus (conv => lhs; whnf)); (focus (intro _; rfl)); (focus (intro _; with_reducible exact run_w_add _ _ _)); (refine hK _ _ ?_; clear hK K)) | ((with_reducible refine' wp_load hS ?_ ?_ ?_ ?_ ?_); rotate_left 7; (focus rfl); (focus ((repeat (first | with_reducible exact Split.here | with_reducible apply Split.there)); done)); (focus (((simp only [List.getElem?_toArray, List.getElem?_cons_zero, List.getElem?_cons_succ]); rfl))); (focus (intro _; (simp; done))); (refine hK _ _ ?_; clear hK K)) | ((with_reducible refine' wp_store hS ?_ ?_ ?_ ?_ ?_ ?_ ?_); rotate_left 6; (focus rfl); (focus ((repeat (with_reducible exact Split.here)); done)); (focus (conv => lhs; whnf)); (focus (intro _; (simp; done))); (focus rfl); (focus (simp; done)); intro w'; clear hS; intro hS; (try simp only [List.setIfInBounds_toArray, List.set_cons_succ, List.set_cons_zero] at hS); (refine hK _ _ ?_; clear hK K))) | ((with_reducible refine Txt.wpTxt_plain ?_ ?_ ?_); (focus with_reducible rfl); (focus rfl); intro _ _))
              go_roundw
              case rel => exact ⟨6, by omega, by go_num, hS⟩
              case measure => simp [intOf]
            case inr.inr.inr.inr.inr.inr.inl =>
              replace hS : Sat w0 wr (Blk b (.cells #[W (s.a + r.a), W (s.b + r.b), W (s.c + r.c), W (s.d + r.d), W (s.e + r.e), W (s.f + r.f), W s.g, W s.h, rv, nv] 177) :: isWd bv r :: Blk bw (.cells (sw.map W).toArray 179) :: L) := hS
              go_wp2_with (first | ((with_reducible refine Txt.wp_region_text ?_ ?_ ?_); (focus kernel_rfl); (focus decide +kernel); intro Q' hQ'; have hS1 := hS.drew; clear hS; have hS := hS1; clear hS1) | (with_reducible refine Txt.wpTxt_nil ?_) | ((first | ((with_reducible refine wpList_plain ?_ ?_); (focus rfl); intro K hK) | ((with_reducible refine Txt.wpTxt_plain ?_ ?_ ?_); (focus rfl); (focus rfl); intro K hK)); first | ((with_reducible refine' wp_bin ?_ ?_ ?_ ?_ ?_); rotate_left 3; (focus (conv => lhs; whnf)); (focus (conv => lhs; whnf)); (focus (intro _; rfl)); (focus (intro _; with_reducible exact run_w_add _ _ _)); (refine hK _ _ ?_; clear hK K)) | ((with_reducible refine' wp_load hS ?_ ?_ ?_ ?_ ?_); rotate_left 7; (focus rfl); (focus ((repeat (first | with_reducible exact Split.here | with_reducible apply Split.there)); done)); (focus (((simp only [List.getElem?_toArray, List.getElem?_cons_zero, List.getElem?_cons_succ]); rfl))); (focus (intro _; (simp; done))); (refine hK _ _ ?_; clear hK K)) | ((with_reducible refine' wp_store hS ?_ ?_ ?_ ?_ ?_ ?_ ?_); rotate_left 6; (focus rfl); (focus ((repeat (with_reducible exact Split.here)); done)); (focus (conv => lhs; whnf)); (focus (intro _; (simp; done))); (focus rfl); (focus (simp; done)); intro w'; clear hS; intro hS; (try simp only [List.setIfInBounds_toArray, List.set_cons_succ, List.set_cons_zero] at hS); (refine hK _ _ ?_; clear hK K))) | ((with_reducible refine Txt.wpTxt_plain ?_ ?_ ?_); (focus with_reducible rfl); (focus rfl); intro _ _))
              go_roundw
              case rel => exact ⟨7, by omega, by go_num, hS⟩
              case measure => simp [intOf]
            case inr.inr.inr.inr.inr.inr.inr.inl =>
              replace hS : Sat w0 wr (Blk b (.cells #[W (s.a + r.a), W (s.b + r.b), W (s.c + r.c), W (s.d + r.d), W (s.e + r.e), W (s.f + r.f), W (s.g + r.g), W s.h, rv, nv] 177) :: isWd bv r :: Blk bw (.cells (sw.map W).toArray 179) :: L) := hS
              go_wp2_with (first | ((with_reducible refine Txt.wp_region_text ?_ ?_ ?_); (focus kernel_rfl); (focus decide +kernel); intro Q' hQ'; have hS1 := hS.drew; clear hS; have hS := hS1; clear hS1) | (with_reducible refine Txt.wpTxt_nil ?_) | ((first | ((with_reducible refine wpList_plain ?_ ?_); (focus rfl); intro K hK) | ((with_reducible refine Txt.wpTxt_plain ?_ ?_ ?_); (focus rfl); (focus rfl); intro K hK)); first | ((with_reducible refine' wp_bin ?_ ?_ ?_ ?_ ?_); rotate_left 3; (focus (conv => lhs; whnf)); (focus (conv => lhs; whnf)); (focus (intro _; rfl)); (focus (intro _; with_reducible exact run_w_add _ _ _)); (refine hK _ _ ?_; clear hK K)) | ((with_reducible refine' wp_load hS ?_ ?_ ?_ ?_ ?_); rotate_left 7; (focus rfl); (focus ((repeat (first | with_reducible exact Split.here | with_reducible apply Split.there)); done)); (focus (((simp only [List.getElem?_toArray, List.getElem?_cons_zero, List.getElem?_cons_succ]); rfl))); (focus (intro _; (simp; done))); (refine hK _ _ ?_; clear hK K)) | ((with_reducible refine' wp_store hS ?_ ?_ ?_ ?_ ?_ ?_ ?_); rotate_left 6; (focus rfl); (focus ((repeat (with_reducible exact Split.here)); done)); (focus (conv => lhs; whnf)); (focus (intro _; (simp; done))); (focus rfl); (focus (simp; done)); intro w'; clear hS; intro hS; (try simp only [List.setIfInBounds_toArray, List.set_cons_succ, List.set_cons_zero] at hS); (refine hK _ _ ?_; clear hK K))) | ((with_reducible refine Txt.wpTxt_plain ?_ ?_ ?_); (focus with_reducible rfl); (focus rfl); intro _ _))
              go_roundw
              case rel => exact ⟨8, by omega, by go_num, hS⟩
              case measure => simp [intOf]
            case inr.inr.inr.inr.inr.inr.inr.inr =>
              go_wp2_with (fail)
              refine bodyPost_end (results_none rfl _ _ _) rfl ?_
              refine ⟨rfl, ?_⟩
              rw [Hpi.out, ← Hr.out]
              exact (((hS.pick 1).drop).pick 1).drop
end Go.Proofs.YtndnojbpapjdoaaDoor
