/- Package fields walked: the letters, and what is put. -/
import Derived.Test.YtndnojbpapjdoaaDoorPg
import Derived.Test.YtndnojbpapjdoaaDoorSpc
import Derived.Lib.Bytealg
import Derived.Lib.Walk
import Derived.Deep.DeepCutAuto
import Derived.Deep.CutBlock
set_option linter.unusedSimpArgs false
set_option linter.unusedVariables false
set_option linter.unusedSectionVars false
namespace Go.Proofs.YtndnojbpapjdoaaDoor
open Go.Sp Go.RowKit Go.Fld


set_option maxHeartbeats 1000000 in
set_option maxRecDepth 100000 in
theorem liteIndex_any (s : ByteArray) (c : Int) (w : World) :
    Calls Tryd.prog 105 #[.string s, .int .u8 c] w fun e w' => e = .returned (.int .i64 (Lib.indexByte s.data.toList c.toNat.toUInt8)) ∧ w = w' := by
  go_enter Tryd.func105, Tryd.ntmps105
  go_wp2
  rw [run_callFunc_extern Tryd.func107 (by kernel_rfl) (by kernel_rfl) (by kernel_rfl) (e := Extern.BytealgIndexByte.indexByte) (by kernel_rfl), Lib.run_indexByteString]
  simp only [Result.andThen]
  rw [Oper.upon_value]
  go_wp2
  go_ret
  exact ⟨rfl, rfl⟩
theorem indexByte_any (s : ByteArray) (c : Int) (w : World) :
    Calls Tryd.prog 95 #[.string s, .int .u8 c] w fun e w' => e = .returned (.int .i64 (Lib.indexByte s.data.toList c.toNat.toUInt8)) ∧ w = w' := by
  go_enter Tryd.func95, Tryd.ntmps95
  go_wp2_with (go_at_call 105; refine (liteIndex_any _ _ _).mono ?_; rintro e w' ⟨rfl, rfl⟩)
  go_ret
  exact ⟨rfl, rfl⟩
theorem index_mem (l : List UInt8) (c : UInt8) : 0 ≤ Lib.indexByte l c ↔ c ∈ l := by
  induction l with
  | nil => simp [Lib.indexByte]
  | cons b l ih =>
    have hg := Lib.indexByte_ge l c
    unfold Lib.indexByte
    by_cases hb : b = c
    · simp [hb]
    · have h1 : (b == c) = false := by simpa using hb
      rw [h1]
      simp only [Bool.false_eq_true, if_false, List.mem_cons]
      have hb2 : ¬ c = b := fun h => hb h.symm
      by_cases h2 : Lib.indexByte l c = -1
      · have : ¬ c ∈ l := by rw [← ih]; omega
        simp [h2, hb2, this]
      · have h3 : (Lib.indexByte l c == -1) = false := by simpa using h2
        rw [h3]
        simp only [Bool.false_eq_true, if_false, hb2, false_or, ← ih]
        omega
theorem letter_at (c : UInt8) (h : isLetter c = true) : 0 ≤ Lib.indexByte [98, 104, 119, 113, 102, 116, 114] c := by
  rw [index_mem]
  simpa [isLetter, or_assoc] using h

set_option maxRecDepth 100000 in
set_option maxHeartbeats 1000000 in
theorem known_any (l : List UInt8) (h : ∀ c ∈ l, isLetter c = true) (hl : l.length ≤ 1000000) (w : World) : Calls Tryd.prog 88 #[S l] w fun r w' => r = .returned (.bool true) ∧ w = w' := by
  go_enter Tryd.func88, Tryd.ntmps88
  have hl' : (l.length : Int) ≤ 1000000 := by omega
  go_wp2_with (((((with_reducible refine wpList_plain ?_ ?_); (focus rfl); intro K hK)); ((with_reducible refine' wp_strlen ?_ ?_ ?_); rotate_left 1; (focus rfl); (focus (intro _; (simp; done))); (refine hK _ _ ?_; clear hK K))))
  go_loop [6] (fun i => ∃ k : Nat, k ≤ l.length ∧ i = .int .i64 k) (fun i => l.length - (intOf i).toNat)
  case atStart => exact ⟨0, by omega, rfl⟩
  case round =>
    obtain ⟨k, hk, rfl⟩ := hrel
    by_cases hlt : k < l.length
    case pos =>
      obtain ⟨c, hc⟩ : ∃ c, l[k]? = some c := ⟨_, List.getElem?_eq_getElem hlt⟩
      have hlet := letter_at c (h c (List.mem_of_getElem? hc))
      have Hc := Lib.hid hc
      clear hc
      go_wp2_with (first | (go_at_call 95; ((with_reducible refine' (indexByte_any _ _ _).mono ?_); rintro r4 w4 ⟨rfl, rfl⟩; rw [show (((c.toNat : Nat) : Int).toNat.toUInt8) = c from by simp]; rw [show (ByteArray.mk #[98, 104, 119, 113, 102, 116, 114]).data.toList = [98, 104, 119, 113, 102, 116, 114] from rfl])) | ((((with_reducible refine wpList_plain ?_ ?_); (focus rfl); intro K hK)); ((with_reducible refine' wp_str_index (c := c) ?_ ?_ ?_ ?_ ?_ ?_); rotate_left 3; (focus rfl); (focus rfl); (focus (intro _; (simp; done))); (focus omega); (focus exact Hc.out); (refine hK _ _ ?_; clear hK K))))
      go_round
      case rel => exact ⟨k + 1, by omega, by go_num⟩
      case measure => simp [intOf]; omega
    case neg =>
      obtain rfl : k = l.length := by omega
      go_wp2_with (fail)
      go_ret
      exact ⟨rfl, rfl⟩

theorem letter_cases {c : UInt8} (h : isLetter c = true) : c = 98 ∨ c = 104 ∨ c = 119 ∨ c = 113 ∨ c = 102 ∨ c = 116 ∨ c = 114 := by
  simpa [isLetter, or_assoc] using h
theorem width_any (c : UInt8) (h : isLetter c = true) (w : World) : Calls Tryd.prog 96 #[B c] w fun r w' => r = .returned (.int .i64 (width c : Nat)) ∧ w = w' := by
  rcases letter_cases h with rfl | rfl | rfl | rfl | rfl | rfl | rfl
  all_goals
    go_enter Tryd.func96, Tryd.ntmps96
    go_wp2
    go_ret
    exact ⟨rfl, rfl⟩
theorem text_any (c : UInt8) (h : isLetter c = true) (w : World) : Calls Tryd.prog 99 #[B c] w fun r w' => r = .returned (.bool (isText c)) ∧ w = w' := by
  rcases letter_cases h with rfl | rfl | rfl | rfl | rfl | rfl | rfl
  all_goals
    go_enter Tryd.func99, Tryd.ntmps99
    go_wp2
    go_ret
    exact ⟨rfl, rfl⟩
theorem most_any (n : Nat) (h : n = 1 ∨ n = 2 ∨ n = 4 ∨ n = 8) (w : World) : Calls Tryd.prog 100 #[.int .i64 (n : Int)] w fun r w' => r = .returned (.int .u64 (most n : Nat)) ∧ w = w' := by
  rcases h with rfl | rfl | rfl | rfl
  all_goals
    go_enter Tryd.func100, Tryd.ntmps100
    go_wp2
    go_ret
    exact ⟨rfl, rfl⟩

theorem be_snoc (x : UInt64) (n i : Nat) (h : i < n) : (be x n).take (n - (i + 1)) ++ [(x >>> UInt64.ofNat (8 * i)).toUInt8] = (be x n).take (n - i) := by
  induction n with
  | zero => omega
  | succ n ih =>
    by_cases hi : i = n
    · subst hi
      simp [be]
    · have e1 : n + 1 - (i + 1) = (n - (i + 1)) + 1 := by omega
      have e2 : n + 1 - i = (n - i) + 1 := by omega
      rw [e1, e2, be, List.take_succ_cons, List.take_succ_cons, List.cons_append, ih (by omega)]

set_option maxRecDepth 100000 in
set_option maxHeartbeats 1000000 in
theorem put_any (v : Value) (l : List UInt8) (x : UInt64) (n : Nat) (hn : n ≤ 8) (hlen : l.length ≤ 70368744177664) (w0 w : World) (L : List Asn) (hS : Sat w0 w (Bytes 5 v l :: L)) :
    Calls Tryd.prog 97 #[v, Q x, .int .i64 (n : Int)] w fun r w' => ∃ a c, r = .returned (.slice a (l ++ be x n).length c) ∧ (l ++ be x n).length ≤ c ∧ Sat w0 w' (Bytes 5 (.slice a (l ++ be x n).length c) (l ++ be x n) :: L) := by
  obtain ⟨a0, c0, rfl, _, hc0, _⟩ := hS.row_len
  go_enter Tryd.func97, Tryd.ntmps97
  go_wp2_with (fail)
  go_loopw [0, 7] (fun b i wr => ∃ (k : Nat) (a : Option Addr) (c : Nat), k ≤ n ∧ i = .int .i64 ((k : Int) - 1) ∧ b = .slice a (l ++ (be x n).take (n - k)).length c ∧ (l ++ (be x n).take (n - k)).length ≤ c ∧ Sat w0 wr (Bytes 5 (.slice a (l ++ (be x n).take (n - k)).length c) (l ++ (be x n).take (n - k)) :: L)) (fun _ i _ => (intOf i + 1).toNat)
  case atStart => exact ⟨n, a0, c0, Nat.le_refl _, rfl, by simp, by simpa using hc0, by simpa using hS⟩
  case round =>
    clear hS hc0
    obtain ⟨k, a, c, hk, rfl, rfl, hc, hS⟩ := hrel
    cases k with
    | zero =>
      have hb : l ++ (be x n).take (n - 0) = l ++ be x n := by rw [Nat.sub_zero, List.take_of_length_le (by rw [length_be]; exact Nat.le_refl _)]
      rw [hb] at hS hc ⊢
      go_wp2_with (fail)
      go_ret
      exact ⟨a, c, rfl, hc, hS⟩
    | succ i =>
      have Hsn := Lib.hid (be_snoc x n i (by omega))
      have Hsh := Lib.hid (show (8 * (i : Int)).toNat = 8 * i by omega)
      have hi : ((i + 1 : Nat) : Int) - 1 = (i : Int) := by omega
      rw [hi]
      clear hi
      obtain ⟨lk, hlk⟩ : ∃ lk, lk = l ++ (be x n).take (n - (i + 1)) := ⟨_, rfl⟩
      have hlkn : lk.length ≤ l.length + 8 := by rw [hlk, List.length_append, List.length_take, length_be]; omega
      rw [← hlk] at hS hc ⊢
      have Hlk := Lib.hid hlk
      clear hlk
      go_wp2_with (((((with_reducible refine wpList_plain ?_ ?_); (focus rfl); intro K hK)); first | ((with_reducible refine' wp_bin ?_ ?_ ?_ ?_ ?_); rotate_left 3; (focus (conv => lhs; whnf)); (focus (conv => lhs; whnf)); (focus (intro _; rfl)); (focus (intro _; with_reducible exact run_q_shr' _ _ _ _ (by omega) (by omega))); (refine hK _ _ ?_; clear hK K)) | ((with_reducible refine' wp_conv ?_ ?_ ?_ ?_ ?_); rotate_left 5; (focus (conv => lhs; whnf)); (focus (intro _; (simp; rfl))); (focus (intro _; (simp; rfl))); (focus (with_reducible exact wrap_q_b _)); (refine hK _ _ ?_; clear hK K)) | ((with_reducible refine' wp_bytes_lit [(x >>> UInt64.ofNat (8 * (i : Int)).toNat).toUInt8] hS ?_ ?_ ?_ ?_ ?_ ?_ ?_ ?_ ?_); rotate_left 3; (focus (intro _; (simp; rfl))); (focus (intro _; (simp; done))); (focus (intro _; (simp; rfl))); (focus rfl); (focus decide); (focus decide); (focus rfl); (focus kernel_rfl); intro w' b'; clear hS; intro hS; (refine hK _ _ ?_; clear hK K)) | ((with_reducible refine' wp_append_bytes sl22 hS ?_ ?_ ?_ ?_ ?_ ?_ ?_); rotate_left 8; (focus (conv => lhs; whnf)); (focus ((repeat (first | with_reducible exact Split.here | with_reducible apply Split.there)); done)); (focus rfl); (focus ((((refine' reads_own hS ?_); rotate_left 3; (focus ((repeat (with_reducible exact Split.here)); done)))))); (focus ((simp; rfl))); (focus ((simp; omega))); intro w' a' c' hcap; clear hS; intro hS; (try simp only [List.nil_append, List.append_assoc] at hS hcap ⊢); (try simp only [List.length_append] at hcap); (refine hK _ _ ?_; clear hK K))))
      have hnew : lk ++ [(x >>> UInt64.ofNat (8 * (i : Int)).toNat).toUInt8] = l ++ (be x n).take (n - i) := by rw [Hsh.out, Hlk.out, List.append_assoc, Hsn.out]
      have hlen2 : lk.length + 1 = (l ++ (be x n).take (n - i)).length := by rw [← hnew]; simp
      rw [hnew] at hS
      rw [List.length_cons, List.length_nil] at hcap
      go_roundw
      case rel => exact ⟨i, a', c', by omega, rfl, by rw [hlen2], by omega, by (refine Sat.ent hS ?_; repeat (first | (with_reducible exact Ent.refl _) | ((with_reducible apply Ent.pull); (focus ((repeat (with_reducible exact Split.here)); done))) | (with_reducible apply Ent.skip)))⟩
      case measure => simp [intOf]

theorem put_nat (v : Value) (l : List UInt8) (x : Nat) (hx : x < 18446744073709551616) (n : Nat) (hn : n ≤ 8) (hlen : l.length ≤ 70368744177664) (w0 w : World) (L : List Asn) (hS : Sat w0 w (Bytes 5 v l :: L)) :
    Calls Tryd.prog 97 #[v, .int .u64 (x : Int), .int .i64 (n : Int)] w fun r w' => ∃ a c, r = .returned (.slice a (l ++ be (UInt64.ofNat x) n).length c) ∧ (l ++ be (UInt64.ofNat x) n).length ≤ c ∧ Sat w0 w' (Bytes 5 (.slice a (l ++ be (UInt64.ofNat x) n).length c) (l ++ be (UInt64.ofNat x) n) :: L) := by
  have h := put_any v l (UInt64.ofNat x) n hn hlen w0 w L hS
  have e : ((UInt64.ofNat x).toNat : Int) = (x : Int) := by
    rw [UInt64.toNat_ofNat', Nat.mod_eq_of_lt hx]
  unfold Q at h
  rw [e] at h
  exact h

/-- The errors that package fields gives. -/
structure FldErrs (E : Nat → Addr) (w0 : World) : Prop where
  range : w0.cell? ⟨1, 0, none⟩ = some (.iface 182 (.pointer (some (E 1))))
  short : w0.cell? ⟨7, 0, none⟩ = some (.iface 182 (.pointer (some (E 2))))
  long : w0.cell? ⟨4, 0, none⟩ = some (.iface 182 (.pointer (some (E 3))))
  tail : w0.cell? ⟨8, 0, none⟩ = some (.iface 182 (.pointer (some (E 4))))

theorem ret_sl2 {a : Option Addr} {c n m : Nat} {e : Value} (h : n = m) : Ending.returned (.tuple #[.slice a n c, e]) = .returned (.tuple #[.slice a m c, e]) := by rw [h]
/-- A field's value in Go. -/
abbrev CellV (x : Cell) (f : Value) : Value := .agg #[.int .i64 x.n, f, S x.s]
theorem most_lt (n : Nat) (h : n ≤ 8) : most n < 18446744073709551616 := by
  unfold most
  have : 256 ^ n ≤ 256 ^ 8 := Nat.pow_le_pow_right (by decide) h
  omega
theorem width_four {c : UInt8} (h : isLetter c = true) : width c = 1 ∨ width c = 2 ∨ width c = 4 ∨ width c = 8 := by
  rcases letter_cases h with rfl | rfl | rfl | rfl | rfl | rfl | rfl <;> decide
set_option maxRecDepth 100000 in
set_option maxHeartbeats 4000000 in
/-- A field that fits. -/
theorem cell_fits (c : UInt8) (x : Cell) (f : Value) (v : Value) (l : List UInt8) (hc : isLetter c = true) (hf : c ≠ 102) (hx : fits c x) (hlen : l.length + x.s.length ≤ 70368744177664) (w0 w : World) (L : List Asn) (hS : Sat w0 w (Bytes 5 v l :: L)) :
    Calls Tryd.prog 89 #[v, B c, CellV x f] w fun r w' => ∃ a k, r = .returned (.tuple #[.slice a (l ++ cellB c x).length k, .nilIface]) ∧ (l ++ cellB c x).length ≤ k ∧ Sat w0 w' (Bytes 5 (.slice a (l ++ cellB c x).length k) (l ++ cellB c x) :: L) := by
  have hw4 := width_four hc
  have hwp := width_pos c
  have hml := most_lt (width c) hwp.2
  obtain ⟨m, hm⟩ : ∃ m, m = width c := ⟨_, rfl⟩
  rw [← hm] at hw4 hwp hml
  have hfe : ((c.toNat : Int) == 102) = false := by
    rw [beq_eq_false_iff_ne]
    intro h
    apply hf
    apply UInt8.toNat_inj.1
    have h2 : (102 : UInt8).toNat = 102 := rfl
    rw [h2]
    omega
  have Hw := Lib.hid (show ∀ w : World, Calls Tryd.prog 96 #[B c] w fun r w' => r = .returned (.int .i64 (m : Nat)) ∧ w = w' by rw [hm]; exact width_any c hc)
  have Ht := Lib.hid (text_any c hc)
  unfold fits at hx
  unfold cellB
  rw [← hm] at hx ⊢
  cases hte : isText c
  case true =>
    rw [hte] at hx Ht
    simp only [if_true] at hx ⊢
    obtain ⟨xn, xs⟩ := x
    dsimp only at hx hlen ⊢
    have hx64 : ((xs.length : Nat) : Int) % 18446744073709551616 = xs.length := by omega
    have hgt : decide ((most m : Int) < (xs.length : Int)) = false := by simp; omega
    have hbl := length_be (UInt64.ofNat xs.length) m
    clear hm hf hte hc
    go_enter Tryd.func89, Tryd.ntmps89
    go_wp2_with (first | (go_at_call 96; ((with_reducible refine' (Hw.out _).mono ?_); rintro r4 w4 ⟨rfl, rfl⟩)) | (go_at_call 99; ((with_reducible refine' (Ht.out _).mono ?_); rintro r4 w4 ⟨rfl, rfl⟩)) | (go_at_call 97; ((with_reducible refine' (put_nat v l xs.length (by omega) m (by omega) (by omega) w0 _ _ (hS.split ?sp1x216)).mono ?sp2x216); (case sp1x216 => ((repeat (first | with_reducible exact Split.here | with_reducible apply Split.there)); done)); (case' sp2x216 => (rintro r4 w4 ⟨a4, c4, rfl, hc4, hS1⟩; (clear hS; have hS := hS1; clear hS1); (try ((refine hK _ _ ?_ ?_); (focus exact ⟨_, hS.split (by ((repeat (first | with_reducible exact Split.here | with_reducible apply Split.there)); done))⟩); clear hK K)))))) | (have hS1 := hS.drew; clear hS; have hS := hS1; clear hS1; (with_reducible refine' Txh.wp_region_held (id := 5) (fun _ => True) [(5, _)] [5] 6 rfl ?hm5x217 ?hB5x217 ?hI5x217 ?hh5x217); (case hm5x217 => kernel_rfl); (case hB5x217 => decide +kernel); (case hI5x217 => exact trivial); (case' hh5x217 => (intro Q' hQ'))) | (have hS1 := hS.drew; clear hS; have hS := hS1; clear hS1; (with_reducible refine' Txh.wp_region_held (id := 7) (fun w => ∃ M, Sat w0 w (Blk b' (.cells #[.int .i64 xn, f, S xs] 132) :: M)) [(8, S xs)] [8] 9 rfl ?hm7x218 ?hB7x218 ?hI7x218 ?hh7x218); (case hm7x218 => kernel_rfl); (case hB7x218 => decide +kernel); (case hI7x218 => exact ⟨_, hS.split (by ((repeat (with_reducible exact Split.here)); done))⟩); (case' hh7x218 => (intro Q' hQ'))) | (with_reducible refine Txh.wpHeld_nil ?_) | (((with_reducible refine' Txh.wpHeld_held ?_ ?_ ?_ ?_); rotate_left 1; (focus rfl); (focus rfl); (focus ((with_reducible refine' fixed_call1 (f := 100) ?_ ?_ ?_); rotate_left 1; (focus (conv => lhs; whnf)); (focus (intro _ _; simp)); (focus (intro w5 hI5; (exact most_any m hw4 w5))))))) | (((with_reducible refine' Txh.wpHeld_held ?_ ?_ ?_ ?_); rotate_left 1; (focus rfl); (focus rfl); (focus ((with_reducible refine' fixed_load ?_ ?_ ?_); rotate_left 1; (focus rfl); (focus (intro _; (simp; done))); (focus (rintro w5 ⟨M5, hM5⟩; exact cell_of_split hM5 (by ((repeat (with_reducible exact Split.here)); done)) rfl)))))) | ((with_reducible refine Txh.wpHeld_free ?_ ?_ ?_ ?_ ?_); (focus rfl); (focus rfl); (focus rfl); (focus decide +kernel); intro K hK; first | ((with_reducible refine' wp_conv ?_ ?_ ?_ ?_ ?_); rotate_left 5; (focus (conv => lhs; whnf)); (focus (intro _; (simp; rfl))); (focus (intro _; (simp; rfl))); (focus (with_reducible exact wrap_n_q _)); (refine hK _ _ ?_; clear hK K)) | ((with_reducible refine' wp_append_text sl22 hS ?_ ?_ ?_ ?_ ?_ ?_); (rotate_left 4; (focus (conv => lhs; whnf)); (focus ((repeat (with_reducible exact Split.here)); done)); (focus rfl); (focus ((simp; done))); (focus ((simp; omega))); intro w' a' c' hcap; clear hS; intro hS; (try simp only [List.length_append] at hcap); (refine hK _ _ ?_; clear hK K))) | ((with_reducible refine' wp_load hS ?_ ?_ ?_ ?_ ?_); rotate_left 7; (focus rfl); (focus ((repeat (with_reducible exact Split.here)); done)); (focus (((simp only [List.getElem?_toArray, List.getElem?_cons_zero, List.getElem?_cons_succ]); rfl))); (focus (intro _; (simp; done))); (refine hK _ _ ?_; clear hK K)) | ((with_reducible refine' wp_strlen ?_ ?_ ?_); rotate_left 1; (focus rfl); (focus (intro _; (simp; done))); (refine hK _ _ ?_; clear hK K))) | (((with_reducible refine Txh.wpHeld_free ?_ ?_ ?_ ?_ ?_); (focus rfl); (focus rfl); (focus rfl); (focus decide +kernel); intro _ _)) | (((with_reducible refine Txh.wpHeld_owes ?_ ?_ ?_ ?_); (focus rfl); (focus rfl); (focus rfl); intro K hK)) | ((((with_reducible refine wpList_plain ?_ ?_); (focus rfl); intro K hK)); ((with_reducible refine' wp_box hS ?_ ?_); rotate_left 1; (focus (conv => lhs; whnf)); intro w' b'; clear hS; intro hS; (try simp only [Value.cells] at hS); (refine hK _ _ ?_; clear hK K))))
    go_ret2
    rw [List.append_assoc] at hS
    exact ⟨a', c', ret_sl2 (by simp [hbl]), by simp; omega, by (refine Sat.ent hS ?_; repeat (first | (with_reducible exact Ent.refl _) | ((with_reducible apply Ent.pull); (focus ((repeat (with_reducible exact Split.here)); done))) | (with_reducible apply Ent.skip)))⟩
  case false =>
    rw [hte] at hx Ht
    simp only [Bool.false_eq_true, if_false] at hx ⊢
    obtain ⟨xn, xs⟩ := x
    dsimp only at hx hlen ⊢
    obtain ⟨hx0, hx1⟩ := hx
    obtain ⟨xk, rfl⟩ := Int.eq_ofNat_of_zero_le hx0
    have hx64 : (xk : Int) % 18446744073709551616 = xk := by omega
    have hgt : decide ((most m : Int) < (xk : Int)) = false := by simp; omega
    have hbl := length_be (UInt64.ofNat xk) m
    simp only [Int.toNat_natCast]
    clear hm hf hte hc
    go_enter Tryd.func89, Tryd.ntmps89
    go_wp2_with (first | (go_at_call 96; ((with_reducible refine' (Hw.out _).mono ?_); rintro r4 w4 ⟨rfl, rfl⟩)) | (go_at_call 99; ((with_reducible refine' (Ht.out _).mono ?_); rintro r4 w4 ⟨rfl, rfl⟩)) | (go_at_call 97; ((with_reducible refine' (put_nat v l xk (by omega) m (by omega) (by omega) w0 _ _ (hS.split ?sp3x240)).mono ?sp4x240); (case sp3x240 => ((repeat (first | with_reducible exact Split.here | with_reducible apply Split.there)); done)); (case' sp4x240 => (rintro r4 w4 ⟨a4, c4, rfl, hc4, hS1⟩; (clear hS; have hS := hS1; clear hS1); (try ((refine hK _ _ ?_ ?_); (focus exact ⟨_, hS.split (by ((repeat (fail)); done))⟩); clear hK K)))))) | (have hS1 := hS.drew; clear hS; have hS := hS1; clear hS1; (with_reducible refine' Txh.wp_region_held (id := 8) (fun _ => True) [(8, _)] [8] 9 rfl ?hm8x241 ?hB8x241 ?hI8x241 ?hh8x241); (case hm8x241 => kernel_rfl); (case hB8x241 => decide +kernel); (case hI8x241 => exact trivial); (case' hh8x241 => (intro Q' hQ'))) | (with_reducible refine Txh.wpHeld_nil ?_) | (((with_reducible refine' Txh.wpHeld_held ?_ ?_ ?_ ?_); rotate_left 1; (focus rfl); (focus rfl); (focus ((with_reducible refine' fixed_call1 (f := 100) ?_ ?_ ?_); rotate_left 1; (focus (conv => lhs; whnf)); (focus (intro _ _; simp)); (focus (intro w5 hI5; (exact most_any m hw4 w5))))))) | ((with_reducible refine Txh.wpHeld_free ?_ ?_ ?_ ?_ ?_); (focus rfl); (focus rfl); (focus rfl); (focus decide +kernel); intro K hK; first | ((with_reducible refine' wp_conv ?_ ?_ ?_ ?_ ?_); rotate_left 5; (focus (conv => lhs; whnf)); (focus (intro _; (simp; rfl))); (focus (intro _; (simp; rfl))); (focus (with_reducible exact wrap_n_q _)); (refine hK _ _ ?_; clear hK K)) | ((with_reducible refine' wp_load hS ?_ ?_ ?_ ?_ ?_); rotate_left 7; (focus rfl); (focus ((repeat (with_reducible exact Split.here)); done)); (focus (((simp only [List.getElem?_toArray, List.getElem?_cons_zero, List.getElem?_cons_succ]); rfl))); (focus (intro _; (simp; done))); (refine hK _ _ ?_; clear hK K))) | (((with_reducible refine Txh.wpHeld_free ?_ ?_ ?_ ?_ ?_); (focus rfl); (focus rfl); (focus rfl); (focus decide +kernel); intro _ _)) | ((((with_reducible refine wpList_plain ?_ ?_); (focus rfl); intro K hK)); first | ((with_reducible refine' wp_load hS ?_ ?_ ?_ ?_ ?_); rotate_left 7; (focus rfl); (focus ((repeat (with_reducible exact Split.here)); done)); (focus (((simp only [List.getElem?_toArray, List.getElem?_cons_zero, List.getElem?_cons_succ]); rfl))); (focus (intro _; (simp; done))); (refine hK _ _ ?_; clear hK K)) | ((with_reducible refine' wp_box hS ?_ ?_); rotate_left 1; (focus (conv => lhs; whnf)); intro w' b'; clear hS; intro hS; (try simp only [Value.cells] at hS); (refine hK _ _ ?_; clear hK K))))
    go_ret2
    exact ⟨a4, c4, ret_sl2 (by simp [hbl]), hc4, by (refine Sat.ent hS ?_; repeat (first | (with_reducible exact Ent.refl _) | ((with_reducible apply Ent.pull); (focus ((repeat (with_reducible exact Split.here)); done))) | (with_reducible apply Ent.skip)))⟩

theorem sz132 (w : World) : (sizeOf 132).run Tryd.prog w = .ok 3 w := by (simp; done)
/-- Fields, as they lie in memory. -/
def CellsAt (w0 : World) (L : List Asn) (v : Value) (xs : List (Cell × Value)) : Prop :=
  ∃ ad c, v = .slice (some ad) xs.length c ∧ ∀ w', Sat w0 w' L → ∀ j x, xs[j]? = some x → w'.cell? (ad.add (j * 3)) = some (.int .i64 x.1.n) ∧ w'.cell? (ad.add (j * 3 + 1)) = some x.2 ∧ w'.cell? (ad.add (j * 3 + 2)) = some (S x.1.s)
theorem enc_snoc (l : List UInt8) (xs : List Cell) (k : Nat) (c : UInt8) (x : Cell) (hc : l[k]? = some c) (hx : xs[k]? = some x) : enc (l.take (k + 1)) (xs.take (k + 1)) = enc (l.take k) (xs.take k) ++ cellB c x := by
  induction k generalizing l xs with
  | zero =>
    cases l with
    | nil => cases hc
    | cons a l =>
      cases xs with
      | nil => cases hx
      | cons b xs => cases hc; cases hx; simp [enc]
  | succ k ih =>
    cases l with
    | nil => cases hc
    | cons a l =>
      cases xs with
      | nil => cases hx
      | cons b xs =>
        simp only [List.take_succ_cons, enc, List.append_assoc]
        rw [ih l xs hc hx]
theorem length_cellB (c : UInt8) (x : Cell) : (cellB c x).length ≤ 8 + x.s.length := by
  unfold cellB
  have := width_pos c
  split
  · rw [List.length_append, length_be]; omega
  · rw [length_be]; omega
theorem length_enc (l : List UInt8) (xs : List Cell) (B : Nat) (hB : ∀ x ∈ xs, x.s.length ≤ B) : (enc l xs).length ≤ l.length * (8 + B) := by
  induction l generalizing xs with
  | nil => simp [enc]
  | cons c l ih =>
    cases xs with
    | nil => simp [enc]
    | cons x xs =>
      have h1 := length_cellB c x
      have h2 := hB x (List.mem_cons_self ..)
      have h3 := ih xs fun y hy => hB y (List.mem_cons_of_mem _ hy)
      simp only [enc, List.length_append, List.length_cons]
      rw [Nat.add_mul, Nat.one_mul]
      omega

set_option maxRecDepth 100000 in
set_option maxHeartbeats 4000000 in
/-- Fields that fit. -/
theorem encode_fits (l : List UInt8) (xs : List (Cell × Value)) (v : Value) (hl : ∀ c ∈ l, isLetter c = true ∧ c ≠ 102) (hlx : l.length = xs.length) (hn : l.length ≤ 1000) (hfit : ∀ (k : Nat) (c : UInt8) (x : Cell × Value), l[k]? = some c → xs[k]? = some x → fits c x.1) (hsz : ∀ x ∈ xs, x.1.s.length ≤ 70000) (hone : ∀ x ∈ xs, x.2.oneCell' = true)
    (w0 w : World) (L : List Asn) (hS : Sat w0 w L) (hat : CellsAt w0 L v xs) :
    Calls Tryd.prog 78 #[S l, v] w fun r w' => ∃ a k, r = .returned (.tuple #[.slice a (enc l (xs.map (·.1))).length k, .nilIface]) ∧ (enc l (xs.map (·.1))).length ≤ k ∧ Sat w0 w' (Bytes 5 (.slice a (enc l (xs.map (·.1))).length k) (enc l (xs.map (·.1))) :: L) := by
  obtain ⟨⟨ab, ao, aw⟩, cp, rfl, hcell⟩ := hat
  obtain ⟨n, hn2⟩ : ∃ n, n = xs.length := ⟨_, rfl⟩
  have hsl : (l.length : Int) = (n : Int) := by omega
  have hnn : ((n : Int) == (n : Int)) = true := by simp
  have hn' : (n : Int) ≤ 1000 := by omega
  rw [← hn2]
  have Hn2 := Lib.hid hn2
  have Hlx := Lib.hid hlx
  clear hn2 hlx hn
  go_enter Tryd.func78, Tryd.ntmps78
  go_wp2_with (first | (go_at_call 88; ((with_reducible refine' (known_any l (fun c hc => (hl c hc).1) (by omega) _).mono ?_); rintro r4 w4 ⟨rfl, rfl⟩)) | ((first | ((with_reducible refine wpList_plain ?_ ?_); (focus rfl); intro K hK) | ((with_reducible refine wpList_runG ?_ ?_); (focus rfl); intro K hK)); ((with_reducible refine' wp_strlen ?_ ?_ ?_); rotate_left 1; (focus rfl); (focus (intro _; (simp; done))); (refine hK _ _ ?_; clear hK K))))
  go_loopw [6, 23] (fun b i wr => ∃ (k : Nat) (a : Option Addr) (c : Nat), k ≤ n ∧ i = .int .i64 k ∧ b = .slice a (enc (l.take k) ((xs.map (·.1)).take k)).length c ∧ (enc (l.take k) ((xs.map (·.1)).take k)).length ≤ c ∧ Sat w0 wr (Bytes 5 (.slice a (enc (l.take k) ((xs.map (·.1)).take k)).length c) (enc (l.take k) ((xs.map (·.1)).take k)) :: L)) (fun _ i _ => n - (intOf i).toNat)
  case atStart => exact ⟨0, none, 0, by omega, rfl, by simp [enc], by simp [enc], by simpa [enc, Bytes] using hS.row_nil 5 1 none⟩
  case round =>
    clear hS
    obtain ⟨k, a, c, hk, rfl, rfl, hc, hS⟩ := hrel
    by_cases hlt : k < n
    case pos =>
      obtain ⟨ch, hch⟩ : ∃ ch, l[k]? = some ch := ⟨_, List.getElem?_eq_getElem (by omega)⟩
      obtain ⟨⟨x, f⟩, hx⟩ : ∃ x, xs[k]? = some x := ⟨_, List.getElem?_eq_getElem (by have := Hn2.out; omega)⟩
      have hft := hfit k ch _ hch hx
      have hlet := hl ch (List.mem_of_getElem? hch)
      have hs7 := hsz _ (List.mem_of_getElem? hx)
      have Ho1 := Lib.hid (show ∀ u ∈ (#[.int .i64 x.n, f, S x.s] : Array Value).toList, u.oneCell' = true by
        have := hone _ (List.mem_of_getElem? hx)
        intro u hu
        simp only [List.mem_cons, List.not_mem_nil, or_false] at hu
        rcases hu with rfl | rfl | rfl
        · rfl
        · exact this
        · rfl)
      obtain ⟨c0, c1, c2⟩ := hcell _ hS.drop k _ hx
      have hagg : ∀ (j : Nat) (u : Value), ([.int .i64 x.n, f, S x.s] : List Value)[j]? = some u → wr.cell? (((⟨ab, ao, aw⟩ : Addr).add (k * 3)).add j) = some u := by
        intro j u hu
        rw [Addr.add_add]
        rcases j with _ | _ | _ | j
        · cases hu; exact c0
        · cases hu; exact c1
        · cases hu; exact c2
        · cases hu
      have hx1 : (xs.map (·.1))[k]? = some x := by simp [hx]
      have Hsn := Lib.hid (enc_snoc l (xs.map (·.1)) k ch x hch hx1)
      have hbnd := length_enc (l.take k) ((xs.map (·.1)).take k) 70000 (fun y hy => by
        obtain ⟨z, hz, rfl⟩ := List.mem_map.1 (List.mem_of_mem_take hy)
        exact hsz z hz)
      obtain ⟨lk, hlk⟩ : ∃ lk, lk = enc (l.take k) ((xs.map (·.1)).take k) := ⟨_, rfl⟩
      have hlkn : lk.length ≤ 100000000 := by
        rw [hlk]
        have : (l.take k).length ≤ 1000 := by rw [List.length_take]; omega
        have := Nat.mul_le_mul_right (8 + 70000) this
        omega
      rw [← hlk] at hS hc ⊢
      have Hlk := Lib.hid hlk
      have Hch := Lib.hid hch
      clear hlk hbnd hx1 c0 c1 c2 hx hch
      go_wp2_with (first | (go_at_call 89; ((with_reducible refine' (cell_fits ch x f _ lk hlet.1 hlet.2 hft (by omega) w0 _ _ (hS.split ?sq1x353)).mono ?sq2x353); (case sq1x353 => ((repeat (first | with_reducible exact Split.here | with_reducible apply Split.there)); done)); (case' sq2x353 => (rintro r4 w4 ⟨a4, c4, rfl, hc4, hS1⟩; (clear hS; have hS := hS1; clear hS1))))) | ((with_reducible refine Txt.wp_region_text ?_ ?_ ?_); (focus kernel_rfl); (focus decide +kernel); intro Q' hQ'; have hS1 := hS.drew; clear hS; have hS := hS1; clear hS1) | (with_reducible refine Txt.wpTxt_nil ?_) | ((first | ((with_reducible refine wpList_plain ?_ ?_); (focus rfl); intro K hK) | ((with_reducible refine Txt.wpTxt_plain ?_ ?_ ?_); (focus rfl); (focus rfl); intro K hK)); first | ((with_reducible refine' wp_str_index (c := ch) ?_ ?_ ?_ ?_ ?_ ?_); rotate_left 3; (focus rfl); (focus rfl); (focus (intro _; (simp; done))); (focus omega); (focus exact Hch.out); (refine hK _ _ ?_; clear hK K)) | ((with_reducible refine' wp_loadN_known ?_ ?_ ?_ ?_ ?_); rotate_left 2; (focus rfl); (focus (with_reducible assumption)); (focus (intro _; (simp; done))); (focus (intro _; (simp; done))); (refine hK _ _ ?_; clear hK K)) | ((with_reducible refine' wp_store_all (vs := #[.int .i64 x.n, f, S x.s]) hS ?_ ?_ ?_ ?_ ?_ ?_ ?_); rotate_left 4; (focus rfl); (focus ((repeat (with_reducible exact Split.here)); done)); (focus rfl); (focus (exact sz132)); (focus rfl); (focus (exact Ho1.out)); intro w'; clear hS; intro hS; (refine hK _ _ ?_; clear hK K)) | ((with_reducible refine' wp_loadN hS ?_ ?_ ?_ ?_ ?_ ?_ ?_); rotate_left 8; (focus rfl); (focus ((repeat (with_reducible exact Split.here)); done)); (focus (intro _; (simp; done))); (focus (intro _; (simp; rfl))); (focus (simp; done)); (focus (simp; rfl)); (refine hK _ _ ?_; clear hK K)) | ((with_reducible refine' wp_alloc hS ?_ ?_); rotate_left 1; (focus (intro _; (simp; rfl))); intro w' b'; clear hS; intro hS; (try simp only [Value.cells] at hS); (refine hK _ _ ?_; clear hK K))) | ((with_reducible refine Txt.wpTxt_plain ?_ ?_ ?_); (focus with_reducible rfl); (focus rfl); intro _ _))
      have hnew : lk ++ cellB ch x = enc (l.take (k + 1)) ((xs.map (·.1)).take (k + 1)) := by rw [Hlk.out, Hsn.out]
      have hlen2 : lk.length + (cellB ch x).length = (enc (l.take (k + 1)) ((xs.map (·.1)).take (k + 1))).length := by rw [← hnew, List.length_append]
      rw [hnew] at hS hc4
      go_roundw
      case rel => exact ⟨k + 1, a4, c4, by omega, by go_num, by rw [hlen2], hc4, by (refine Sat.ent hS ?_; repeat (first | (with_reducible exact Ent.refl _) | ((with_reducible apply Ent.pull); (focus ((repeat (with_reducible exact Split.here)); done))) | (with_reducible apply Ent.skip)))⟩
      case measure => simp [intOf]; omega
    case neg =>
      obtain rfl : k = n := by omega
      have e1 : l.take k = l := List.take_of_length_le (by omega)
      have e2 : (xs.map (·.1)).take k = xs.map (·.1) := List.take_of_length_le (by rw [List.length_map]; have := Hn2.out; omega)
      rw [e1, e2] at hS hc ⊢
      clear e1 e2
      go_wp2_with (fail)
      go_ret2
      exact ⟨a, c, rfl, hc, hS⟩
end Go.Proofs.YtndnojbpapjdoaaDoor
