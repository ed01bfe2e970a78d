/- Package fields walked: Decode. -/
import Derived.Test.YtndnojbpapjdoaaDoorFldX
set_option linter.unusedSimpArgs false
set_option linter.unusedVariables false
set_option linter.unusedSectionVars false
namespace Go.Proofs.YtndnojbpapjdoaaDoor
open Go.Sp Go.RowKit Go.Fld

def cellCs (x : Cell) : List Value := [.int .i64 x.n, .float .f64 0, S x.s]
/-- Fields in a slice that is owned. -/
def CellRow (v : Value) (xs : List Cell) : Asn := Row 132 3 v xs.length (xs.flatMap cellCs)
/-- What Decode answers. -/
def DecPost (E : Nat → Addr) (w0 : World) (L : List Asn) (d : Except Nat (List Cell)) (r : Ending) (w' : World) : Prop := match d with
  | .ok cs => ∃ v, r = .returned (.tuple #[v, .nilIface]) ∧ Sat w0 w' (CellRow v cs :: L)
  | .error e => r = .returned (.tuple #[.slice none 0 0, .iface 182 (.pointer (some (E e)))]) ∧ Sat w0 w' L
theorem get_ok {E : Nat → Addr} {c : UInt8} {v : Value} {l : List UInt8} {x : Cell} {n : Nat} (hg : Fld.get l c = .ok (x, n)) (hc : isLetter c = true) (hf : c ≠ 102) (hlen : l.length ≤ 140737488355328) (w0 w : World) (L : List Asn) (hE : FldErrs E w0) (hS : Sat w0 w L) (hr : Under w0 L v l) :
    Calls Tryd.prog 93 #[v, B c] w fun r w' => r = .returned (.tuple #[CellV x (.float .f64 0), .int .i64 (n : Nat), .nilIface]) ∧ Sat w0 w' L :=
  (get_any E c v l hc hf hlen w0 w L hE hS hr).mono fun r w' ⟨h, hs⟩ => ⟨by unfold GetPost at h; rw [hg] at h; exact h, hs⟩
theorem get_err {E : Nat → Addr} {c : UInt8} {v : Value} {l : List UInt8} {e : Nat} (hg : Fld.get l c = .error e) (hc : isLetter c = true) (hf : c ≠ 102) (hlen : l.length ≤ 140737488355328) (w0 w : World) (L : List Asn) (hE : FldErrs E w0) (hS : Sat w0 w L) (hr : Under w0 L v l) :
    Calls Tryd.prog 93 #[v, B c] w fun r w' => r = .returned (.tuple #[CellV ⟨0, []⟩ (.float .f64 0), .int .i64 0, .iface 182 (.pointer (some (E e)))]) ∧ Sat w0 w' L :=
  (get_any E c v l hc hf hlen w0 w L hE hS hr).mono fun r w' ⟨h, hs⟩ => ⟨by unfold GetPost at h; rw [hg] at h; exact h, hs⟩
theorem get_le {l : List UInt8} {c : UInt8} {x : Cell} {n : Nat} (hg : Fld.get l c = .ok (x, n)) : n ≤ l.length := by
  unfold Fld.get at hg
  split at hg
  · cases hg
  · split at hg
    · split at hg
      · cases hg
      · cases hg; omega
    · split at hg
      · cases hg
      · cases hg; omega
/-- The fields that are decoded, and what is left to do. -/
def decGo (xs : List Cell) (d : Except Nat (List Cell)) : Except Nat (List Cell) := match d with
  | .ok r => .ok (xs ++ r)
  | .error e => .error e
theorem dec_step {ls : List UInt8} {k : Nat} {ch : UInt8} {rest : List UInt8} {x : Cell} {n : Nat} (xs : List Cell) (hc : ls[k]? = some ch) (hg : Fld.get rest ch = .ok (x, n)) : decGo xs (dec (ls.drop k) rest) = decGo (xs ++ [x]) (dec (ls.drop (k + 1)) (rest.drop n)) := by
  have hd : ls.drop k = ch :: ls.drop (k + 1) := by
    have hk := (List.getElem?_eq_some_iff.1 hc).1
    rw [List.drop_eq_getElem_cons hk, (List.getElem?_eq_some_iff.1 hc).2]
  rw [hd, dec, hg]
  simp only
  cases dec (ls.drop (k + 1)) (rest.drop n) <;> simp [decGo]
theorem dec_fail {ls : List UInt8} {k : Nat} {ch : UInt8} {rest : List UInt8} {e : Nat} (xs : List Cell) (hc : ls[k]? = some ch) (hg : Fld.get rest ch = .error e) : decGo xs (dec (ls.drop k) rest) = .error e := by
  have hd : ls.drop k = ch :: ls.drop (k + 1) := by
    have hk := (List.getElem?_eq_some_iff.1 hc).1
    rw [List.drop_eq_getElem_cons hk, (List.getElem?_eq_some_iff.1 hc).2]
  rw [hd, dec, hg]
  rfl
theorem info132 : (Tryd.prog.info? 132).map (fun i => (i.zero, i.size, i.bytes)) = some (some (.agg #[.int .i64 0, .float .f64 0, .string ⟨#[]⟩]), 3, 32) := by kernel_rfl
theorem slCell : SliceT Tryd.prog 137 132 3 32 := .mk Tryd.underlying137 info132 rfl

theorem srcCell {w0 w : World} {L M : List Asn} {b : Nat} {x : Cell} {e : TypeId} {f : Nat × Nat} (hS : Sat w0 w L) (hp : Split L (Blk b (.cells #[.int .i64 x.n, .float .f64 0, S x.s] e f)) M) : Src Tryd.prog w 137 3 (.slice (some ⟨b, 0, none⟩) 1 1) 1 (cellCs x) :=
  Src.slice Tryd.underlying137 _ _ _ _ rfl (cells_of_split hS hp (fun j v h => by
    rcases j with _ | _ | _ | j
    · exact h
    · exact h
    · exact h
    · cases h)) (by
    intro u hu
    simp only [cellCs, List.mem_cons, List.not_mem_nil, or_false] at hu
    rcases hu with rfl | rfl | rfl <;> rfl)
theorem ones (n : Int) (t : List UInt8) : ∀ u ∈ (#[.int .i64 n, .float .f64 0, S t] : Array Value).toList, u.oneCell' = true := by
  intro u hu
  simp only [List.mem_cons, List.not_mem_nil, or_false] at hu
  rcases hu with rfl | rfl | rfl <;> rfl
set_option maxRecDepth 100000 in
set_option maxHeartbeats 4000000 in
theorem decode_any (E : Nat → Addr) (ls : List UInt8) (v : Value) (l : List UInt8) (hls : ∀ c ∈ ls, isLetter c = true ∧ c ≠ 102) (hn : ls.length ≤ 1000) (hlen : l.length ≤ 140737488355328) (w0 w : World) (L : List Asn) (hE : FldErrs E w0) (hS : Sat w0 w L) (hr : Under w0 L v l) :
    Calls Tryd.prog 85 #[S ls, v] w fun r w' => DecPost E w0 L (dec ls l) r w' := by
  obtain ⟨aa, ac, rfl, _⟩ := hr w hS
  have hn' : (ls.length : Int) ≤ 1000 := by omega
  have hg8 := hE.tail
  go_enter Tryd.func85, Tryd.ntmps85
  go_wp2_with (first | (go_at_call 88; ((with_reducible refine' (known_any ls (fun c hc => (hls c hc).1) (by omega) _).mono ?_); rintro r4 w4 ⟨rfl, rfl⟩)) | ((((with_reducible refine wpList_plain ?_ ?_); (focus rfl); intro K hK)); ((with_reducible refine' wp_strlen ?_ ?_ ?_); rotate_left 1; (focus rfl); (focus (intro _; (simp; done))); (refine hK _ _ ?_; clear hK K))))
  go_loopw [1, 6, 17] (fun b out i wr => ∃ (k : Nat) (xs : List Cell) (rest : List UInt8) (a : Option Addr) (c : Nat), k ≤ ls.length ∧ i = .int .i64 k ∧ xs.length ≤ k ∧ decGo xs (dec (ls.drop k) rest) = dec ls l ∧ b = .slice a rest.length c ∧ rest.length ≤ l.length ∧ Under w0 L (.slice a rest.length c) rest ∧ Sat w0 wr (Row 132 3 out xs.length (xs.flatMap cellCs) :: L)) (fun _ _ i _ => ls.length - (intOf i).toNat)
  case atStart => exact ⟨0, [], l, aa, ac, by omega, rfl, by simp, by simp [decGo]; cases dec ls l <;> rfl, rfl, Nat.le_refl _, hr, hS.row_nil _ _ none⟩
  case round =>
    clear hS hr
    obtain ⟨k, xs, rest, a, c, hk, rfl, hxk, hdec, rfl, hrl, hr, hS⟩ := hrel
    have Hdec := Lib.hid hdec
    clear hdec
    by_cases hlt : k < ls.length
    case pos =>
      obtain ⟨ch, hch⟩ : ∃ ch, ls[k]? = some ch := ⟨_, List.getElem?_eq_getElem hlt⟩
      have hlet := hls ch (List.mem_of_getElem? hch)
      have Hch := Lib.hid hch
      cases hg : Fld.get rest ch
      case error e =>
        have Hf := Lib.hid (dec_fail xs hch hg)
        have Hg := Lib.hid hg
        clear hch hg
        go_wp2_with (first | (go_at_call 93; ((with_reducible refine' (get_err Hg.out hlet.1 hlet.2 (by omega) w0 _ _ hE hS hr.skip).mono ?_); rintro r4 w4 ⟨rfl, hS1⟩; (clear hS; have hS := hS1; clear hS1))) | ((((with_reducible refine wpList_plain ?_ ?_); (focus rfl); intro K hK)); first | ((with_reducible refine' wp_str_index (c := ch) ?_ ?_ ?_ ?_ ?_ ?_); rotate_left 3; (focus rfl); (focus rfl); (focus (intro _; (simp; done))); (focus omega); (focus exact Hch.out); (refine hK _ _ ?_; clear hK K)) | ((with_reducible refine' wp_store_all (vs := #[.int .i64 0, .float .f64 0, S []]) hS ?_ ?_ ?_ ?_ ?_ ?_ ?_); rotate_left 4; (focus rfl); (focus ((repeat (with_reducible exact Split.here)); done)); (focus rfl); (focus (exact sz132)); (focus rfl); (focus (exact ones 0 [])); intro w'; clear hS; intro hS; (refine hK _ _ ?_; clear hK K)) | ((with_reducible refine' wp_alloc hS ?_ ?_); rotate_left 1; (focus (intro _; (simp; rfl))); intro w' b'; clear hS; intro hS; (try simp only [Value.cells] at hS); (refine hK _ _ ?_; clear hK K))))
        go_ret2
        unfold DecPost
        rw [← Hdec.out, Hf.out]
        exact ⟨rfl, by (refine Sat.ent hS ?_; repeat (first | (with_reducible exact Ent.refl _) | (with_reducible apply Ent.skip)))⟩
      case ok p =>
        obtain ⟨x, n⟩ := p
        have hnr := get_le hg
        have Hst := Lib.hid (dec_step xs hch hg)
        have Hg := Lib.hid hg
        clear hch hg
        have hun : ∀ (w' : World) (M : List Asn), True := fun _ _ => trivial
        clear hun
        go_wp2_with (first | (go_at_call 93; ((with_reducible refine' (get_ok Hg.out hlet.1 hlet.2 (by omega) w0 _ _ hE hS hr.skip).mono ?_); rintro r4 w4 ⟨rfl, hS1⟩; (clear hS; have hS := hS1; clear hS1))) | ((((with_reducible refine wpList_plain ?_ ?_); (focus rfl); intro K hK)); first | ((with_reducible refine' wp_str_index (c := ch) ?_ ?_ ?_ ?_ ?_ ?_); rotate_left 3; (focus rfl); (focus rfl); (focus (intro _; (simp; done))); (focus omega); (focus exact Hch.out); (refine hK _ _ ?_; clear hK K)) | ((with_reducible refine' wp_store_all (vs := #[.int .i64 x.n, .float .f64 0, S x.s]) hS ?_ ?_ ?_ ?_ ?_ ?_ ?_); rotate_left 4; (focus rfl); (focus ((repeat (with_reducible exact Split.here)); done)); (focus rfl); (focus (exact sz132)); (focus rfl); (focus (exact ones _ _)); intro w'; clear hS; intro hS; (refine hK _ _ ?_; clear hK K)) | ((with_reducible refine' wp_slice_lit (cs := #[.int .i64 x.n, .float .f64 0, S x.s]) hS ?_ ?_ ?_ ?_ ?_ ?_ ?_ ?_); rotate_left 4; (focus (intro _; (simp; rfl))); (focus (intro _; (simp; rfl))); (focus (intro _; (simp; rfl))); (focus decide); (focus decide); (focus rfl); (focus kernel_rfl); intro w' b'; clear hS; intro hS; (refine hK _ _ ?_; clear hK K)) | ((with_reducible refine' wp_append_row (m := 1) (news := (cellCs x)) slCell (hS.split ?raax108) ?rbax108 ?rcax108 ?rdax108 ?reax108 ?rfax108 ?rgax108); (case raax108 => ((repeat (first | with_reducible exact Split.here | with_reducible apply Split.there)); done)); (case rbax108 => rfl); (case rcax108 => rfl); (case rdax108 => (exact srcCell hS (by ((repeat (with_reducible exact Split.here)); done)))); (case reax108 => (unfold maxLen; omega)); (case rfax108 => omega); (case' rgax108 => (intro v' w'; clear hS; intro hS; (refine hK _ _ ?_; clear hK K)))) | ((with_reducible refine' wp_slice_l n sl22 ?_ ?_ ?_ ?_ ?_); ((rotate_left 5; (focus rfl); (focus rfl); (focus (rfl)); (focus (omega)); intro a' hsub; (refine hK _ _ ?_; clear hK K)))) | ((with_reducible refine' wp_loadN hS ?_ ?_ ?_ ?_ ?_ ?_ ?_); rotate_left 8; (focus rfl); (focus ((repeat (with_reducible exact Split.here)); done)); (focus (intro _; (simp; done))); (focus (intro _; (simp; rfl))); (focus (simp; done)); (focus (simp; rfl)); (refine hK _ _ ?_; clear hK K)) | ((with_reducible refine' wp_alloc hS ?_ ?_); rotate_left 1; (focus (intro _; (simp; rfl))); intro w' b'; clear hS; intro hS; (try simp only [Value.cells] at hS); (refine hK _ _ ?_; clear hK K))))
        have hrow : Sat w0 w' (Row 132 3 v' (xs ++ [x]).length ((xs ++ [x]).flatMap cellCs) :: L) := by
          rw [List.length_append, List.flatMap_append, show [x].flatMap cellCs = cellCs x from by simp, show [x].length = 1 from rfl]
          (refine Sat.ent hS ?_; repeat (first | (with_reducible exact Ent.refl _) | ((with_reducible apply Ent.pull); (focus ((repeat (with_reducible exact Split.here)); done))) | (with_reducible apply Ent.skip)))
        have hr2 : Under w0 L (.slice a' (rest.length - n) (c - n)) (rest.drop n) := fun w' h => (hr w' h).sub hsub hnr
        go_roundw
        case rel => exact ⟨k + 1, xs ++ [x], rest.drop n, a', c - n, by omega, by go_num, by simp; omega, by rw [← Hst.out]; exact Hdec.out, by rw [List.length_drop], by rw [List.length_drop]; omega, by rw [List.length_drop]; exact hr2, hrow⟩
        case measure => simp [intOf]; omega
    case neg =>
      obtain rfl : k = ls.length := by omega
      by_cases h0 : rest = []
      case pos =>
        subst h0
        have hd : dec (ls.drop ls.length) [] = .ok [] := by rw [List.drop_length]; rfl
        have Hd := Lib.hid hd
        clear hd
        have h00 : ((([] : List UInt8).length : Nat) : Int) = 0 := rfl
        go_wp2_with (fail)
        go_ret2
        unfold DecPost
        rw [← Hdec.out, Hd.out]
        exact ⟨_, rfl, by rw [List.append_nil]; exact hS⟩
      case neg =>
        have hpos : 0 < rest.length := List.length_pos_iff.2 h0
        have hpos' : (0 : Int) < (rest.length : Int) := by omega
        have hd : dec (ls.drop ls.length) rest = .error 4 := by rw [List.drop_length, dec, if_neg h0]
        have Hd := Lib.hid hd
        clear hd h0
        go_wp2_with (first | ((with_reducible refine Txt.wp_region_text ?_ ?_ ?_); (focus kernel_rfl); (focus decide +kernel); intro Q' hQ'; have hS1 := hS.drew; clear hS; have hS := hS1; clear hS1) | (with_reducible refine Txt.wpTxt_nil ?_) | ((first | ((with_reducible refine wpList_plain ?_ ?_); (focus rfl); intro K hK) | ((with_reducible refine Txt.wpTxt_plain ?_ ?_ ?_); (focus rfl); (focus rfl); intro K hK)); ((with_reducible refine' wp_load_old hS ?_ ?_ ?_ ?_); rotate_left 2; (focus rfl); (focus (with_reducible assumption)); (focus (intro _; (simp; done))); (refine hK _ _ ?_; clear hK K))) | ((with_reducible refine Txt.wpTxt_plain ?_ ?_ ?_); (focus with_reducible rfl); (focus rfl); intro _ _))
        go_ret2
        unfold DecPost
        rw [← Hdec.out, Hd.out]
        exact ⟨rfl, by (refine Sat.ent hS ?_; repeat (first | (with_reducible exact Ent.refl _) | (with_reducible apply Ent.skip)))⟩
end Go.Proofs.YtndnojbpapjdoaaDoor
