/- Package journal walked: what a block says. -/
import Derived.Test.YtndnojbpapjdoaaDoorJrB
set_option linter.unusedSimpArgs false
set_option linter.unusedVariables false
set_option linter.unusedSectionVars false
namespace Go.Proofs.YtndnojbpapjdoaaDoor
open Go.Sp Go.RowKit Go.Fld Go.Sha Go.Jr

theorem nz_any (u : UInt8) (w : World) : Calls Tryd.prog 87 #[B u] w fun r w' => r = .returned (.bool (u != 0)) ∧ w = w' := by
  have hb : (!((u.toNat : Int) == 0)) = (u != 0) := by
    by_cases h : u = 0
    · subst h; rfl
    · have h1 : (u != 0) = true := by simp [h]
      have h2 : ((u.toNat : Int) == 0) = false := by
        rw [beq_eq_false_iff_ne]; intro h3; apply h; apply UInt8.toNat_inj.1; simpa using h3
      rw [h1, h2]; rfl
  have Hb := Lib.hid hb
  clear hb
  go_enter Tryd.func87, Tryd.ntmps87
  go_wp2_with (fail)
  go_ret
  exact ⟨by rw [← Hb.out]; rfl, rfl⟩

/-- The first place where bytes are not nought. -/
def nzIdx (l : List UInt8) : Int := match l.findIdx? (· != 0) with | some i => i | none => -1
theorem nzIdx_ge (l : List UInt8) : decide (0 ≤ nzIdx l) = l.any (· != 0) := by
  unfold nzIdx
  cases h : l.findIdx? (· != 0) with
  | none => 
    rw [List.findIdx?_eq_none_iff] at h
    have : l.any (· != 0) = false := by rw [List.any_eq_false]; intro x hx; simp [h x hx]
    rw [this]; rfl
  | some i =>
    obtain ⟨hi, hp, _⟩ := List.findIdx?_eq_some_iff_getElem.1 h
    have : l.any (· != 0) = true := List.any_eq_true.2 ⟨_, List.getElem_mem hi, hp⟩
    rw [this]; simp
set_option maxRecDepth 100000 in
set_option maxHeartbeats 4000000 in
theorem index_nz (v : Value) (l : List UInt8) (w0 w : World) (L : List Asn) (hS : Sat w0 w L) (hr : Under w0 L v l) (hl : l.length ≤ 140737488355328) :
    Calls Tryd.prog 94 #[v, .func (.func 87) #[] #[]] w fun r w' => r = .returned (.int .i64 (nzIdx l)) ∧ Sat w0 w' L := by
  obtain ⟨a, c, rfl, _⟩ := hr w hS
  obtain ⟨n, hn⟩ : ∃ n, l.length = n := ⟨_, rfl⟩
  rw [hn] at hr hl ⊢
  have Hn := Lib.hid hn
  clear hn
  go_enter Tryd.func94, Tryd.ntmps94
  go_wp2_with (fail)
  go_loopw [8] (fun i wr => ∃ (k : Nat), k ≤ n ∧ i = .int .i64 k ∧ (∀ j, j < k → l[j]? = some 0) ∧ Sat w0 wr L) (fun i _ => n - (intOf i).toNat)
  case atStart => exact ⟨0, by omega, rfl, by omega, hS⟩
  case round =>
    clear hS
    obtain ⟨k, hk, rfl, hz, hS⟩ := hrel
    have Hz := Lib.hid hz
    clear hz
    by_cases hlt : k < n
    case pos =>
      obtain ⟨u, hu⟩ : ∃ u, l[k]? = some u := ⟨_, List.getElem?_eq_getElem (by rw [Hn.out]; exact hlt)⟩
      obtain ⟨aa, rfl⟩ := reads_addr (hr _ hS) (by rw [Hn.out]; omega)
      have hc1 := reads_at (hr _ hS) k u hu
      have Hu := Lib.hid hu
      clear hu
      by_cases h0 : u = 0
      case pos =>
        subst h0
        go_wp2_with (first | (go_at_call 87; ((with_reducible refine' (nz_any _ _).mono ?_); rintro r4 w4 ⟨rfl, rfl⟩)) | ((((with_reducible refine wpList_plain ?_ ?_); (focus rfl); intro K hK)); ((with_reducible refine' wp_load_known ?_ ?_ ?_ ?_); rotate_left 2; (focus rfl); (focus (with_reducible assumption)); (focus (intro _; (simp; done))); (refine hK _ _ ?_; clear hK K))))
        go_roundw
        case rel => exact ⟨k + 1, by omega, by go_num, (fun j hj => by by_cases h : j = k; (subst h; exact Hu.out); exact Hz.out j (by omega)), hS⟩
        case measure => simp [intOf]; omega
      case neg =>
        have hb : (u != 0) = true := by simp [h0]
        have Hi : Hid (nzIdx l = (k : Int)) := Lib.hid (by
          unfold nzIdx
          have : l.findIdx? (· != 0) = some k := by
            rw [List.findIdx?_eq_some_iff_getElem]
            have hk' : k < l.length := by rw [Hn.out]; exact hlt
            have hu' : l[k] = u := by have := Hu.out; rw [List.getElem?_eq_getElem hk'] at this; exact Option.some.inj this
            refine ⟨hk', by rw [hu']; exact hb, fun j hj => ?_⟩
            have hj' : j < l.length := by omega
            have := Hz.out j hj
            rw [List.getElem?_eq_getElem hj'] at this
            rw [Option.some.inj this]; simp
          rw [this])
        clear h0
        go_wp2_with (first | (go_at_call 87; ((with_reducible refine' (nz_any _ _).mono ?_); rintro r4 w4 ⟨rfl, rfl⟩; rw [hb])) | ((((with_reducible refine wpList_plain ?_ ?_); (focus rfl); intro K hK)); ((with_reducible refine' wp_load_known ?_ ?_ ?_ ?_); rotate_left 2; (focus rfl); (focus (with_reducible assumption)); (focus (intro _; (simp; done))); (refine hK _ _ ?_; clear hK K))))
        go_ret
        exact ⟨by rw [Hi.out]; rfl, hS⟩
    case neg =>
      obtain rfl : k = n := by omega
      have Hi : Hid (nzIdx l = -1) := Lib.hid (by
        unfold nzIdx
        have : l.findIdx? (· != 0) = none := by
          rw [List.findIdx?_eq_none_iff]
          intro x hx
          obtain ⟨j, hj, rfl⟩ := List.getElem_of_mem hx
          have := Hz.out j (by have := Hn.out; omega)
          rw [List.getElem?_eq_getElem hj] at this
          rw [Option.some.inj this]; rfl
        rw [this])
      go_wp2_with (fail)
      go_ret
      exact ⟨by rw [Hi.out]; rfl, hS⟩
theorem contains_nz (v : Value) (l : List UInt8) (w0 w : World) (L : List Asn) (hS : Sat w0 w L) (hr : Under w0 L v l) (hl : l.length ≤ 140737488355328) :
    Calls Tryd.prog 86 #[v, .func (.func 87) #[] #[]] w fun r w' => r = .returned (.bool (l.any (· != 0))) ∧ Sat w0 w' L := by
  have Hd := Lib.hid (nzIdx_ge l)
  go_enter Tryd.func86, Tryd.ntmps86
  go_wp2_with ((go_at_call 94; ((with_reducible refine' (index_nz v l w0 _ L hS hr hl).mono ?_); rintro r4 w4 ⟨rfl, hS1⟩; (clear hS; have hS := hS1; clear hS1))))
  go_ret
  exact ⟨by rw [← Hd.out]; rfl, hS⟩

/-- What get answers. -/
def BGet (w0 : World) (L : List Asn) (o : Option Jr.Block) (r : Ending) (w' : World) : Prop := match o with
  | none => r = .returned (.tuple #[.agg #[.int .i64 0, .int .i64 0, .int .i64 0, .int .i64 0, .slice none 0 0], .bool false]) ∧ Sat w0 w' L
  | some x => ∃ a c, r = .returned (.tuple #[BlkV x (.slice a x.bytes.length c), .bool true]) ∧ Sat w0 w' (Bytes 5 (.slice a x.bytes.length c) x.bytes :: L)
theorem results_c1b {P : Program} {fn : Func} {p u : Tmp} {ty : TypeId} (h : fn.results = #[.cell p ty, .tmp u]) (tmps : Array Value) (w : World) (g : Nat) (t : TypeId) (cs : Array Value) (fr : Nat × Nat) (d : TypeDesc) (x y : Value)
    (hp : tmps.getD p undef = .pointer (some ⟨g, 0, none⟩)) (hg : w.heap[g]? = some (.cells cs t fr))
    (hu : P.underlying ty = some d) (hd : (match d with | .struct _ | .array _ _ => true | _ => false) = true) (hi : (P.info? ty).map (·.size) = some cs.size) (hx : .agg cs = x) (hy : tmps.getD u undef = y) :
    (results fn tmps).run P w = .ok (.tuple #[x, y]) w := by
  subst hx hy
  exact results_c1 h tmps w g t cs fr d hp hg hu hd hi
set_option maxRecDepth 100000 in
set_option maxHeartbeats 4000000 in
theorem get_bad (b : List UInt8) (hb : b.length = 64) (hc : check (b.take 60) ≠ b.drop 60) (w0 w : World) (L : List Asn) (hT : Table w0) (hS : Sat w0 w L) :
    Calls Tryd.prog 76 #[.agg (b.map B).toArray] w fun r w' => BGet w0 L none r w' := by
  have hlc := length_check (b.take 60)
  have Hd := Lib.hid (show decide (check (b.take 60) = b.drop 60) = false by simp [hc])
  have Hfr := Lib.hid (show (b.drop 0).take 60 = b.take 60 by simp)
  have Hck := Lib.hid (show ((check (b.take 60)).drop 0).take 4 = check (b.take 60) by rw [List.drop_zero, List.take_of_length_le (by omega)])
  have Hen := Lib.hid (show (b.drop 60).take 4 = b.drop 60 by rw [List.take_of_length_le (by rw [List.length_drop]; omega)])
  clear hc
  go_enter Tryd.func76, Tryd.ntmps76
  go_wp2_with (first | (go_at_call 79; ((with_reducible refine' (check_arr hT hS ?sb1x134 ?sb3x134 ?sb4x134 ?sb5x134 ?sb6x134 Hfr.out).mono ?sb2x134); (case sb1x134 => ((repeat (with_reducible exact Split.here)); done)); (case sb3x134 => ((repeat (first | with_reducible exact Split.here | with_reducible apply Split.there)); done)); (case sb4x134 => omega); (case sb5x134 => omega); (case sb6x134 => omega); (case' sb2x134 => (rintro r4 w4 ⟨rfl, hS1⟩; (clear hS; have hS := hS1; clear hS1))))) | (go_at_call 84; ((with_reducible refine' (alike_any _ _ _ _ w0 _ _ hS (under_bx ?sc1x135 Hck.out ?sc2x135 ?sc3x135 ?sc4x135) (under_bx ?sd1x135 Hen.out ?sd2x135 ?sd3x135 ?sd4x135) ?sc5x135 ?sd5x135).mono ?sc6x135); (case sc1x135 => ((repeat (with_reducible exact Split.here)); done)); (case sd1x135 => ((repeat (first | with_reducible exact Split.here | with_reducible apply Split.there)); done)); (case sc2x135 => omega); (case sc3x135 => omega); (case sc4x135 => omega); (case sd2x135 => omega); (case sd3x135 => omega); (case sd4x135 => omega); (case sc5x135 => omega); (case sd5x135 => (rw [List.length_drop]; omega)); (case' sc6x135 => (rintro r4 w4 ⟨rfl, hS1⟩; (clear hS; have hS := hS1; clear hS1); rw [Hd.out])))) | ((with_reducible refine Txt.wp_region_text ?_ ?_ ?_); (focus kernel_rfl); (focus decide +kernel); intro Q' hQ'; have hS1 := hS.drew; clear hS; have hS := hS1; clear hS1) | (with_reducible refine Txt.wpTxt_nil ?_) | ((first | ((with_reducible refine wpList_plain ?_ ?_); (focus rfl); intro K hK) | ((with_reducible refine Txt.wpTxt_plain ?_ ?_ ?_); (focus rfl); (focus rfl); intro K hK)); first | ((with_reducible refine' wp_buildv (v := .agg #[.int .i64 0, .int .i64 0, .int .i64 0, .int .i64 0, .slice none 0 0]) ?_ ?_); (focus (intro _; kernel_rfl)); (refine hK _ _ ?_; clear hK K)) | ((with_reducible refine' wp_alloc_ba hS ?_ ?_); rotate_left 1; (focus (exact zero133)); intro w' b'; clear hS; intro hS; (refine hK _ _ ?_; clear hK K)) | ((with_reducible refine' wp_store_ba hS ?_ ?_ ?_ ?_ ?_ ?_ ?_); rotate_left 6; (focus rfl); (focus ((repeat (first | with_reducible exact Split.here | with_reducible apply Split.there)); done)); (focus rfl); (focus (exact sz133)); (focus (omega)); (focus ((simp; done))); intro w'; clear hS; intro hS; (refine hK _ _ ?_; clear hK K)) | ((with_reducible refine' wp_storeN hS ?_ ?_ ?_ ?_ ?_ ?_ ?_ ?_); rotate_left 7; (focus rfl); (focus ((repeat (first | with_reducible exact Split.here | with_reducible apply Split.there)); done)); (focus (conv => lhs; whnf)); (focus (intro _; (simp; rfl))); (focus rfl); (focus (simp [Value.cells, Value.oneCell']; done)); (focus (simp; done)); intro w'; clear hS; intro hS; (try simp only [setCells, Value.cells, List.take_succ_cons, List.take_zero, List.drop_succ_cons, List.drop_zero, List.append_nil, List.nil_append, List.cons_append, List.length_cons, List.length_nil, Nat.zero_add, Nat.reduceAdd, List.drop_nil] at hS); (refine hK _ _ ?_; clear hK K)) | ((with_reducible refine' wp_alloc hS ?_ ?_); rotate_left 1; (focus (intro _; (simp; rfl))); intro w' b'; clear hS; intro hS; (try simp only [Value.cells] at hS); (refine hK _ _ ?_; clear hK K)) | ((with_reducible refine' wp_box hS ?_ ?_); rotate_left 1; (focus (conv => lhs; whnf)); intro w' b'; clear hS; intro hS; (try simp only [Value.cells] at hS); (refine hK _ _ ?_; clear hK K)) | ((with_reducible refine' wp_arr_sl ?_ ?_ ?_ ?_ ?_); rotate_left 5; (focus (intro _; (simp; exact ⟨rfl, rfl⟩))); (focus (intro _; (simp; rfl))); (focus rfl); (focus (omega)); (refine hK _ _ ?_; clear hK K)) | ((with_reducible refine' wp_arr_hi ?_ ?_ ?_ ?_ ?_ ?_ ?_ ?_ ?_); rotate_left 8; (focus (intro _; (simp; exact ⟨rfl, rfl⟩))); (focus (intro _; (simp; rfl))); (focus rfl); (focus rfl); (focus (omega)); (focus (((simp only [Int.toNat_natCast, Int.reduceToNat, Nat.mul_one, Nat.zero_add, Nat.add_zero, Nat.reduceMul, Nat.reduceAdd, Nat.reduceSub]); rfl))); (focus (omega)); (focus (omega)); (refine hK _ _ ?_; clear hK K)) | ((with_reducible refine' wp_arr_lo ?_ ?_ ?_ ?_ ?_ ?_ ?_ ?_ ?_ ?_); rotate_left 10; (focus (intro _; (simp; exact ⟨rfl, rfl⟩))); (focus (intro _; (simp; rfl))); (focus rfl); (focus rfl); (focus (omega)); (focus (((simp only [Int.toNat_natCast, Int.reduceToNat, Nat.mul_one, Nat.zero_add, Nat.add_zero, Nat.reduceMul, Nat.reduceAdd, Nat.reduceSub]); rfl))); (focus (omega)); (focus (((simp only [Int.toNat_natCast, Int.reduceToNat, Nat.mul_one, Nat.zero_add, Nat.add_zero, Nat.reduceMul, Nat.reduceAdd, Nat.reduceSub]); rfl))); (focus (((simp only [Int.toNat_natCast, Int.reduceToNat, Nat.mul_one, Nat.zero_add, Nat.add_zero, Nat.reduceMul, Nat.reduceAdd, Nat.reduceSub]); rfl))); (refine hK _ _ ?_; clear hK K)) | ((with_reducible refine' wp_lit1 hS ?_ ?_ ?_ ?_ ?_ ?_); rotate_left 3; (focus (intro _; (simp; rfl))); (focus (intro _; (simp; done))); (focus (intro _; (simp; rfl))); (focus (conv => lhs; whnf)); (focus rfl); intro w' b'; clear hS; intro hS; (refine hK _ _ ?_; clear hK K))) | ((with_reducible refine Txt.wpTxt_plain ?_ ?_ ?_); (focus with_reducible rfl); (focus rfl); intro _ _))
  refine bodyPost_ret (results_c1b rfl _ _ _ _ _ (0, 0) _ (.agg #[.int .i64 0, .int .i64 0, .int .i64 0, .int .i64 0, .slice none 0 0]) (.bool false) rfl hS.at Tryd.underlying111 rfl rfl rfl rfl) rfl ⟨rfl, by (refine Sat.ent hS ?_; repeat (first | (with_reducible exact Ent.refl _) | (with_reducible apply Ent.skip)))⟩

theorem dec_err {E : Nat → Addr} (ls : List UInt8) (v : Value) (l : List UInt8) (e : Nat) (hd : dec ls l = .error e) (hls : ∀ c ∈ ls, isLetter c = true ∧ c ≠ 102) (hn : ls.length ≤ 1000) (hlen : l.length ≤ 140737488355328) (w0 w : World) (L : List Asn) (hE : FldErrs E w0) (hS : Sat w0 w L) (hr : Under w0 L v l) :
    Calls Tryd.prog 85 #[.string ⟨ls.toArray⟩, v] w fun r w' => r = .returned (.tuple #[.slice none 0 0, .iface 182 (.pointer (some (E e)))]) ∧ Sat w0 w' L :=
  (decode_any E ls v l hls hn hlen w0 w L hE hS hr).mono fun r w' h => by unfold DecPost at h; rw [hd] at h; exact h
theorem dec_ok {E : Nat → Addr} (ls : List UInt8) (v : Value) (l : List UInt8) (cs : List Cell) (hd : dec ls l = .ok cs) (hls : ∀ c ∈ ls, isLetter c = true ∧ c ≠ 102) (hn : ls.length ≤ 1000) (hlen : l.length ≤ 140737488355328) (w0 w : World) (L : List Asn) (hE : FldErrs E w0) (hS : Sat w0 w L) (hr : Under w0 L v l) :
    Calls Tryd.prog 85 #[.string ⟨ls.toArray⟩, v] w fun r w' => ∃ v, r = .returned (.tuple #[v, .nilIface]) ∧ Sat w0 w' (CellRow v cs :: L) :=
  (decode_any E ls v l hls hn hlen w0 w L hE hS hr).mono fun r w' h => by unfold DecPost at h; rw [hd] at h; exact h
/-- What a walk of get knows of its bytes. -/
structure GetIn (b : List UInt8) (u : UInt8) (z : Nat) : Prop where
  len : b.length = 64
  at13 : b[13]? = some u
  size : z = size b
  val : min (14 + u.toNat) 60 = z
theorem getIn (b : List UInt8) (hb : b.length = 64) : ∃ u z, GetIn b u z := by
  have h : b[13]? = some b[13] := List.getElem?_eq_getElem (by omega)
  refine ⟨_, _, hb, h, rfl, ?_⟩
  unfold size
  rw [List.getD_eq_getElem?_getD, h]
  rfl
set_option maxRecDepth 100000 in
set_option maxHeartbeats 4000000 in
theorem get_long (E : Nat → Addr) (b : List UInt8) (hb : b.length = 64) (hc : check (b.take 60) = b.drop 60) (hn : ¬ (b.getD 13 0).toNat ≤ 46) (w0 w : World) (L : List Asn) (hT : Table w0) (hE : FldErrs E w0) (hS : Sat w0 w L) :
    Calls Tryd.prog 76 #[.agg (b.map B).toArray] w fun r w' => BGet w0 L none r w' := by
  have hlc := length_check (b.take 60)
  have Hd := Lib.hid (show decide (check (b.take 60) = b.drop 60) = true by simp [hc])
  have Hfr := Lib.hid (show (b.drop 0).take 60 = b.take 60 by simp)
  have Hck := Lib.hid (show ((check (b.take 60)).drop 0).take 4 = check (b.take 60) by rw [List.drop_zero, List.take_of_length_le (by omega)])
  have Hen := Lib.hid (show (b.drop 60).take 4 = b.drop 60 by rw [List.take_of_length_le (by rw [List.length_drop]; omega)])
  clear hc
  have hds := dec_size hb
  rw [if_neg hn] at hds
  obtain ⟨e, hde⟩ := hds
  obtain ⟨u, z, -, hu, hz, hval⟩ := getIn b hb
  rw [← hz] at hde
  have hz60 : z ≤ 60 := by omega
  have hz14 : 14 ≤ z := by omega
  have Hval := Lib.hid (show min (14 + (u.toNat : Int)) 60 = (z : Int) by omega)
  have hu8 : (u.toNat : Int) < 256 := by have := u.toNat_lt; omega
  have Hsz := Lib.hid (show (b.drop 0).take z = b.take z by simp)
  have Hde := Lib.hid hde
  clear hval hn hde hz
  go_enter Tryd.func76, Tryd.ntmps76
  go_wp2_with (first | (rw [Hval.out]) | (go_at_call 79; ((with_reducible refine' (check_arr hT hS ?sb1x182 ?sb3x182 ?sb4x182 ?sb5x182 ?sb6x182 Hfr.out).mono ?sb2x182); (case sb1x182 => ((repeat (with_reducible exact Split.here)); done)); (case sb3x182 => ((repeat (first | with_reducible exact Split.here | with_reducible apply Split.there)); done)); (case sb4x182 => omega); (case sb5x182 => omega); (case sb6x182 => omega); (case' sb2x182 => (rintro r4 w4 ⟨rfl, hS1⟩; (clear hS; have hS := hS1; clear hS1))))) | (go_at_call 84; ((with_reducible refine' (alike_any _ _ _ _ w0 _ _ hS (under_bx ?sc1x183 Hck.out ?sc2x183 ?sc3x183 ?sc4x183) (under_bx ?sd1x183 Hen.out ?sd2x183 ?sd3x183 ?sd4x183) ?sc5x183 ?sd5x183).mono ?sc6x183); (case sc1x183 => ((repeat (with_reducible exact Split.here)); done)); (case sd1x183 => ((repeat (first | with_reducible exact Split.here | with_reducible apply Split.there)); done)); (case sc2x183 => omega); (case sc3x183 => omega); (case sc4x183 => omega); (case sd2x183 => omega); (case sd3x183 => omega); (case sd4x183 => omega); (case sc5x183 => omega); (case sd5x183 => (rw [List.length_drop]; omega)); (case' sc6x183 => (rintro r4 w4 ⟨rfl, hS1⟩; (clear hS; have hS := hS1; clear hS1); rw [Hd.out])))) | (go_at_call 85; ((with_reducible refine' (dec_err layout _ _ e Hde.out layout_letters (by decide) ?se1x184 w0 _ _ hE hS (under_bx ?se2x184 Hsz.out ?se3x184 ?se4x184 ?se5x184)).mono ?se6x184); (case se2x184 => ((repeat (first | with_reducible exact Split.here | with_reducible apply Split.there)); done)); (case se1x184 => (rw [List.length_take]; omega)); (case se3x184 => omega); (case se4x184 => omega); (case se5x184 => omega); (case' se6x184 => (rintro r4 w4 ⟨rfl, hS1⟩; (clear hS; have hS := hS1; clear hS1))))) | ((with_reducible refine Txt.wp_region_text ?_ ?_ ?_); (focus kernel_rfl); (focus decide +kernel); intro Q' hQ'; have hS1 := hS.drew; clear hS; have hS := hS1; clear hS1) | (with_reducible refine Txt.wpTxt_nil ?_) | ((first | ((with_reducible refine wpList_plain ?_ ?_); (focus rfl); intro K hK) | ((with_reducible refine Txt.wpTxt_plain ?_ ?_ ?_); (focus rfl); (focus rfl); intro K hK)); first | ((with_reducible refine' wp_buildv (v := .agg #[.int .i64 0, .int .i64 0, .int .i64 0, .int .i64 0, .slice none 0 0]) ?_ ?_); (focus (intro _; kernel_rfl)); (refine hK _ _ ?_; clear hK K)) | ((with_reducible refine' wp_alloc_ba hS ?_ ?_); rotate_left 1; (focus (exact zero133)); intro w' b'; clear hS; intro hS; (refine hK _ _ ?_; clear hK K)) | ((with_reducible refine' wp_store_ba hS ?_ ?_ ?_ ?_ ?_ ?_ ?_); rotate_left 6; (focus rfl); (focus ((repeat (first | with_reducible exact Split.here | with_reducible apply Split.there)); done)); (focus rfl); (focus (exact sz133)); (focus (omega)); (focus ((simp; done))); intro w'; clear hS; intro hS; (refine hK _ _ ?_; clear hK K)) | ((with_reducible refine' wp_ba_load hS ?_ ?_ ?_ ?_ ?_); rotate_left 7; (focus rfl); (focus ((repeat (first | with_reducible exact Split.here | with_reducible apply Split.there)); done)); (focus (with_reducible assumption)); (focus (intro _; (simp; done))); (refine hK _ _ ?_; clear hK K)) | ((with_reducible refine' wp_storeN hS ?_ ?_ ?_ ?_ ?_ ?_ ?_ ?_); rotate_left 7; (focus rfl); (focus ((repeat (first | with_reducible exact Split.here | with_reducible apply Split.there)); done)); (focus (conv => lhs; whnf)); (focus (intro _; (simp; rfl))); (focus rfl); (focus (simp [Value.cells, Value.oneCell']; done)); (focus (simp; done)); intro w'; clear hS; intro hS; (try simp only [setCells, Value.cells, List.take_succ_cons, List.take_zero, List.drop_succ_cons, List.drop_zero, List.append_nil, List.nil_append, List.cons_append, List.length_cons, List.length_nil, Nat.zero_add, Nat.reduceAdd, List.drop_nil] at hS); (refine hK _ _ ?_; clear hK K)) | ((with_reducible refine' wp_alloc hS ?_ ?_); rotate_left 1; (focus (intro _; (simp; rfl))); intro w' b'; clear hS; intro hS; (try simp only [Value.cells] at hS); (refine hK _ _ ?_; clear hK K)) | ((with_reducible refine' wp_box hS ?_ ?_); rotate_left 1; (focus (conv => lhs; whnf)); intro w' b'; clear hS; intro hS; (try simp only [Value.cells] at hS); (refine hK _ _ ?_; clear hK K)) | ((with_reducible refine' wp_arr_sl ?_ ?_ ?_ ?_ ?_); rotate_left 5; (focus (intro _; (simp; exact ⟨rfl, rfl⟩))); (focus (intro _; (simp; rfl))); (focus rfl); (focus (omega)); (refine hK _ _ ?_; clear hK K)) | ((with_reducible refine' wp_arr_hi ?_ ?_ ?_ ?_ ?_ ?_ ?_ ?_ ?_); rotate_left 8; (focus (intro _; (simp; exact ⟨rfl, rfl⟩))); (focus (intro _; (simp; rfl))); (focus rfl); (focus rfl); (focus (omega)); (focus (((simp only [Int.toNat_natCast, Int.reduceToNat, Nat.mul_one, Nat.zero_add, Nat.add_zero, Nat.reduceMul, Nat.reduceAdd, Nat.reduceSub]); rfl))); (focus (omega)); (focus (omega)); (refine hK _ _ ?_; clear hK K)) | ((with_reducible refine' wp_arr_lo ?_ ?_ ?_ ?_ ?_ ?_ ?_ ?_ ?_ ?_); rotate_left 10; (focus (intro _; (simp; exact ⟨rfl, rfl⟩))); (focus (intro _; (simp; rfl))); (focus rfl); (focus rfl); (focus (omega)); (focus (((simp only [Int.toNat_natCast, Int.reduceToNat, Nat.mul_one, Nat.zero_add, Nat.add_zero, Nat.reduceMul, Nat.reduceAdd, Nat.reduceSub]); rfl))); (focus (omega)); (focus (((simp only [Int.toNat_natCast, Int.reduceToNat, Nat.mul_one, Nat.zero_add, Nat.add_zero, Nat.reduceMul, Nat.reduceAdd, Nat.reduceSub]); rfl))); (focus (((simp only [Int.toNat_natCast, Int.reduceToNat, Nat.mul_one, Nat.zero_add, Nat.add_zero, Nat.reduceMul, Nat.reduceAdd, Nat.reduceSub]); rfl))); (refine hK _ _ ?_; clear hK K)) | ((with_reducible refine' wp_lit1 hS ?_ ?_ ?_ ?_ ?_ ?_); rotate_left 3; (focus (intro _; (simp; rfl))); (focus (intro _; (simp; done))); (focus (intro _; (simp; rfl))); (focus (conv => lhs; whnf)); (focus rfl); intro w' b'; clear hS; intro hS; (refine hK _ _ ?_; clear hK K))) | ((with_reducible refine Txt.wpTxt_plain ?_ ?_ ?_); (focus with_reducible rfl); (focus rfl); intro _ _))
  refine bodyPost_ret (results_c1b rfl _ _ _ _ _ (0, 0) _ (.agg #[.int .i64 0, .int .i64 0, .int .i64 0, .int .i64 0, .slice none 0 0]) (.bool false) rfl hS.at Tryd.underlying111 rfl rfl rfl rfl) rfl ⟨rfl, by (refine Sat.ent hS ?_; repeat (first | (with_reducible exact Ent.refl _) | (with_reducible apply Ent.skip)))⟩

/-- The fields of a block, decoded. -/
theorem dec_blk {E : Nat → Addr} (v : Value) (l : List UInt8) (x : Jr.Block) (hd : dec layout l = .ok x.cells) (hlen : l.length ≤ 140737488355328) (w0 w : World) (L : List Asn) (hE : FldErrs E w0) (hS : Sat w0 w L) (hr : Under w0 L v l) :
    Calls Tryd.prog 85 #[.string ⟨#[98, 119, 119, 119, 116]⟩, v] w fun r w' => ∃ g o c, r = .returned (.tuple #[.slice (some ⟨g, o, none⟩) 5 c, .nilIface]) ∧ 5 ≤ c ∧ Sat w0 w' (Row 132 3 (.slice (some ⟨g, o, none⟩) 5 c) 5 [.int .i64 x.kind, f0, S [], .int .i64 x.a, f0, S [], .int .i64 x.b, f0, S [], .int .i64 x.c, f0, S [], .int .i64 0, f0, S x.bytes] :: L) :=
  (dec_ok layout v l x.cells hd layout_letters (by decide) hlen w0 w L hE hS hr).mono fun r w' ⟨u, hr, hs⟩ => by
    have hs' : Sat w0 w' (Row 132 3 u 5 [.int .i64 x.kind, f0, S [], .int .i64 x.a, f0, S [], .int .i64 x.b, f0, S [], .int .i64 x.c, f0, S [], .int .i64 0, f0, S x.bytes] :: L) := hs
    obtain ⟨g, o, c, rfl⟩ := row_addr hs' (by decide)
    obtain ⟨_, _, e, _, h5, _⟩ := hs'.row_len
    cases e
    exact ⟨g, o, c, hr, h5, hs'⟩
set_option maxRecDepth 100000 in
set_option maxHeartbeats 4000000 in
theorem get_nz (E : Nat → Addr) (b : List UInt8) (hb : b.length = 64) (hc : check (b.take 60) = b.drop 60) (hn : (b.getD 13 0).toNat ≤ 46) (hnz : ((b.take 60).drop (size b)).any (· != 0) = true) (w0 w : World) (L : List Asn) (hT : Table w0) (hE : FldErrs E w0) (hS : Sat w0 w L) :
    Calls Tryd.prog 76 #[.agg (b.map B).toArray] w fun r w' => BGet w0 L none r w' := by
  have hlc := length_check (b.take 60)
  have Hd := Lib.hid (show decide (check (b.take 60) = b.drop 60) = true by simp [hc])
  have Hfr := Lib.hid (show (b.drop 0).take 60 = b.take 60 by simp)
  have Hck := Lib.hid (show ((check (b.take 60)).drop 0).take 4 = check (b.take 60) by rw [List.drop_zero, List.take_of_length_le (by omega)])
  have Hen := Lib.hid (show (b.drop 60).take 4 = b.drop 60 by rw [List.take_of_length_le (by rw [List.length_drop]; omega)])
  clear hc
  have hds := dec_size hb
  rw [if_pos hn] at hds
  obtain ⟨u, z, -, hu, hz, hval⟩ := getIn b hb
  rw [← hz] at hds hnz
  have hz60 : z ≤ 60 := by omega
  have hz14 : 14 ≤ z := by omega
  have Hval := Lib.hid (show min (14 + (u.toNat : Int)) 60 = (z : Int) by omega)
  have hu8 : (u.toNat : Int) < 256 := by have := u.toNat_lt; omega
  have Hsz := Lib.hid (show (b.drop 0).take z = b.take z by simp)
  have Hs6 := Lib.hid (show (b.drop z).take (60 - z) = (b.take 60).drop z by rw [List.drop_take])
  obtain ⟨x, hx⟩ : ∃ x, x = blockOf (b.take z) := ⟨_, rfl⟩
  rw [← hx] at hds
  have Hde := Lib.hid hds
  have hxl : x.bytes.length ≤ 60 := by rw [hx]; show ((b.take z).drop 14).length ≤ 60; rw [List.length_drop, List.length_take]; omega
  have Hnz := Lib.hid hnz
  clear hval hn hds hx hnz hz
  go_enter Tryd.func76, Tryd.ntmps76
  go_wp2_with (first | (rw [Hval.out]) | (go_at_call 79; ((with_reducible refine' (check_arr hT hS ?sb1x226 ?sb3x226 ?sb4x226 ?sb5x226 ?sb6x226 Hfr.out).mono ?sb2x226); (case sb1x226 => ((repeat (with_reducible exact Split.here)); done)); (case sb3x226 => ((repeat (first | with_reducible exact Split.here | with_reducible apply Split.there)); done)); (case sb4x226 => omega); (case sb5x226 => omega); (case sb6x226 => omega); (case' sb2x226 => (rintro r4 w4 ⟨rfl, hS1⟩; (clear hS; have hS := hS1; clear hS1))))) | (go_at_call 84; ((with_reducible refine' (alike_any _ _ _ _ w0 _ _ hS (under_bx ?sc1x227 Hck.out ?sc2x227 ?sc3x227 ?sc4x227) (under_bx ?sd1x227 Hen.out ?sd2x227 ?sd3x227 ?sd4x227) ?sc5x227 ?sd5x227).mono ?sc6x227); (case sc1x227 => ((repeat (with_reducible exact Split.here)); done)); (case sd1x227 => ((repeat (first | with_reducible exact Split.here | with_reducible apply Split.there)); done)); (case sc2x227 => omega); (case sc3x227 => omega); (case sc4x227 => omega); (case sd2x227 => omega); (case sd3x227 => omega); (case sd4x227 => omega); (case sc5x227 => omega); (case sd5x227 => (rw [List.length_drop]; omega)); (case' sc6x227 => (rintro r4 w4 ⟨rfl, hS1⟩; (clear hS; have hS := hS1; clear hS1); rw [Hd.out])))) | (go_at_call 85; ((with_reducible refine' (dec_blk _ _ x Hde.out ?se1x228 w0 _ _ hE hS (under_bx ?se2x228 Hsz.out ?se3x228 ?se4x228 ?se5x228)).mono ?se6x228); (case se2x228 => ((repeat (first | with_reducible exact Split.here | with_reducible apply Split.there)); done)); (case se1x228 => (rw [List.length_take]; omega)); (case se3x228 => omega); (case se4x228 => omega); (case se5x228 => omega); (case' se6x228 => (rintro r4 w4 ⟨g4, o4, c4, rfl, hc4, hS1⟩; (clear hS; have hS := hS1; clear hS1))))) | (go_at_call 86; ((with_reducible refine' (contains_nz _ _ w0 _ _ hS (under_bx ?sf1x229 Hs6.out ?sf2x229 ?sf3x229 ?sf4x229) ?sf5x229).mono ?sf6x229); (case sf1x229 => ((repeat (first | with_reducible exact Split.here | with_reducible apply Split.there)); done)); (case sf2x229 => omega); (case sf3x229 => omega); (case sf4x229 => omega); (case sf5x229 => (rw [List.length_drop, List.length_take]; omega)); (case' sf6x229 => (rintro r4 w4 ⟨rfl, hS1⟩; (clear hS; have hS := hS1; clear hS1); rw [Hnz.out])))) | ((with_reducible refine Txt.wp_region_text ?_ ?_ ?_); (focus kernel_rfl); (focus decide +kernel); intro Q' hQ'; have hS1 := hS.drew; clear hS; have hS := hS1; clear hS1) | (with_reducible refine Txt.wpTxt_nil ?_) | ((first | ((with_reducible refine wpList_plain ?_ ?_); (focus rfl); intro K hK) | ((with_reducible refine Txt.wpTxt_plain ?_ ?_ ?_); (focus rfl); (focus rfl); intro K hK) | ((with_reducible refine wpList_runG ?_ ?_); (focus rfl); intro K hK)); first | ((with_reducible refine' wp_buildv (v := .agg #[.int .i64 0, .int .i64 0, .int .i64 0, .int .i64 0, .slice none 0 0]) ?_ ?_); (focus (intro _; kernel_rfl)); (refine hK _ _ ?_; clear hK K)) | ((with_reducible refine' wp_alloc_ba hS ?_ ?_); rotate_left 1; (focus (exact zero133)); intro w' b'; clear hS; intro hS; (refine hK _ _ ?_; clear hK K)) | ((with_reducible refine' wp_store_ba hS ?_ ?_ ?_ ?_ ?_ ?_ ?_); rotate_left 6; (focus rfl); (focus ((repeat (first | with_reducible exact Split.here | with_reducible apply Split.there)); done)); (focus rfl); (focus (exact sz133)); (focus (omega)); (focus ((simp; done))); intro w'; clear hS; intro hS; (refine hK _ _ ?_; clear hK K)) | ((with_reducible refine' wp_ba_load hS ?_ ?_ ?_ ?_ ?_); rotate_left 7; (focus rfl); (focus ((repeat (first | with_reducible exact Split.here | with_reducible apply Split.there)); done)); (focus (with_reducible assumption)); (focus (intro _; (simp; done))); (refine hK _ _ ?_; clear hK K)) | ((with_reducible refine' wp_storeN hS ?_ ?_ ?_ ?_ ?_ ?_ ?_ ?_); rotate_left 7; (focus rfl); (focus ((repeat (first | with_reducible exact Split.here | with_reducible apply Split.there)); done)); (focus (conv => lhs; whnf)); (focus (intro _; (simp; rfl))); (focus rfl); (focus (simp [Value.cells, Value.oneCell']; done)); (focus (simp; done)); intro w'; clear hS; intro hS; (try simp only [setCells, Value.cells, List.take_succ_cons, List.take_zero, List.drop_succ_cons, List.drop_zero, List.append_nil, List.nil_append, List.cons_append, List.length_cons, List.length_nil, Nat.zero_add, Nat.reduceAdd, List.drop_nil] at hS); (refine hK _ _ ?_; clear hK K)) | ((with_reducible refine' wp_alloc hS ?_ ?_); rotate_left 1; (focus (intro _; (simp; rfl))); intro w' b'; clear hS; intro hS; (try simp only [Value.cells] at hS); (refine hK _ _ ?_; clear hK K)) | ((with_reducible refine' wp_box hS ?_ ?_); rotate_left 1; (focus (conv => lhs; whnf)); intro w' b'; clear hS; intro hS; (try simp only [Value.cells] at hS); (refine hK _ _ ?_; clear hK K)) | ((with_reducible refine' wp_arr_sl ?_ ?_ ?_ ?_ ?_); rotate_left 5; (focus (intro _; (simp; exact ⟨rfl, rfl⟩))); (focus (intro _; (simp; rfl))); (focus rfl); (focus (omega)); (refine hK _ _ ?_; clear hK K)) | ((with_reducible refine' wp_arr_hi ?_ ?_ ?_ ?_ ?_ ?_ ?_ ?_ ?_); rotate_left 8; (focus (intro _; (simp; exact ⟨rfl, rfl⟩))); (focus (intro _; (simp; rfl))); (focus rfl); (focus rfl); (focus (omega)); (focus (((simp only [Int.toNat_natCast, Int.reduceToNat, Nat.mul_one, Nat.zero_add, Nat.add_zero, Nat.reduceMul, Nat.reduceAdd, Nat.reduceSub]); rfl))); (focus (omega)); (focus (omega)); (refine hK _ _ ?_; clear hK K)) | ((with_reducible refine' wp_arr_lo ?_ ?_ ?_ ?_ ?_ ?_ ?_ ?_ ?_ ?_); rotate_left 10; (focus (intro _; (simp; exact ⟨rfl, rfl⟩))); (focus (intro _; (simp; rfl))); (focus rfl); (focus rfl); (focus (omega)); (focus (((simp only [Int.toNat_natCast, Int.reduceToNat, Nat.mul_one, Nat.zero_add, Nat.add_zero, Nat.reduceMul, Nat.reduceAdd, Nat.reduceSub]); rfl))); (focus (omega)); (focus (((simp only [Int.toNat_natCast, Int.reduceToNat, Nat.mul_one, Nat.zero_add, Nat.add_zero, Nat.reduceMul, Nat.reduceAdd, Nat.reduceSub]); rfl))); (focus (((simp only [Int.toNat_natCast, Int.reduceToNat, Nat.mul_one, Nat.zero_add, Nat.add_zero, Nat.reduceMul, Nat.reduceAdd, Nat.reduceSub]); rfl))); (refine hK _ _ ?_; clear hK K)) | ((with_reducible refine' wp_arr_lh ?_ ?_ ?_ ?_ ?_ ?_ ?_ ?_ ?_ ?_ ?_ ?_ ?_ ?_ ?_ ?_); rotate_left 14; (focus (intro _; (simp; exact ⟨rfl, rfl⟩))); (focus (intro _; (simp; rfl))); (focus rfl); (focus rfl); (focus rfl); (focus (omega)); (focus (omega)); (focus (((simp only [Int.toNat_natCast, Int.reduceToNat, Nat.mul_one, Nat.zero_add, Nat.add_zero, Nat.reduceMul, Nat.reduceAdd, Nat.reduceSub]); rfl))); (focus (((simp only [Int.toNat_natCast, Int.reduceToNat, Nat.mul_one, Nat.zero_add, Nat.add_zero, Nat.reduceMul, Nat.reduceAdd, Nat.reduceSub]); rfl))); (focus (omega)); (focus (omega)); (focus (omega)); (focus (((simp only [Int.toNat_natCast, Int.reduceToNat, Nat.mul_one, Nat.zero_add, Nat.add_zero, Nat.reduceMul, Nat.reduceAdd, Nat.reduceSub]); rfl))); (focus (rfl)); (focus (rfl)); (refine hK _ _ ?_; clear hK K)) | ((with_reducible refine' wp_lit1 hS ?_ ?_ ?_ ?_ ?_ ?_); rotate_left 3; (focus (intro _; (simp; rfl))); (focus (intro _; (simp; done))); (focus (intro _; (simp; rfl))); (focus (conv => lhs; whnf)); (focus rfl); intro w' b'; clear hS; intro hS; (refine hK _ _ ?_; clear hK K))) | ((with_reducible refine Txt.wpTxt_plain ?_ ?_ ?_); (focus with_reducible rfl); (focus rfl); intro _ _))
  refine bodyPost_ret (results_c1b rfl _ _ _ _ _ (0, 0) _ (.agg #[.int .i64 0, .int .i64 0, .int .i64 0, .int .i64 0, .slice none 0 0]) (.bool false) rfl hS.at Tryd.underlying111 rfl rfl rfl rfl) rfl ⟨rfl, by (refine Sat.ent hS ?_; repeat (first | (with_reducible exact Ent.refl _) | (with_reducible apply Ent.skip)))⟩
set_option maxRecDepth 100000 in
set_option maxHeartbeats 4000000 in
theorem get_good (E : Nat → Addr) (b : List UInt8) (hb : b.length = 64) (hc : check (b.take 60) = b.drop 60) (hn : (b.getD 13 0).toNat ≤ 46) (hnz : ((b.take 60).drop (size b)).any (· != 0) = false) (w0 w : World) (L : List Asn) (hT : Table w0) (hE : FldErrs E w0) (hS : Sat w0 w L) :
    Calls Tryd.prog 76 #[.agg (b.map B).toArray] w fun r w' => BGet w0 L (some (blockOf (b.take (size b)))) r w' := by
  have hlc := length_check (b.take 60)
  have Hd := Lib.hid (show decide (check (b.take 60) = b.drop 60) = true by simp [hc])
  have Hfr := Lib.hid (show (b.drop 0).take 60 = b.take 60 by simp)
  have Hck := Lib.hid (show ((check (b.take 60)).drop 0).take 4 = check (b.take 60) by rw [List.drop_zero, List.take_of_length_le (by omega)])
  have Hen := Lib.hid (show (b.drop 60).take 4 = b.drop 60 by rw [List.take_of_length_le (by rw [List.length_drop]; omega)])
  clear hc
  have hds := dec_size hb
  rw [if_pos hn] at hds
  obtain ⟨u, z, -, hu, hz, hval⟩ := getIn b hb
  rw [← hz] at hds hnz
  have hz60 : z ≤ 60 := by omega
  have hz14 : 14 ≤ z := by omega
  have Hval := Lib.hid (show min (14 + (u.toNat : Int)) 60 = (z : Int) by omega)
  have hu8 : (u.toNat : Int) < 256 := by have := u.toNat_lt; omega
  have Hsz := Lib.hid (show (b.drop 0).take z = b.take z by simp)
  have Hs6 := Lib.hid (show (b.drop z).take (60 - z) = (b.take 60).drop z by rw [List.drop_take])
  obtain ⟨x, hx⟩ : ∃ x, x = blockOf (b.take z) := ⟨_, rfl⟩
  rw [← hx] at hds
  have Hde := Lib.hid hds
  have hxl : x.bytes.length ≤ 60 := by rw [hx]; show ((b.take z).drop 14).length ≤ 60; rw [List.length_drop, List.length_take]; omega
  have Hnz := Lib.hid hnz
  rw [← hz, ← hx]
  clear hval hn hds hx hnz hz
  go_enter Tryd.func76, Tryd.ntmps76
  go_wp2_with (first | (rw [Hval.out]) | (go_at_call 79; ((with_reducible refine' (check_arr hT hS ?sb1x262 ?sb3x262 ?sb4x262 ?sb5x262 ?sb6x262 Hfr.out).mono ?sb2x262); (case sb1x262 => ((repeat (with_reducible exact Split.here)); done)); (case sb3x262 => ((repeat (first | with_reducible exact Split.here | with_reducible apply Split.there)); done)); (case sb4x262 => omega); (case sb5x262 => omega); (case sb6x262 => omega); (case' sb2x262 => (rintro r4 w4 ⟨rfl, hS1⟩; (clear hS; have hS := hS1; clear hS1))))) | (go_at_call 84; ((with_reducible refine' (alike_any _ _ _ _ w0 _ _ hS (under_bx ?sc1x263 Hck.out ?sc2x263 ?sc3x263 ?sc4x263) (under_bx ?sd1x263 Hen.out ?sd2x263 ?sd3x263 ?sd4x263) ?sc5x263 ?sd5x263).mono ?sc6x263); (case sc1x263 => ((repeat (with_reducible exact Split.here)); done)); (case sd1x263 => ((repeat (first | with_reducible exact Split.here | with_reducible apply Split.there)); done)); (case sc2x263 => omega); (case sc3x263 => omega); (case sc4x263 => omega); (case sd2x263 => omega); (case sd3x263 => omega); (case sd4x263 => omega); (case sc5x263 => omega); (case sd5x263 => (rw [List.length_drop]; omega)); (case' sc6x263 => (rintro r4 w4 ⟨rfl, hS1⟩; (clear hS; have hS := hS1; clear hS1); rw [Hd.out])))) | (go_at_call 85; ((with_reducible refine' (dec_blk _ _ x Hde.out ?se1x264 w0 _ _ hE hS (under_bx ?se2x264 Hsz.out ?se3x264 ?se4x264 ?se5x264)).mono ?se6x264); (case se2x264 => ((repeat (first | with_reducible exact Split.here | with_reducible apply Split.there)); done)); (case se1x264 => (rw [List.length_take]; omega)); (case se3x264 => omega); (case se4x264 => omega); (case se5x264 => omega); (case' se6x264 => (rintro r4 w4 ⟨g4, o4, c4, rfl, hc4, hS1⟩; (clear hS; have hS := hS1; clear hS1))))) | (go_at_call 86; ((with_reducible refine' (contains_nz _ _ w0 _ _ hS (under_bx ?sf1x265 Hs6.out ?sf2x265 ?sf3x265 ?sf4x265) ?sf5x265).mono ?sf6x265); (case sf1x265 => ((repeat (first | with_reducible exact Split.here | with_reducible apply Split.there)); done)); (case sf2x265 => omega); (case sf3x265 => omega); (case sf4x265 => omega); (case sf5x265 => (rw [List.length_drop, List.length_take]; omega)); (case' sf6x265 => (rintro r4 w4 ⟨rfl, hS1⟩; (clear hS; have hS := hS1; clear hS1); rw [Hnz.out])))) | (have hS1 := hS.drew; clear hS; have hS := hS1; clear hS1; (with_reducible refine' Txh.wp_region_held (id := 8) (fun w => ∃ M, Sat w0 w (Row 132 3 (.slice (some ⟨g4, o4, none⟩) 5 c4) 5 [.int .i64 x.kind, f0, S [], .int .i64 x.a, f0, S [], .int .i64 x.b, f0, S [], .int .i64 x.c, f0, S [], .int .i64 0, f0, S x.bytes] :: M)) [(3, .int .i64 x.kind), (7, .int .i64 x.a), (11, .int .i64 x.b), (15, .int .i64 x.c), (19, S x.bytes)] [3, 7, 11, 15, 19] 21 rfl ?hm8x266 ?hB8x266 ?hI8x266 ?hh8x266); (case hm8x266 => kernel_rfl); (case hB8x266 => decide +kernel); (case hI8x266 => exact ⟨_, hS.split (by ((repeat (with_reducible exact Split.here)); done))⟩); (case' hh8x266 => (intro Q' hQ'))) | (with_reducible refine Txh.wpHeld_nil ?_) | (((with_reducible refine' Txh.wpHeld_held ?_ ?_ ?_ ?_); rotate_left 1; (focus rfl); (focus rfl); (focus ((with_reducible refine' fixed_load ?_ ?_ ?_); rotate_left 1; (focus rfl); (focus (intro _; (simp; done))); (focus (rintro w5 ⟨M5, hM5⟩; (first | exact row_cell0 hM5 (by ((repeat (first | with_reducible exact Split.here | with_reducible apply Split.there)); done)) rfl | exact row_cell hM5 (by ((repeat (first | with_reducible exact Split.here | with_reducible apply Split.there)); done)) rfl | (simp only [Nat.add_assoc, Nat.reduceAdd]; exact row_cell hM5 (by ((repeat (with_reducible exact Split.here)); done)) rfl)))))))) | ((with_reducible refine Txh.wpHeld_free ?_ ?_ ?_ ?_ ?_); (focus rfl); (focus rfl); (focus rfl); (focus decide +kernel); intro K hK; first | ((with_reducible refine' wp_index_slice ?_ ?_ ?_ ?_ ?_ ?_ ?_ ?_); rotate_left 9; (focus rfl); (focus rfl); (focus (intro _; (simp; rfl))); (focus (intro _; (simp; rfl))); (focus (omega)); (focus (omega)); (focus (((simp only [Int.toNat_natCast, Int.reduceToNat, Nat.mul_one, Nat.zero_add, Nat.add_zero, Nat.reduceMul, Nat.reduceAdd]); rfl))); (refine hK _ _ ?_; clear hK K)) | ((with_reducible refine' wp_buildv (v := BlkV x (.slice a' x.bytes.length c')) ?_ ?_); (focus (intro _; kernel_rfl)); (refine hK _ _ ?_; clear hK K)) | ((with_reducible refine' wp_storeN hS ?_ ?_ ?_ ?_ ?_ ?_ ?_ ?_); rotate_left 7; (focus rfl); (focus ((repeat (first | with_reducible exact Split.here | with_reducible apply Split.there)); done)); (focus (conv => lhs; whnf)); (focus (intro _; (simp; rfl))); (focus rfl); (focus (simp [Value.cells, Value.oneCell']; done)); (focus (simp; done)); intro w'; clear hS; intro hS; (try simp only [setCells, Value.cells, List.take_succ_cons, List.take_zero, List.drop_succ_cons, List.drop_zero, List.append_nil, List.nil_append, List.cons_append, List.length_cons, List.length_nil, Nat.zero_add, Nat.reduceAdd, List.drop_nil] at hS); (refine hK _ _ ?_; clear hK K))) | ((((with_reducible refine Txh.wpHeld_owes ?_ ?_ ?_ ?_); (focus rfl); (focus rfl); (focus rfl); intro K hK)); ((with_reducible refine' wp_to_bytes hS ?_ ?_ ?_ ?_ ?_ ?_); rotate_left 2; (focus rfl); (focus rfl); (focus rfl); (focus rfl); (focus (omega)); intro a' c' w' hc'; clear hS; intro hS; (refine hK _ _ ⟨_, hS.split (by ((repeat (first | with_reducible exact Split.here | with_reducible apply Split.there)); done))⟩ ?_; clear hK K))) | (((with_reducible refine Txh.wpHeld_free ?_ ?_ ?_ ?_ ?_); (focus rfl); (focus rfl); (focus rfl); (focus decide +kernel); intro _ _)) | ((with_reducible refine Txt.wp_region_text ?_ ?_ ?_); (focus kernel_rfl); (focus decide +kernel); intro Q' hQ'; have hS1 := hS.drew; clear hS; have hS := hS1; clear hS1) | (with_reducible refine Txt.wpTxt_nil ?_) | ((first | ((with_reducible refine wpList_plain ?_ ?_); (focus rfl); intro K hK) | ((with_reducible refine Txt.wpTxt_plain ?_ ?_ ?_); (focus rfl); (focus rfl); intro K hK) | ((with_reducible refine wpList_runG ?_ ?_); (focus rfl); intro K hK)); first | ((with_reducible refine' wp_alloc_ba hS ?_ ?_); rotate_left 1; (focus (exact zero133)); intro w' b'; clear hS; intro hS; (refine hK _ _ ?_; clear hK K)) | ((with_reducible refine' wp_store_ba hS ?_ ?_ ?_ ?_ ?_ ?_ ?_); rotate_left 6; (focus rfl); (focus ((repeat (with_reducible exact Split.here)); done)); (focus rfl); (focus (exact sz133)); (focus (omega)); (focus ((simp; done))); intro w'; clear hS; intro hS; (refine hK _ _ ?_; clear hK K)) | ((with_reducible refine' wp_ba_load hS ?_ ?_ ?_ ?_ ?_); rotate_left 7; (focus rfl); (focus ((repeat (first | with_reducible exact Split.here | with_reducible apply Split.there)); done)); (focus (with_reducible assumption)); (focus (intro _; (simp; done))); (refine hK _ _ ?_; clear hK K)) | ((with_reducible refine' wp_alloc hS ?_ ?_); rotate_left 1; (focus (intro _; (simp; rfl))); intro w' b'; clear hS; intro hS; (try simp only [Value.cells] at hS); (refine hK _ _ ?_; clear hK K)) | ((with_reducible refine' wp_box hS ?_ ?_); rotate_left 1; (focus (conv => lhs; whnf)); intro w' b'; clear hS; intro hS; (try simp only [Value.cells] at hS); (refine hK _ _ ?_; clear hK K)) | ((with_reducible refine' wp_arr_sl ?_ ?_ ?_ ?_ ?_); rotate_left 5; (focus (intro _; (simp; exact ⟨rfl, rfl⟩))); (focus (intro _; (simp; rfl))); (focus rfl); (focus (omega)); (refine hK _ _ ?_; clear hK K)) | ((with_reducible refine' wp_arr_hi ?_ ?_ ?_ ?_ ?_ ?_ ?_ ?_ ?_); rotate_left 8; (focus (intro _; (simp; exact ⟨rfl, rfl⟩))); (focus (intro _; (simp; rfl))); (focus rfl); (focus rfl); (focus (omega)); (focus (((simp only [Int.toNat_natCast, Int.reduceToNat, Nat.mul_one, Nat.zero_add, Nat.add_zero, Nat.reduceMul, Nat.reduceAdd, Nat.reduceSub]); rfl))); (focus (omega)); (focus (omega)); (refine hK _ _ ?_; clear hK K)) | ((with_reducible refine' wp_arr_lo ?_ ?_ ?_ ?_ ?_ ?_ ?_ ?_ ?_ ?_); rotate_left 10; (focus (intro _; (simp; exact ⟨rfl, rfl⟩))); (focus (intro _; (simp; rfl))); (focus rfl); (focus rfl); (focus (omega)); (focus (((simp only [Int.toNat_natCast, Int.reduceToNat, Nat.mul_one, Nat.zero_add, Nat.add_zero, Nat.reduceMul, Nat.reduceAdd, Nat.reduceSub]); rfl))); (focus (omega)); (focus (((simp only [Int.toNat_natCast, Int.reduceToNat, Nat.mul_one, Nat.zero_add, Nat.add_zero, Nat.reduceMul, Nat.reduceAdd, Nat.reduceSub]); rfl))); (focus (((simp only [Int.toNat_natCast, Int.reduceToNat, Nat.mul_one, Nat.zero_add, Nat.add_zero, Nat.reduceMul, Nat.reduceAdd, Nat.reduceSub]); rfl))); (refine hK _ _ ?_; clear hK K)) | ((with_reducible refine' wp_arr_lh ?_ ?_ ?_ ?_ ?_ ?_ ?_ ?_ ?_ ?_ ?_ ?_ ?_ ?_ ?_ ?_); rotate_left 14; (focus (intro _; (simp; exact ⟨rfl, rfl⟩))); (focus (intro _; (simp; rfl))); (focus rfl); (focus rfl); (focus rfl); (focus (omega)); (focus (omega)); (focus (((simp only [Int.toNat_natCast, Int.reduceToNat, Nat.mul_one, Nat.zero_add, Nat.add_zero, Nat.reduceMul, Nat.reduceAdd, Nat.reduceSub]); rfl))); (focus (((simp only [Int.toNat_natCast, Int.reduceToNat, Nat.mul_one, Nat.zero_add, Nat.add_zero, Nat.reduceMul, Nat.reduceAdd, Nat.reduceSub]); rfl))); (focus (omega)); (focus (omega)); (focus (omega)); (focus (((simp only [Int.toNat_natCast, Int.reduceToNat, Nat.mul_one, Nat.zero_add, Nat.add_zero, Nat.reduceMul, Nat.reduceAdd, Nat.reduceSub]); rfl))); (focus (rfl)); (focus (rfl)); (refine hK _ _ ?_; clear hK K)) | ((with_reducible refine' wp_lit1 hS ?_ ?_ ?_ ?_ ?_ ?_); rotate_left 3; (focus (intro _; (simp; rfl))); (focus (intro _; (simp; done))); (focus (intro _; (simp; rfl))); (focus (conv => lhs; whnf)); (focus rfl); intro w' b'; clear hS; intro hS; (refine hK _ _ ?_; clear hK K))) | ((with_reducible refine Txt.wpTxt_plain ?_ ?_ ?_); (focus with_reducible rfl); (focus rfl); intro _ _))
  refine bodyPost_ret (results_c1b rfl _ _ _ _ _ (0, 0) _ (BlkV x (.slice a' x.bytes.length c')) (.bool true) rfl hS.at Tryd.underlying111 rfl rfl rfl rfl) rfl ⟨_, _, rfl, by (refine Sat.ent hS ?_; repeat (first | (with_reducible exact Ent.refl _) | ((with_reducible apply Ent.pull); (focus ((repeat (first | with_reducible exact Split.here | with_reducible apply Split.there)); done))) | (with_reducible apply Ent.skip)))⟩
theorem blkget_any (E : Nat → Addr) (b : List UInt8) (hb : b.length = 64) (w0 w : World) (L : List Asn) (hT : Table w0) (hE : FldErrs E w0) (hS : Sat w0 w L) :
    Calls Tryd.prog 76 #[.agg (b.map B).toArray] w fun r w' => BGet w0 L (Jr.get b) r w' := by
  unfold Jr.get
  by_cases hc : check (b.take 60) = b.drop 60
  case neg => rw [if_neg (fun h => hc h.1)]; exact get_bad b hb hc w0 w L hT hS
  by_cases hn : (b.getD 13 0).toNat ≤ 46
  case neg => rw [if_neg (fun h => hn h.2.1)]; exact get_long E b hb hc hn w0 w L hT hE hS
  cases hz : ((b.take 60).drop (size b)).any (· != 0)
  case false => rw [if_pos ⟨hc, hn, rfl⟩]; exact get_good E b hb hc hn hz w0 w L hT hE hS
  case true => rw [if_neg (fun h => by cases h.2.2)]; exact get_nz E b hb hc hn hz w0 w L hT hE hS
end Go.Proofs.YtndnojbpapjdoaaDoor
