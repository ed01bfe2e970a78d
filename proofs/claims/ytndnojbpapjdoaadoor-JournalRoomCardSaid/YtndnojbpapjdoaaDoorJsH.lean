/- The law JournalRoom walked. -/
import Derived.Test.YtndnojbpapjdoaaDoorJsF
set_option linter.unusedSimpArgs false
set_option linter.unusedVariables false
set_option linter.unusedSectionVars false
namespace Go.Proofs.YtndnojbpapjdoaaDoor
open Go.Sp Go.RowKit Go.Fld Go.Sha Go.Dr Go.Jr

theorem room120 (x : Int) : ∃ k : Nat, wrap64 (10 + (wrap64 (x.tmod 120 + 120)).tmod 120) = (k : Int) ∧ 10 ≤ k ∧ k ≤ 129 := by
  have h1 : -120 < x.tmod 120 := by
    rcases Int.le_total 0 x with h | h
    · have := Int.tmod_nonneg 120 h; omega
    · have := Int.lt_tmod_of_pos x (show (0 : Int) < 120 by decide); omega
  have h2 := Int.tmod_lt_of_pos x (show (0 : Int) < 120 by decide)
  have h3 : wrap64 (x.tmod 120 + 120) = x.tmod 120 + 120 := by unfold wrap64; omega
  rw [h3]
  have h4 := Int.tmod_nonneg 120 (show 0 ≤ x.tmod 120 + 120 by omega)
  have h5 := Int.tmod_lt_of_pos (x.tmod 120 + 120) (show (0 : Int) < 120 by decide)
  generalize (x.tmod 120 + 120).tmod 120 = z at h4 h5
  exact ⟨(10 + z).toNat, by unfold wrap64; omega, by omega, by omega⟩
theorem room2100 (x : Int) : ∃ k : Nat, (wrap64 (x.tmod 2100 + 2100)).tmod 2100 = (k : Int) ∧ k < 2100 := by
  have h1 : -2100 < x.tmod 2100 := by
    rcases Int.le_total 0 x with h | h
    · have := Int.tmod_nonneg 2100 h; omega
    · have := Int.lt_tmod_of_pos x (show (0 : Int) < 2100 by decide); omega
  have h2 := Int.tmod_lt_of_pos x (show (0 : Int) < 2100 by decide)
  have h3 : wrap64 (x.tmod 2100 + 2100) = x.tmod 2100 + 2100 := by unfold wrap64; omega
  rw [h3]
  have h4 := Int.tmod_nonneg 2100 (show 0 ≤ x.tmod 2100 + 2100 by omega)
  have h5 := Int.tmod_lt_of_pos (x.tmod 2100 + 2100) (show (0 : Int) < 2100 by decide)
  generalize (x.tmod 2100 + 2100).tmod 2100 = z at h4 h5
  exact ⟨z.toNat, by omega, by omega⟩
theorem u8wrap (z : Int) : ∃ u : UInt8, IntKind.u8.wrap z = (u.toNat : Int) := by
  obtain ⟨k, hk, hlt⟩ : ∃ k : Nat, IntKind.u8.wrap z = (k : Int) ∧ k < 256 := by
    refine ⟨(z % 256).toNat, ?_, ?_⟩
    · show z % 256 = _
      omega
    · omega
  refine ⟨UInt8.ofNat k, ?_⟩
  rw [hk, UInt8.toNat_ofNat']
  omega
theorem szB (w : World) : (sizeOf 5).run Tryd.prog w = .ok 1 w := by (simp; done)
section
variable (E : Nat → Addr) (w0 w : World) (L : List Asn)
set_option maxRecDepth 100000 in
set_option maxHeartbeats 8000000 in
theorem room_law (hT : Table w0) (hEr : Errs E w0) (x : Int) (v1 : Value) (zs : List Int) (hzn : zs.length ≤ 140737488355328) (hz : CellsL w0 v1 (zs.map (.int .i64))) (hS : Sat w0 w L) :
    Calls Tryd.prog 10 #[.int .i64 x, v1] w fun r w' => r = .returned (.bool true) ∧ Sat w0 w' L := by
  have hE := hEr.jr
  have hg3 := hE.long
  have hg8 := hE.full
  obtain ⟨b0, e0, rfl, hb1, hb2, hb3, hb4⟩ := hz
  simp only [List.length_map] at hb1
  rw [List.length_map]
  have hbc : ∀ k c, zs[k]? = some c → ∃ ad, b0 = some ad ∧ w0.cell? (ad.add k) = some (.int .i64 c) := fun k c hk => by
    cases b0 with
    | none => have := hb3 rfl; rw [List.map_eq_nil_iff] at this; rw [this] at hk; cases hk
    | some ad => exact ⟨ad, rfl, hb4 ad rfl k (.int .i64 c) (by rw [List.getElem?_map, hk]; rfl)⟩
  have Hbc := Lib.hid hbc
  clear hbc hb1 hb2 hb3 hb4
  have Hal : Hid (∀ (w : World) (L : List Asn), Sat w0 w L → Calls Tryd.prog 36 #[] w fun r w' => r = .returned (.bool true) ∧ Sat w0 w' L) := Lib.hid fun w L h => alive_ok E w0 w L hT hE h
  obtain ⟨rm, hrm, hr1, hr2⟩ := room120 x
  have Hnew : Hid (∀ (w : World) (L : List Asn), Sat w0 w L → Calls Tryd.prog 37 #[.int .i64 (rm : Int)] w fun r w' => ∃ b, r = .returned (.tuple #[.pointer (some ⟨b, 0, none⟩), .nilIface]) ∧ Sat w0 w' (isDrum b (Drum.new rm) :: L)) := Lib.hid fun w L h => new_ok rm (by omega) (by omega) w0 w L h
  obtain ⟨j1, d1, hq1, f1, hn1, hrc1, -⟩ := format_fit (n := rm) (l := []) (by omega) (by omega) (by simp) (by show 1 ≤ half rm; unfold half; omega)
  have Hfm : Hid (∀ (db : Nat) (w : World) (L : List Asn), Sat w0 w (isDrum db (Drum.new rm) :: L) → Calls Tryd.prog 39 #[.pointer (some ⟨db, 0, none⟩), .slice none 0 0] w fun r w' => ∃ b, r = .returned (.tuple #[.pointer (some ⟨b, 0, none⟩), .nilIface]) ∧ Sat w0 w' (isJ w0 b db j1 :: isDrum db d1 :: L)) := Lib.hid fun db w L h => format_good E db _ d1 j1 w0 w L _ [] hq1 (by decide) (new_fresh (by omega)) (by show (0 : Nat) ≤ _; omega) hT hE h (fun w' _ => ⟨none, 0, rfl, Nat.le_refl _, Nat.zero_le _, fun _ => rfl, fun _ h => by cases h⟩)
  have Hx1 := Lib.hid (And.intro f1 hrc1)
  have hznS := Lib.hid hzn
  have hrmS := Lib.hid hrm
  clear hzn hq1 f1 hn1 hrc1 hrm
  go_enter Tryd.func10, Tryd.ntmps10
  go_upto_block 0 with (first | (go_at_call 36; ((with_reducible refine' (Hal.out _ _ hS).mono ?sa1x68); (case' sa1x68 => (rintro r4 w4 ⟨rfl, hS1⟩; (clear hS; have hS := hS1; clear hS1))))) | (go_at_call 37; rw [hrmS.out]; ((with_reducible refine' (Hnew.out _ _ hS).mono ?snx69); (case' snx69 => (rintro r4 w4 ⟨db, rfl, hS1⟩; (clear hS; have hS := hS1; clear hS1))))) | (go_at_call 39; ((with_reducible refine' (Hfm.out _ _ _ (hS.split ?sd1x70)).mono ?sd3x70); (case sd1x70 => ((repeat (with_reducible exact Split.here)); done)); (case' sd3x70 => (rintro r4 w4 ⟨b, rfl, hS1⟩; (clear hS; have hS := hS1; clear hS1))))) | ((first | ((with_reducible refine wpList_plain ?_ ?_); (focus rfl); intro K hK) | ((with_reducible refine wpList_runG ?_ ?_); (focus rfl); intro K hK)); first | ((with_reducible refine' wp_lit_empty hS ?_ ?_ ?_); rotate_left 2; (focus (intro _; (simp; rfl))); (focus (intro _; (simp; rfl))); intro w' b'; clear hS; intro hS; (refine hK _ _ ?_; clear hK K)) | ((with_reducible refine' wp_lit1 hS ?_ ?_ ?_ ?_ ?_ ?_); rotate_left 3; (focus (intro _; (simp; rfl))); (focus (intro _; (simp; done))); (focus (intro _; (simp; rfl))); (focus (conv => lhs; whnf)); (focus rfl); intro w' b'; clear hS; intro hS; (refine hK _ _ ?_; clear hK K))))
  clear Hal Hnew Hfm
  have hS1 := recs_one (hS.ent (show Ent _ (Blk b' (.cells #[_] 22) :: Ro w0 _ [] :: isJ w0 b db j1 :: isDrum db d1 :: L) from Ent.refl _))
  clear hS
  have hS := hS1
  clear hS1
  go_cut [8] (fun v wc => ∃ (j : Jr.J) (d : Dr.Drum) (a : Option Addr) (c : Nat), Fit j d 1 0 ∧ v = .slice a j.records.length c ∧ Sat w0 wc (Recs w0 (.slice a j.records.length c) j.records :: isJ w0 b db j :: isDrum db d :: L))
  case first =>
    go_wp2_with (fail)
    go_loopw [50, 8] (fun i v wr => ∃ (k : Nat) (j : Jr.J) (d : Dr.Drum) (a : Option Addr) (c : Nat), k ≤ zs.length ∧ i = .int .i64 k ∧ v = .slice a j.records.length c ∧ Fit j d 1 0 ∧ Sat w0 wr (Recs w0 (.slice a j.records.length c) j.records :: isJ w0 b db j :: isDrum db d :: L)) (fun i _ _ => zs.length - (intOf i).toNat)
    case atStart =>
      obtain ⟨f1, hrc1⟩ := Hx1.out
      refine ⟨0, j1, d1, _, _, by omega, rfl, by rw [hrc1]; rfl, f1, ?_⟩
      rw [hrc1]
      show Sat w0 _ (Recs w0 (.slice (some ⟨b', 0, none⟩) 1 1) [[]] :: _ :: _ :: _)
      exact hS.ent (by (repeat ((with_reducible exact Ent.refl _))))
    case round =>
      clear hS
      obtain ⟨k, j, d, a, c, hk, rfl, rfl, hf, hS⟩ := hrel
      have hrl := hf.live.len.1
      by_cases hlt : k < zs.length
      case neg =>
        obtain rfl : k = zs.length := by omega
        have hff := Lib.hid hf
        clear hf
        go_wp2_with (fail)
        go_meet
        case rel => exact ⟨j, d, a, c, hff.out, rfl, by (refine Sat.ent hS ?_; repeat ((with_reducible exact Ent.refl _)))⟩
      obtain ⟨z, hz⟩ : ∃ z, zs[k]? = some z := ⟨zs[k], List.getElem?_eq_getElem hlt⟩
      obtain ⟨ad, rfl, hcell⟩ := Hbc.out k z hz
      clear hz
      have hlt' : (k : Int) < (zs.length : Int) := by omega
      have hkb : (k : Int) < 140737488355328 := by have := hznS.out; omega
      by_cases hk60 : k ≤ 60
      case neg =>
        have hk60' : (60 : Int) < (k : Int) := by omega
        have hff := Lib.hid hf
        clear hf
        go_wp2_with (((((with_reducible refine wpList_plain ?_ ?_); (focus rfl); intro K hK)); first | ((with_reducible refine' wp_index_any ?_ ?_ ?_ ?_ ?_ ?_ ?_ ?_); rotate_left 8; (focus rfl); (focus rfl); (focus (intro _; (simp; rfl))); (focus (intro _; (simp; rfl))); (focus (omega)); (focus (omega)); (focus (((simp only [Int.toNat_natCast, Int.reduceToNat, Nat.mul_one, Nat.zero_add, Nat.add_zero, Nat.reduceMul, Nat.reduceAdd]); rfl))); (refine hK _ _ ?_; clear hK K)) | ((with_reducible refine' wp_load_old hS ?_ ?_ ?_ ?_); rotate_left 2; (focus rfl); (focus (with_reducible assumption)); (focus (intro _; (simp; done))); (refine hK _ _ ?_; clear hK K))))
        go_meet
        case rel => exact ⟨j, d, a, c, hff.out, rfl, by (refine Sat.ent hS ?_; repeat ((with_reducible exact Ent.refl _)))⟩
      have hk60' : (k : Int) ≤ 60 := by omega
      clear hkb hk60
      obtain ⟨n, hn, hnlt⟩ := room2100 z
      have hnS := Lib.hid hn
      clear hn
      have hff := Lib.hid hf
      have hdn2 : 2 ≤ d.n ∧ d.n ≤ 4096 ∧ j.used ≤ 4096 := ⟨by have := hf.ok.2; omega, hf.ok.1.2, by have h1 := hf.live.len.2.2.1; have h2 := hf.ok.1.2; unfold half at h1; omega⟩
      have Hfree : Hid (∀ (w : World) (L : List Asn), Sat w0 w (isJ w0 b db j :: isDrum db d :: L) → Calls Tryd.prog 46 #[.pointer (some ⟨b, 0, none⟩)] w fun r w' => r = .returned (.int .i64 (j.free d.n)) ∧ Sat w0 w' (isJ w0 b db j :: isDrum db d :: L)) := Lib.hid fun w L h => free_any b db d j w0 w L hdn2.1 hdn2.2.1 hdn2.2.2 h
      obtain ⟨fr, hfr⟩ : ∃ fr, fr = j.free d.n := ⟨_, rfl⟩
      have hfr2 : fr ≤ 2000 := by rw [hfr]; exact free_le j d.n
      rw [← hfr] at Hfree
      have Hfr := Lib.hid hfr
      clear hfr hdn2 hf
      go_upto_region 16 with (((((with_reducible refine wpList_plain ?_ ?_); (focus rfl); intro K hK)); first | ((with_reducible refine' wp_index_any ?_ ?_ ?_ ?_ ?_ ?_ ?_ ?_); rotate_left 8; (focus rfl); (focus rfl); (focus (intro _; (simp; rfl))); (focus (intro _; (simp; rfl))); (focus (omega)); (focus (omega)); (focus (((simp only [Int.toNat_natCast, Int.reduceToNat, Nat.mul_one, Nat.zero_add, Nat.add_zero, Nat.reduceMul, Nat.reduceAdd]); rfl))); (refine hK _ _ ?_; clear hK K)) | ((with_reducible refine' wp_load_old hS ?_ ?_ ?_ ?_); rotate_left 2; (focus rfl); (focus (with_reducible assumption)); (focus (intro _; (simp; done))); (refine hK _ _ ?_; clear hK K))))
      rw [hnS.out]
      go_wp2_with (((((with_reducible refine wpList_plain ?_ ?_); (focus rfl); intro K hK)); (with_reducible refine' wp_make_bytes n n sl22 ?_ hS ?_ ?_ ?_ ?_ ?_ ?_ ?_); rotate_left 4; (focus (intro _; (simp; done))); (focus rfl); (focus rfl); (focus (rfl)); (focus (rfl)); (focus omega); (focus omega); intro w' b'; clear hS; intro hS; (try simp only [List.replicate_zero] at hS); (refine hK _ _ ?_; clear hK K)))
      have hS1 : Sat w0 w' (Row 5 1 (.slice (some ⟨b', 0, none⟩) n n) n ((List.replicate n 0).map B) :: Recs w0 (.slice a j.records.length c) j.records :: isJ w0 b db j :: isDrum db d :: L) := by
        have h1 : Sat w0 w' (Row 5 1 (.slice (some ⟨b', 0, none⟩) n n) (List.replicate n (0 : UInt8)).length ((List.replicate n 0).map B) :: Recs w0 (.slice a j.records.length c) j.records :: isJ w0 b db j :: isDrum db d :: L) := hS
        rw [List.length_replicate] at h1
        exact h1
      clear hS
      have hS := hS1
      clear hS1 hcell
      go_loopw [65] (fun i wr => ∃ (m : Nat) (l : List UInt8), m ≤ n ∧ i = .int .i64 m ∧ l.length = n ∧ Sat w0 wr (Row 5 1 (.slice (some ⟨b', 0, none⟩) n n) n (l.map B) :: Recs w0 (.slice a j.records.length c) j.records :: isJ w0 b db j :: isDrum db d :: L)) (fun i _ => n - (intOf i).toNat)
      case atStart => exact ⟨0, List.replicate n 0, by omega, rfl, by simp, hS⟩
      case round =>
        clear hS
        obtain ⟨m, l, hm, rfl, hln, hS⟩ := hrel
        have hlnS := Lib.hid hln
        clear hln
        by_cases hmn : m < n
        case pos =>
          have hmn' : (m : Int) < (n : Int) := by omega
          have hnlt' : (n : Int) < 2100 := by omega
          obtain ⟨u, hu⟩ := u8wrap ((k : Int) + (m : Int))
          have Hb1 := Lib.hid hu
          clear hu hnlt
          have hlen : (l.map B).length = n := by rw [List.length_map]; exact hlnS.out
          have hlb : m + 1 ≤ (l.map B).length := by omega
          go_wp2_with (((((with_reducible refine wpList_plain ?_ ?_); (focus rfl); intro K hK)); first | ((with_reducible refine' wp_row_store (v := (B u)) (j := m) (m := 1) hS ?raqx158 ?rbqx158 ?rcqx158 ?rdqx158 ?reqx158 ?rfqx158 ?rgqx158 ?rhqx158 ?riqx158); (case raqx158 => rfl); (case rbqx158 => ((repeat (with_reducible exact Split.here)); done)); (case rcqx158 => rfl); (case rdqx158 => (omega)); (case reqx158 => (exact szB)); (case rfqx158 => rfl); (case rgqx158 => (intro u9 hu9; simp [Value.cells] at hu9; subst hu9; rfl)); (case rhqx158 => (omega)); (case' riqx158 => (intro w'; clear hS; intro hS; (refine hK _ _ ?_; clear hK K)))) | ((with_reducible refine' wp_conv ?_ ?_ ?_ ?_ ?_); rotate_left 5; (focus (conv => lhs; whnf)); (focus (intro _; (simp; rfl))); (focus (intro _; (simp; rfl))); (focus (exact Hb1.out)); (refine hK _ _ ?_; clear hK K)) | ((with_reducible refine' wp_index_slice ?_ ?_ ?_ ?_ ?_ ?_ ?_ ?_); rotate_left 9; (focus rfl); (focus rfl); (focus (intro _; (simp; rfl))); (focus (intro _; (simp; rfl))); (focus (omega)); (focus (omega)); (focus (((simp only [Int.toNat_natCast, Int.reduceToNat, Nat.mul_one, Nat.zero_add, Nat.add_zero, Nat.reduceMul, Nat.reduceAdd]); rfl))); (refine hK _ _ ?_; clear hK K))))
          go_roundw
          case rel =>
            refine ⟨m + 1, l.take m ++ [u] ++ l.drop (m + 1), by omega, by go_num, ?_, ?_⟩
            · simp only [List.length_append, List.length_take, List.length_drop, List.length_singleton]; have := hlnS.out; omega
            · have e1 : (l.take m ++ [u] ++ l.drop (m + 1)).map B = putAt (l.map B) m (B u).cells.toList := by
                simp [putAt, B, Value.cells, List.map_take, List.map_drop]
              rw [e1]
              exact hS.ent (by (repeat ((with_reducible exact Ent.refl _))))
          case measure => simp [intOf]; omega
        case neg =>
          obtain rfl : m = n := by omega
          have hS1 : Sat w0 wr (Bytes 5 (.slice (some ⟨b', 0, none⟩) m m) l :: Recs w0 (.slice a j.records.length c) j.records :: isJ w0 b db j :: isDrum db d :: L) := by
            have h1 := hS
            rw [← hlnS.out] at h1 ⊢
            exact h1
          clear hS
          have hS := hS1.ro
          clear hS1
          obtain ⟨gb, hgb⟩ : ∃ g : Nat, g = b' := ⟨_, rfl⟩
          subst hgb
          obtain ⟨e, j', d', hq, hf', hn', hcs⟩ := hff.out.offer (l := l) (by omega)
          rw [← Hfr.out, hlnS.out] at hcs
          have Hap : Hid (∀ (w : World) (L : List Asn) (bv : Value), Sat w0 w (isJ w0 b db j :: isDrum db d :: L) → Under w0 L bv l → Calls Tryd.prog 40 #[.pointer (some ⟨b, 0, none⟩), bv] w fun r w' => r = .returned (erv E e) ∧ Sat w0 w' (isJ w0 b db j' :: isDrum db d' :: L)) := Lib.hid fun w L bv h hr => append_to E b db d d' j j' w0 w L e bv l hq (by rw [hlnS.out]; omega) hff.out.ok.1 (Nat.le_trans hff.out.left (by decide)) hff.out.ok.2 (live_jok hff.out.live (by omega)) hT hE h hr
          have Hf' := Lib.hid hf'
          clear hq hf' hn' hmn hm
          have hrlS := Lib.hid hrl
          rcases hcs with ⟨rfl, hle, hl2, hr'⟩ | ⟨rfl, hgt, hl2, hr'⟩ | ⟨rfl, hgt, hl2, hr'⟩
          · have hl2' : (m : Int) ≤ 2000 := by omega
            have hr'S := Lib.hid hr'
            clear hr' hl2 hnlt
            obtain ⟨vs, hvs, hS2⟩ := recs_open (hS.ent (show Ent _ (Recs w0 (.slice a j.records.length c) j.records :: Ro w0 (.slice (some ⟨gb, 0, none⟩) m m) l :: isJ w0 b db j :: isDrum db d :: L) by (repeat (first | (with_reducible exact Ent.refl _) | ((with_reducible apply Ent.pull); (focus ((repeat (first | with_reducible exact Split.here | with_reducible apply Split.there)); done)))))))
            clear hS
            have hS := hS2
            clear hS2
            go_wp2_with (first | (go_at_call 46; ((with_reducible refine' (Hfree.out _ _ (hS.ent ?sg1x194)).mono ?sg3x194); (case sg1x194 => (repeat (first | (with_reducible exact Ent.refl _) | ((with_reducible apply Ent.pull); (focus ((repeat (first | with_reducible exact Split.here | with_reducible apply Split.there)); done)))))); (case' sg3x194 => (rintro r4 w4 ⟨rfl, hS1⟩; (clear hS; have hS := hS1; clear hS1))))) | (go_at_call 40; ((with_reducible refine' (Hap.out _ _ _ (hS.ent ?sa1x195) (under_ro ?sa2x195)).mono ?sa3x195); (case sa1x195 => (repeat ((with_reducible exact Ent.refl _)))); (case sa2x195 => ((repeat (first | with_reducible exact Split.here | with_reducible apply Split.there)); done)); (case' sa3x195 => (rintro r4 w4 ⟨rfl, hS1⟩; dsimp only [erv]; (clear hS; have hS := hS1; clear hS1))))) | ((first | ((with_reducible refine wpList_plain ?_ ?_); (focus rfl); intro K hK) | ((with_reducible refine wpList_runG ?_ ?_); (focus rfl); intro K hK)); first | ((with_reducible refine' wp_append_row (m := 1) (news := [.slice (some ⟨gb, 0, none⟩) m m]) slRec (hS.split ?raax196) ?rbax196 ?rcax196 ?rdax196 ?reax196 ?rfax196 ?rgax196); (case raax196 => ((repeat (first | with_reducible exact Split.here | with_reducible apply Split.there)); done)); (case rbax196 => rfl); (case rcax196 => rfl); (case rdax196 => (exact srcOne hS (by ((repeat (with_reducible exact Split.here)); done)) rfl)); (case reax196 => (unfold maxLen; omega)); (case rfax196 => omega); (case' rgax196 => (intro v' w'; clear hS; intro hS; obtain ⟨ra, rc, rfl, -⟩ := hS.row_len; (refine hK _ _ ?_; clear hK K)))) | ((with_reducible refine' wp_lit1 hS ?_ ?_ ?_ ?_ ?_ ?_); rotate_left 3; (focus (intro _; (simp; rfl))); (focus (intro _; (simp; done))); (focus (intro _; (simp; rfl))); (focus (conv => lhs; whnf)); (focus rfl); intro w' b'; clear hS; intro hS; (refine hK _ _ ?_; clear hK K))))
            go_roundw
            case rel =>
              refine ⟨k + 1, j', d', ra, rc, by omega, by go_num, by rw [hr'S.out, List.length_append]; rfl, Hf'.out, ?_⟩
              have h2 := recs_snoc hvs (hS.ent (show Ent _ (Row 22 1 (.slice ra (j.records.length + 1) rc) (j.records.length + 1) (vs ++ [.slice (some ⟨gb, 0, none⟩) m m]) :: RoAll w0 (vs.zip j.records) :: Ro w0 (.slice (some ⟨gb, 0, none⟩) m m) l :: isJ w0 b db j' :: isDrum db d' :: L) by (repeat (first | (with_reducible exact Ent.refl _) | ((with_reducible apply Ent.pull); (focus ((repeat (first | with_reducible exact Split.here | with_reducible apply Split.there)); done))) | (with_reducible apply Ent.skip)))))
              rw [hr'S.out, List.length_append]
              exact h2
            case measure => simp [intOf]; omega
          · have hl2' : (m : Int) ≤ 2000 := by omega
            have hgt' : ¬ ((m : Int) ≤ fr) := by omega
            have hr'S := Lib.hid hr'
            clear hr' hl2 hnlt
            go_wp2_with (first | (go_at_call 46; ((with_reducible refine' (Hfree.out _ _ (hS.ent ?sg1x209)).mono ?sg3x209); (case sg1x209 => (repeat (first | (with_reducible exact Ent.refl _) | ((with_reducible apply Ent.pull); (focus ((repeat (first | with_reducible exact Split.here | with_reducible apply Split.there)); done)))))); (case' sg3x209 => (rintro r4 w4 ⟨rfl, hS1⟩; (clear hS; have hS := hS1; clear hS1))))) | (go_at_call 40; ((with_reducible refine' (Hap.out _ _ _ (hS.ent ?sa1x210) (under_ro ?sa2x210)).mono ?sa3x210); (case sa1x210 => (repeat ((with_reducible exact Ent.refl _)))); (case sa2x210 => ((repeat (with_reducible exact Split.here)); done)); (case' sa3x210 => (rintro r4 w4 ⟨rfl, hS1⟩; dsimp only [erv]; (clear hS; have hS := hS1; clear hS1))))) | ((first | ((with_reducible refine wpList_plain ?_ ?_); (focus rfl); intro K hK) | ((with_reducible refine wpList_runG ?_ ?_); (focus rfl); intro K hK)); first | ((with_reducible refine' wp_err_ne (E := E) ?_ ?_ ?_); rotate_left 1; (focus rfl); (focus rfl); (refine hK _ _ ?_; clear hK K)) | ((with_reducible refine' wp_load_old hS ?_ ?_ ?_ ?_); rotate_left 2; (focus rfl); (focus (with_reducible assumption)); (focus (intro _; (simp; done))); (refine hK _ _ ?_; clear hK K))))
            go_roundw
            case rel =>
              refine ⟨k + 1, j', d', a, c, by omega, by go_num, by rw [hr'S.out], Hf'.out, ?_⟩
              rw [hr'S.out]
              exact hS.ent (by (repeat (first | (with_reducible exact Ent.refl _) | ((with_reducible apply Ent.pull); (focus ((repeat (first | with_reducible exact Split.here | with_reducible apply Split.there)); done))) | (with_reducible apply Ent.skip))))
            case measure => simp [intOf]; omega
          · have hl2' : (2000 : Int) < (m : Int) := by omega
            have hgt' : ¬ ((m : Int) ≤ fr) := by omega
            have hr'S := Lib.hid hr'
            clear hr' hl2 hnlt
            go_wp2_with (first | (go_at_call 46; ((with_reducible refine' (Hfree.out _ _ (hS.ent ?sg1x223)).mono ?sg3x223); (case sg1x223 => (repeat (first | (with_reducible exact Ent.refl _) | ((with_reducible apply Ent.pull); (focus ((repeat (first | with_reducible exact Split.here | with_reducible apply Split.there)); done)))))); (case' sg3x223 => (rintro r4 w4 ⟨rfl, hS1⟩; (clear hS; have hS := hS1; clear hS1))))) | (go_at_call 40; ((with_reducible refine' (Hap.out _ _ _ (hS.ent ?sa1x224) (under_ro ?sa2x224)).mono ?sa3x224); (case sa1x224 => (repeat ((with_reducible exact Ent.refl _)))); (case sa2x224 => ((repeat (with_reducible exact Split.here)); done)); (case' sa3x224 => (rintro r4 w4 ⟨rfl, hS1⟩; dsimp only [erv]; (clear hS; have hS := hS1; clear hS1))))) | ((first | ((with_reducible refine wpList_plain ?_ ?_); (focus rfl); intro K hK) | ((with_reducible refine wpList_runG ?_ ?_); (focus rfl); intro K hK)); first | ((with_reducible refine' wp_err_ne (E := E) ?_ ?_ ?_); rotate_left 1; (focus rfl); (focus rfl); (refine hK _ _ ?_; clear hK K)) | ((with_reducible refine' wp_load_old hS ?_ ?_ ?_ ?_); rotate_left 2; (focus rfl); (focus (with_reducible assumption)); (focus (intro _; (simp; done))); (refine hK _ _ ?_; clear hK K))))
            go_roundw
            case rel =>
              refine ⟨k + 1, j', d', a, c, by omega, by go_num, by rw [hr'S.out], Hf'.out, ?_⟩
              rw [hr'S.out]
              exact hS.ent (by (repeat (first | (with_reducible exact Ent.refl _) | ((with_reducible apply Ent.pull); (focus ((repeat (first | with_reducible exact Split.here | with_reducible apply Split.there)); done))) | (with_reducible apply Ent.skip))))
            case measure => simp [intOf]; omega
  case rest =>
    clear hS
    obtain ⟨j, d, a, c, hf, rfl, hS1⟩ := hcut
    obtain ⟨want, hwant⟩ : ∃ want, want = j.records := ⟨_, rfl⟩
    have hS := hS1.rol
    clear hS1
    obtain ⟨j3, d3, hq3, f3, hn3, hr3, -⟩ := hf.live.rest.fit hf.live.off hf.calm (by omega)
    have hrest := hf.live.rest
    rw [← hwant] at hrest hS hr3 ⊢
    have Hop : Hid (∀ (w : World) (L : List Asn), Sat w0 w (isDrum db d :: L) → Calls Tryd.prog 38 #[.pointer (some ⟨db, 0, none⟩)] w fun r w' => ∃ b, r = .returned (.tuple #[.pointer (some ⟨b, 0, none⟩), .nilIface]) ∧ Sat w0 w' (isJ w0 b db j3 :: isDrum db d3 :: L)) := Lib.hid fun w L h => open_good E db d d3 j3 w0 w L hq3 hf.ok.1 (Nat.le_trans hf.left (by decide)) hT hE h
    have Hsm : Hid (∀ (w : World) (L : List Asn) (v1 : Value), Sat w0 w (RoL w0 v1 want :: RoL w0 (.slice a want.length c) want :: L) → Calls Tryd.prog 41 #[v1, .slice a want.length c] w fun r w' => r = .returned (.bool true) ∧ Sat w0 w' (RoL w0 (.slice a want.length c) want :: L)) := Lib.hid fun w L v1 h => by
      have h1 := (h.pick 1).dup (pers_rol _ _ _)
      have := sameLists_two w0 w (RoL w0 (.slice a want.length c) want :: L) v1 (.slice a want.length c) want want (by have := hrest.ok.2.2.1; omega) (h1.ent (by (repeat (first | (with_reducible exact Ent.refl _) | ((with_reducible apply Ent.pull); (focus ((repeat (first | with_reducible exact Split.here | with_reducible apply Split.there)); done)))))))
      rw [show decide (want = want) = true from decide_eq_true rfl] at this
      exact this
    have Hrec : Hid (∀ (b : Nat) (j : Jr.J) (w : World) (L : List Asn), j.records = want → Sat w0 w (isJ w0 b db j :: L) → Calls Tryd.prog 42 #[.pointer (some ⟨b, 0, none⟩)] w fun r w' => ∃ a c, r = .returned (.slice a want.length c) ∧ Sat w0 w' (RoL w0 (.slice a want.length c) want :: isJ w0 b db j :: L)) := Lib.hid fun b j w L hr h => records_to b db j w0 w L hr (by have := hrest.ok.2.2.1; omega) hrest.ok.2.2.2 h
    have Hr3 := Lib.hid hr3
    have Hr1 := Lib.hid hwant.symm
    clear hq3 f3 hn3 hr3 hwant hrest hf
    go_wp2_with (first | (go_at_call 38; ((with_reducible refine' (Hop.out _ _ (hS.split ?sc1x252)).mono ?sc3x252); (case sc1x252 => ((repeat (first | with_reducible exact Split.here | with_reducible apply Split.there)); done)); (case' sc3x252 => (rintro r4 w4 ⟨b3, rfl, hS1⟩; (clear hS; have hS := hS1; clear hS1))))) | (go_at_call 42; ((with_reducible refine' (Hrec.out _ _ _ _ Hr3.out (hS.split ?sf1x253)).mono ?sf3x253); (case sf1x253 => ((repeat (with_reducible exact Split.here)); done)); (case' sf3x253 => (rintro r4 w4 ⟨ra, rc, rfl, hS1⟩; (clear hS; have hS := hS1; clear hS1))))) | (go_at_call 42; ((with_reducible refine' (Hrec.out _ _ _ _ Hr1.out (hS.split ?sf1x254)).mono ?sf3x254); (case sf1x254 => ((repeat (first | with_reducible exact Split.here | with_reducible apply Split.there)); done)); (case' sf3x254 => (rintro r4 w4 ⟨ra, rc, rfl, hS1⟩; (clear hS; have hS := hS1; clear hS1))))) | (go_at_call 41; ((with_reducible refine' (Hsm.out _ _ _ (hS.ent ?sh1x255)).mono ?sh4x255); (case sh1x255 => (repeat (first | (with_reducible exact Ent.refl _) | ((with_reducible apply Ent.pull); (focus ((repeat (first | with_reducible exact Split.here | with_reducible apply Split.there)); done)))))); (case' sh4x255 => (rintro r4 w4 ⟨rfl, hS1⟩; (clear hS; have hS := hS1; clear hS1))))) | (go_at_call 41; ((with_reducible refine' (Hsm.out _ _ _ (hS.ent ?sh1x256)).mono ?sh4x256); (case sh1x256 => (repeat (first | (with_reducible exact Ent.refl _) | ((with_reducible apply Ent.pull); (focus ((repeat (first | with_reducible exact Split.here | with_reducible apply Split.there)); done)))))); (case' sh4x256 => (rintro r4 w4 ⟨rfl, hS1⟩; (clear hS; have hS := hS1; clear hS1))))))
    go_ret
    exact ⟨rfl, by (refine Sat.ent hS ?_; repeat (first | (with_reducible exact Ent.refl _) | (with_reducible apply Ent.skip)))⟩
end
end Go.Proofs.YtndnojbpapjdoaaDoor
