/- Package journal walked: Records. -/
import Derived.Test.YtndnojbpapjdoaaDoorJrW
import Derived.Test.YtndnojbpapjdoaaDoorCln
set_option linter.unusedSimpArgs false
set_option linter.unusedVariables false
set_option linter.unusedSectionVars false
namespace Go.Proofs.YtndnojbpapjdoaaDoor
open Go.Sp Go.RowKit Go.Fld Go.Sha Go.Dr Go.Jr

theorem roAll_get {w0 w : World} {L : List Asn} {ps : List (Value × List UInt8)} {u : Value} {l : List UInt8} (h : Sat w0 w (RoAll w0 ps :: L)) (hm : (u, l) ∈ ps) : Reads w u l :=
  Sat.ro_reads (show Sat w0 w (Ro w0 u l :: L) from h.head fun _ hg => hg (u, l) hm)
theorem under_all {w0 : World} {L M : List Asn} {ps : List (Value × List UInt8)} {u : Value} {l : List UInt8} (s : Split L (RoAll w0 ps) M) (hm : (u, l) ∈ ps) : Under w0 L u l := fun _ h => roAll_get (h.split s) hm
theorem szRec (w : World) : (sizeOf 22).run Tryd.prog w = .ok 1 w := by (simp; done)
theorem zRec (inf : Go.TypeInfo) (z : Value) (h1 : Tryd.prog.info? 22 = some inf) (h2 : inf.zero = some z) (m : Nat) (hm : m < 1) : z.cells[m]? = some (.slice none 0 0) := by
  have h := info22
  rw [h1] at h
  simp only [Option.map, Option.some.injEq, Prod.mk.injEq, h2] at h
  obtain ⟨rfl, _⟩ := h
  obtain rfl : m = 0 := by omega
  rfl
section
variable (b db : Nat) (j : Jr.J) (w0 w : World) (L : List Asn)
set_option maxRecDepth 100000 in
set_option maxHeartbeats 4000000 in
theorem records_any (hn : j.records.length ≤ 1048576) (hrl : ∀ l ∈ j.records, l.length ≤ 2000) (hS : Sat w0 w (isJ w0 b db j :: L)) :
    Calls Tryd.prog 42 #[.pointer (some ⟨b, 0, none⟩)] w fun r w' => ∃ a n c, r = .returned (.slice a n c) ∧ Sat w0 w' (Recs w0 (.slice a n c) j.records :: isJ w0 b db j :: L) := by
  obtain ⟨a0, n0, c0, hS1⟩ := isJ_open hS
  clear hS
  have hn0 := recs_n hS1.drop
  subst hn0
  have hS2 := (hS1.ent (show Ent _ (Recs w0 (.slice a0 j.records.length c0) j.records :: JBlk b j db (.slice a0 j.records.length c0) :: L) by (repeat (first | (with_reducible exact Ent.refl _) | ((with_reducible apply Ent.pull); (focus ((repeat (first | with_reducible exact Split.here | with_reducible apply Split.there)); done)))))))
  obtain ⟨vs, hvl, hS⟩ := recs_open hS2
  clear hS1 hS2
  go_enter Tryd.func42, Tryd.ntmps42
  go_wp2_with (first | ((((with_reducible refine wpList_plain ?_ ?_); (focus rfl); intro K hK)); (with_reducible refine' wp_make_row j.records.length (.slice none 0 0) slRec zRec (by decide) hS ?_ ?_ ?_ ?_ ?_ ?_ ?_); rotate_left 4; (focus rfl); (focus rfl); (focus (rfl)); (focus (rfl)); (focus omega); (focus (decide)); intro w' b'; clear hS; intro hS; (refine hK _ _ ?_; clear hK K)) | ((((with_reducible refine wpList_plain ?_ ?_); (focus rfl); intro K hK)); ((with_reducible refine' wp_load hS ?_ ?_ ?_ ?_ ?_); rotate_left 7; (focus rfl); (focus ((repeat (first | with_reducible exact Split.here | with_reducible apply Split.there)); done)); (focus (((simp only [List.getElem?_toArray, List.getElem?_cons_zero, List.getElem?_cons_succ]); rfl))); (focus (intro _; (simp; done))); (refine hK _ _ ?_; clear hK K))))
  rw [Nat.mul_one] at hS
  go_loopw [17] (fun i wr => ∃ (k : Nat) (us : List Value), k ≤ j.records.length ∧ us.length = k ∧ i = .int .i64 k ∧ Sat w0 wr (Row 22 1 (.slice (some ⟨b', 0, none⟩) j.records.length j.records.length) j.records.length (us ++ List.replicate (j.records.length - k) (.slice none 0 0)) :: RoAll w0 (us.zip (j.records.take k)) :: Row 22 1 (.slice a0 j.records.length c0) j.records.length vs :: RoAll w0 (vs.zip j.records) :: JBlk b j db (.slice a0 j.records.length c0) :: L)) (fun i _ => j.records.length - (intOf i).toNat)
  case atStart =>
    refine ⟨0, [], by omega, rfl, rfl, ?_⟩
    rw [List.nil_append, Nat.sub_zero]
    have h1 := roAll_nil hS
    have h2 : RoAll w0 (([] : List Value).zip (j.records.take 0)) = RoAll w0 [] := rfl
    rw [h2]
    exact h1.ent (by (repeat (first | (with_reducible exact Ent.refl _) | ((with_reducible apply Ent.pull); (focus ((repeat (first | with_reducible exact Split.here | with_reducible apply Split.there)); done))))))
  case round =>
    clear hS
    obtain ⟨k, us, hk, hul, rfl, hS⟩ := hrel
    by_cases hlt : k < j.records.length
    case pos =>
      obtain ⟨u, hu⟩ : ∃ u, vs[k]? = some u := ⟨vs[k]'(by omega), List.getElem?_eq_getElem _⟩
      obtain ⟨l, hl⟩ : ∃ l, j.records[k]? = some l := ⟨j.records[k], List.getElem?_eq_getElem hlt⟩
      have hmem : (u, l) ∈ vs.zip j.records := List.mem_of_getElem? (i := k) (by rw [List.getElem?_zip_eq_some]; exact ⟨hu, hl⟩)
      have hll : l.length ≤ 2000 := hrl l (List.mem_of_getElem? hl)
      obtain ⟨g, off, rfl⟩ : ∃ g off, a0 = some ⟨g, off, none⟩ := by
        rcases (hS.pick 2).row_cases.2 with ⟨_, _, h, _⟩ | ⟨g, off, cap, cur, h, _⟩
        · omega
        · injection h with h1; exact ⟨g, off, h1⟩
      have hlt' : (k : Int) < (j.records.length : Int) := by omega
      have htk : us.zip (j.records.take k) = us.zip (j.records.take k) := rfl
      go_wp2_with (first | (go_at_call 52; go_must ((with_reducible refine' (clone_b u l w0 _ _ hS (under_all ?sk0x59 hmem) (by omega)).mono ?sk1x59); (case sk0x59 => ((repeat (first | with_reducible exact Split.here | with_reducible apply Split.there)); done)); (case' sk1x59 => (rintro r4 w4 ⟨ca, cc, rfl, hS1⟩; have hS2 := hS1.ro; clear hS1 hS; have hS := hS2; clear hS2)))) | ((((with_reducible refine wpList_plain ?_ ?_); (focus rfl); intro K hK)); first | ((with_reducible refine' wp_row_load1 (j := k) hS ?_ ?_ ?_ ?_ ?_ ?_); rotate_left 10; (focus rfl); (focus ((repeat (first | with_reducible exact Split.here | with_reducible apply Split.there)); done)); (focus (rfl)); (focus (with_reducible assumption)); (focus (intro _; (simp; done))); (refine hK _ _ ?_; clear hK K)) | ((with_reducible refine' wp_row_store (v := (.slice ca l.length cc)) (j := k) (m := 1) hS ?raqx60 ?rbqx60 ?rcqx60 ?rdqx60 ?reqx60 ?rfqx60 ?rgqx60 ?rhqx60 ?riqx60); (case raqx60 => rfl); (case rbqx60 => ((repeat (first | with_reducible exact Split.here | with_reducible apply Split.there)); done)); (case rcqx60 => rfl); (case rdqx60 => (omega)); (case reqx60 => (exact szRec)); (case rfqx60 => rfl); (case rgqx60 => (intro u9 hu9; simp [Value.cells] at hu9; subst hu9; rfl)); (case rhqx60 => ((simp; omega))); (case' riqx60 => (intro w'; clear hS; intro hS; (refine hK _ _ ?_; clear hK K)))) | ((with_reducible refine' wp_index_slice ?_ ?_ ?_ ?_ ?_ ?_ ?_ ?_); rotate_left 9; (focus rfl); (focus rfl); (focus (intro _; (simp; rfl))); (focus (intro _; (simp; rfl))); (focus (omega)); (focus (omega)); (focus (((simp only [Int.toNat_natCast, Int.reduceToNat, Nat.mul_one, Nat.zero_add, Nat.add_zero, Nat.reduceMul, Nat.reduceAdd]); rfl))); (refine hK _ _ ?_; clear hK K))))
      go_roundw
      case rel =>
        refine ⟨k + 1, us ++ [.slice ca l.length cc], by omega, by simp [hul], by go_num, ?_⟩
        have e1 : putAt (us ++ List.replicate (j.records.length - k) (.slice none 0 0)) k [.slice ca l.length cc] = us ++ [.slice ca l.length cc] ++ List.replicate (j.records.length - (k + 1)) (.slice none 0 0) := by
          unfold putAt
          obtain ⟨q, hq⟩ : ∃ q, j.records.length - k = q + 1 := ⟨j.records.length - k - 1, by omega⟩
          rw [show j.records.length - (k + 1) = q by omega, hq, List.replicate_succ, ← hul]
          simp [List.drop_append]
        have e2 : (us ++ [Value.slice ca l.length cc]).zip (j.records.take (k + 1)) = us.zip (j.records.take k) ++ [(Value.slice ca l.length cc, l)] := by
          rw [List.take_add_one, hl, List.zip_append (by simp [hul]; omega)]; rfl
        rw [e2]
        rw [show (Value.slice ca l.length cc).cells.toList = [Value.slice ca l.length cc] from rfl, e1] at hS
        have h1 := roAll_snoc (hS.ent (show Ent _ (RoAll w0 (us.zip (j.records.take k)) :: Ro w0 (.slice ca l.length cc) l :: Row 22 1 (.slice (some ⟨b', 0, none⟩) j.records.length j.records.length) j.records.length (us ++ [.slice ca l.length cc] ++ List.replicate (j.records.length - (k + 1)) (.slice none 0 0)) :: Row 22 1 (.slice (some ⟨g, off, none⟩) j.records.length c0) j.records.length vs :: RoAll w0 (vs.zip j.records) :: JBlk b j db (.slice (some ⟨g, off, none⟩) j.records.length c0) :: L) by (repeat (first | (with_reducible exact Ent.refl _) | ((with_reducible apply Ent.pull); (focus ((repeat (first | with_reducible exact Split.here | with_reducible apply Split.there)); done)))))))
        exact h1.ent (by (repeat (first | (with_reducible exact Ent.refl _) | ((with_reducible apply Ent.pull); (focus ((repeat (first | with_reducible exact Split.here | with_reducible apply Split.there)); done))))))
      case measure => simp [intOf]; omega
    case neg =>
      obtain rfl : k = j.records.length := by omega
      rw [List.take_length, Nat.sub_self, List.replicate_zero, List.append_nil] at hS
      go_wp2_with (fail)
      go_ret
      refine ⟨_, _, _, rfl, ?_⟩
      have h1 := recs_shut us hul hS
      have h2 : Sat w0 _ (Recs w0 (.slice a0 j.records.length c0) j.records :: Recs w0 (.slice (some ⟨b', 0, none⟩) j.records.length j.records.length) j.records :: JBlk b j db (.slice a0 j.records.length c0) :: L) := recs_shut vs hvl (h1.ent (by (repeat (first | (with_reducible exact Ent.refl _) | ((with_reducible apply Ent.pull); (focus ((repeat (first | with_reducible exact Split.here | with_reducible apply Split.there)); done)))))))
      have h3 : Sat w0 _ (isJ w0 b db j :: Recs w0 (.slice (some ⟨b', 0, none⟩) j.records.length j.records.length) j.records :: L) := isJ_shut a0 j.records.length c0 h2 (by (repeat (first | (with_reducible exact Ent.refl _) | ((with_reducible apply Ent.pull); (focus ((repeat (first | with_reducible exact Split.here | with_reducible apply Split.there)); done))))))
      exact h3.ent (by (repeat (first | (with_reducible exact Ent.refl _) | ((with_reducible apply Ent.pull); (focus ((repeat (first | with_reducible exact Split.here | with_reducible apply Split.there)); done))))))
end
end Go.Proofs.YtndnojbpapjdoaaDoor
