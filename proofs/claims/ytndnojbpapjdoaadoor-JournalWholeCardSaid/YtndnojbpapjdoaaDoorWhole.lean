/- The claim JournalWhole: jackfieldlaw07.JournalWhole answers true for every input, and what it is handed reads behind the call as it read before. -/
import Derived.Test.YtndnojbpapjdoaaDoorJsJ
import Derived.Test.YtndnojbpapjdoaaDoorLaid
import Derived.Test.YtndnojbpapjdoaaDoorCards
import Derived.Test.YtndnojbpapjdoaaDoorTie
import Derived.WalkKit
set_option linter.unusedSimpArgs false
set_option linter.unusedVariables false
set_option linter.unusedSectionVars false
namespace Go.Proofs.YtndnojbpapjdoaaDoor
open Go.ChangeShapes Go.WideShapes Go.ChangeAt Go.RowKit Go.Sp

theorem own0 : ownKnob Tryd.prog.godebug = none := by kernel_rfl
theorem laidOut0 : laidOutB Tryd.prog = true := by kernel_rfl
theorem cellsB : Tryd.prog.cellsOf 5 = 1 := by kernel_rfl
theorem cellsE : Tryd.prog.cellsOf 206 = 1 := by kernel_rfl
theorem cellsS : Tryd.prog.cellsOf 9 = 1 := by kernel_rfl
theorem cellsL : Tryd.prog.cellsOf 22 = 1 := by kernel_rfl
theorem bytesL : Tryd.prog.bytesOf 22 = 24 := by kernel_rfl
theorem bytesB : Tryd.prog.bytesOf 5 = 1 := by kernel_rfl
theorem cellsI : Tryd.prog.cellsOf 3 = 1 := by kernel_rfl
theorem bytesI : Tryd.prog.bytesOf 3 = 8 := by kernel_rfl
theorem cellsO : Tryd.prog.cellsOf 81 = 8 := by kernel_rfl
theorem cells4 : Tryd.prog.cellsOf 79 = 4 := by kernel_rfl
theorem starE : "*" ++ "errors.errorString" = "*errors.errorString" := by decide
theorem rowE (u : TypeId) (h : Tryd.prog.typeName? 3 u = some "*errors.errorString") : u = 182 :=
  typeName_ptr_named (nm := "errors.errorString") (by rw [starE]; kernel_rfl) (by kernel_rfl) (by decide) u (by rw [starE]; exact h)
def errNames : List String := ["jackfield/api.ErrRange", "jackfield/api.ErrShort", "jackfield/api.ErrLong", "jackfield/api.ErrTail", "jackfield/api.ErrBroken", "jackfield/api.ErrPower", "jackfield/api.ErrFrame", "jackfield/api.ErrFull", "jackfield/api.ErrGap", "jackfield/api.ErrName", "jackfield/api.ErrTaken", "jackfield/api.ErrNone", "jackfield/api.ErrOwner", "jackfield/api.ErrProof", "jackfield/api.ErrWindow", "jackfield/api.ErrStream", "jackfield/api.ErrState", "jackfield/api.ErrBusy"]
theorem laid_errs {W : World} (h : laidMetH Tryd.prog Rows.journalWholeRow.laid W) : ∃ E, Errs E W ∧ Table W := by
  rw [MakeChecks.laidMetH_plain _ _ _ (by kernel_rfl)] at h
  obtain ⟨ps, hv, hnd, hr⟩ := h
  obtain ⟨A, hA, hAp⟩ := laid_sentinels Tryd.underlying26 rowE Tryd.underlying182 Tryd.underlying206 rfl rfl Tryd.underlying9 cellsE cellsS _ ps hv hnd hr (by kernel_rfl)
  have hin : ∀ k, k ∈ errIdx → ∃ tx, (errNames.getD k "", errD tx) ∈ Rows.journalWholeRow.laid := fun k hk => by
    simp only [errIdx, List.mem_cons, List.not_mem_nil, or_false] at hk
    rcases hk with rfl | rfl | rfl | rfl | rfl | rfl | rfl | rfl <;> first | exact ⟨_, List.mem_of_getElem? (i := 0) rfl⟩ | exact ⟨_, List.mem_of_getElem? (i := 1) rfl⟩ | exact ⟨_, List.mem_of_getElem? (i := 2) rfl⟩ | exact ⟨_, List.mem_of_getElem? (i := 3) rfl⟩ | exact ⟨_, List.mem_of_getElem? (i := 4) rfl⟩ | exact ⟨_, List.mem_of_getElem? (i := 5) rfl⟩ | exact ⟨_, List.mem_of_getElem? (i := 6) rfl⟩ | exact ⟨_, List.mem_of_getElem? (i := 7) rfl⟩ | exact ⟨_, List.mem_of_getElem? (i := 8) rfl⟩
  have hnn : errNames.Nodup := by decide
  have hlt : ∀ k, k ∈ errIdx → k < 18 := by decide
  refine ⟨fun k => A (errNames.getD (k - 1) ""), ⟨?_, ?_, ?_⟩, ?_⟩
  · intro k g hk hg
    obtain ⟨tx, ht⟩ := hin k hk
    have hgn : Tryd.prog.globalNamed (errNames.getD k "") = some g := by
      clear ht hin
      simp only [errIdx, List.mem_cons, List.not_mem_nil, or_false] at hk
      rcases hk with rfl | rfl | rfl | rfl | rfl | rfl | rfl | rfl <;> (cases hg; kernel_rfl)
    exact (hA _ tx ht).1.at_ g hgn
  · intro i j hi hj hne
    obtain ⟨t1, h1⟩ := hin i hi
    obtain ⟨t2, h2⟩ := hin j hj
    refine hAp _ _ t1 t2 h1 h2 fun he => hne ?_
    have l1 : i < errNames.length := hlt i hi
    have l2 : j < errNames.length := hlt j hj
    simp only [Nat.add_sub_cancel] at he
    rw [List.getD_eq_getElem?_getD, List.getD_eq_getElem?_getD, List.getElem?_eq_getElem l1, List.getElem?_eq_getElem l2] at he
    exact (List.getElem_inj hnn).1 he
  · intro i hi
    obtain ⟨t1, h1⟩ := hin i hi
    exact (hA _ t1 h1).1.blk
  · intro i u hu
    exact laid_words (n := "jackfield/hash.round") (zs := Sha.K.map fun u => (u.toNat : Int)) (g := 19) (t := 179) (e := 174) (m := 64) (k := .u32) hv (List.mem_of_getElem? (i := 8) (by kernel_rfl)) (by kernel_rfl) (by kernel_rfl) Tryd.underlying179 Tryd.underlying174 (by kernel_rfl) i (u.toNat : Int) (by rw [List.getElem?_map, hu]; rfl)

set_option maxRecDepth 100000 in
theorem journalWhole_contract (H : Type) (enc : TypeId × Value → H) (W : World) (base : Nat) (args : Array Value) (ds gs : List (DataW H)) (before : List MemPlace)
    (hval : ∀ (j : Nat) t v, Tryd.f11.params[j]? = some t → args[j]? = some v → Value.okWide Tryd.prog W .any base t v)
    (hW : DataW.Whole enc Tryd.prog Tryd.f11.params.toList Rows.journalWholeSpec.vars false W args.toList ds gs before)
    (hZ : (DataW.weightsEach Tryd.prog (Tryd.f11.params.toList ++ (OpenSpec.ofChange Rows.journalWholeSpec).bare.plain.varTypes Tryd.prog) (ds ++ gs)).all (· ≤ reachBytes) = true) (hL : laidMetH Tryd.prog Rows.journalWholeRow.laid W) :
    Calls Tryd.prog 11 args W fun e W' => ∃ v, e = .returned v ∧ Rows.journalWholeSpec.post enc Tryd.prog Tryd.f11 false true false false W args v W' := by
  obtain ⟨E, hE⟩ := laid_errs hL
  have hW' := hW
  obtain ⟨p, q, hA0, hV, rfl, hfz, hnd⟩ := hW
  have hA : DataW.TrodAll enc Tryd.prog W 0 (fun _ => true) true Tryd.f11.params.toList args.toList ds p := hA0
  rw [Tryd.params11] at hA hval hZ
  obtain ⟨v0, d0, rfl, rfl, h0⟩ := trodAll_one hA
  obtain ⟨rfl, rfl⟩ := trodVars_none hV
  have z0 : Sized Tryd.prog _ d0 := sized_all hZ 0 _ _ rfl rfl
  obtain ⟨ops, hops, hol⟩ := open_jscript (tk := 3) (tb := 22) (tn := 3) (ta := 3) (tN := 79) (te := 5) Tryd.underlying78 Tryd.underlying81 (by simp) cellsO Tryd.underlying3 Tryd.underlying22 Tryd.underlying5 Tryd.underlying3 Tryd.underlying3 Tryd.underlying79 cellsI cellsL cellsI cellsI cells4 cellsB bytesB (hval 0 78 v0 rfl rfl) h0 z0
  refine (whole_law E W W [] hE.2 hE.1 v0 ops hops (fun o ho => by have := hol o ho; unfold reachBytes at this; omega) (Sat.start W)).mono fun e W' ⟨he, hg⟩ => ?_
  subst he
  exact ⟨_, rfl, post_true (tb := 4) laidOut0 rfl rfl Tryd.underlying4 (by kernel_rfl) hW' rfl rfl rfl hg.below⟩

set_option maxRecDepth 100000 in
theorem journalWhole_lifted (os : Os) (started : os.Started) (H : Type) (enc : TypeId × Value → H) (F : Stop.Interp) :
    ReturnsInHanded {} Tryd.checked os 11 .any ((OpenSpec.ofChange Rows.journalWholeSpec).preRow enc Tryd.prog Tryd.f11 Rows.journalWholeRow.domain false Rows.journalWholeRow.laid) (((OpenSpec.ofChange Rows.journalWholeSpec).at F).post enc Tryd.prog Tryd.f11 false true false false) := by
  have hx : ∃ places, DataW.whole enc Tryd.prog ((World.doorLaid Tryd.prog 356 os).forCall (fun _ _ => 0) ⟨#[], #[.slice none 0 0], []⟩).memory Tryd.f11.params.toList Rows.journalWholeSpec.vars false #[Value.slice none 0 0].toList 8 = some ([.nil], [], places) := ⟨[], by kernel_rfl⟩
  obtain ⟨places, hx⟩ := hx
  refine returnsInHanded_of_row (C := Tryd.checked) (s := OpenSpec.ofChange Rows.journalWholeSpec) own0 started (by kernel_rfl) Tryd.func11
    (witness_row_atRef (enc := enc) (C := Tryd.checked) false (World.doorLaid Tryd.prog 356 os) #[.slice none 0 0] rfl (by kernel_rfl) (by kernel_rfl) (by kernel_rfl)
      (OpenSpec.preRow_of_cond 8 hx (by kernel_rfl) (fun k hk => by cases hk) (by kernel_rfl) ((MakeChecks.laidMetH_plain _ _ _ (by kernel_rfl)).mpr (laidMet_of_run' 8 (by kernel_rfl) (by kernel_rfl))))) ?_
  intro W base args ds gs before hval hW _ _ hZ hL _ _
  exact journalWhole_contract H enc W base args ds gs before hval hW hZ hL

theorem journalWhole_said : Rows.JournalWholeSaid :=
  OpenClaim.holds_of_cond 11 Tryd.f11 rfl rfl rfl rfl rfl rfl rfl ⟨rfl, rfl, rfl, rfl, rfl⟩ rfl rfl rfl rfl rfl (by kernel_rfl) Tryd.func11 (by kernel_rfl)
    (of_decide_eq_true (by kernel_rfl)) (by unfold Func.isWrapper; first | (rw [if_pos (by decide +kernel)]; kernel_rfl) | (rw [if_neg (by decide +kernel)]; exact ⟨rfl, rfl⟩))
    (fun os started H enc _ F => by rw [OpenClaim.pre_eq_preRow]; exact journalWhole_lifted os started H enc F)

theorem journalWhole_plain (f : FuncId) (fn : Func) (hf : Tryd.pinned.checked.prog.funcNamed "jackfield/jackfieldlaw07.JournalWhole" = some f) (hfn : Tryd.pinned.checked.prog.funcs[f]? = some fn) :
    true = Tryd.pinned.checked.prog.looks [] ∧ ∀ (j : Nat) t, fn.params[j]? = some t → Tryd.pinned.checked.prog.wantsStandIn t = false := by
  obtain rfl : f = 11 := Option.some.inj ((show Tryd.prog.funcNamed "jackfield/jackfieldlaw07.JournalWhole" = some 11 by kernel_rfl).symm.trans hf) |>.symm
  obtain rfl : fn = Tryd.f11 := (Option.some.inj (Tryd.func11.symm.trans hfn)).symm
  refine ⟨by kernel_rfl, fun j t ht => ?_⟩
  have hall : (Tryd.f11.params.toList.all fun t => Tryd.prog.wantsStandIn t == false) = true := by kernel_rfl
  have := List.all_eq_true.1 hall t (by simpa using Array.mem_of_getElem? ht)
  exact eq_of_beq this

/-- THE CLAIM. -/
theorem journalWhole_card : Rows.JournalWholeCardSaid :=
  Claim7.holds_tied_plain_at .later [] _ _ _ _ journalWhole_said (fun _ h => by cases h) (by kernel_rfl) (fun _ h => by cases h) journalWhole_row_tie rfl ⟨rfl, rfl⟩ (by kernel_rfl) rfl journalWhole_plain (by kernel_rfl)
#print axioms journalWhole_card
end Go.Proofs.YtndnojbpapjdoaaDoor
