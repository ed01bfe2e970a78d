/- The claim SockPrefix: jackfieldlaw03.SockPrefix answers true for every input, and what it is handed reads behind the call as it read before. -/
import Derived.Test.YtndnojbpapjdoaaDoorSockP
import Derived.Test.YtndnojbpapjdoaaDoorFrame
import Derived.Test.YtndnojbpapjdoaaDoorCards
import Derived.Test.YtndnojbpapjdoaaDoorTie
import Derived.WalkKit
namespace Go.Proofs.YtndnojbpapjdoaaDoor
open Go.ChangeShapes Go.WideShapes Go.ChangeAt Go.RowKit Go.Sp

theorem own0 : ownKnob Tryd.prog.godebug = none := by kernel_rfl
theorem laidOut0 : laidOutB Tryd.prog = true := by kernel_rfl
theorem cellsB : Tryd.prog.cellsOf 5 = 1 := by kernel_rfl
theorem cellsE : Tryd.prog.cellsOf 206 = 1 := by kernel_rfl
theorem cellsS : Tryd.prog.cellsOf 9 = 1 := by kernel_rfl
theorem cellsO : Tryd.prog.cellsOf 40 = 4 := by kernel_rfl
theorem cellsI : Tryd.prog.cellsOf 3 = 1 := by kernel_rfl
theorem cellsL : Tryd.prog.cellsOf 22 = 1 := by kernel_rfl
theorem gRange : Tryd.prog.globalNamed "jackfield/api.ErrRange" = some 1 := by kernel_rfl
theorem gBroken : Tryd.prog.globalNamed "jackfield/api.ErrBroken" = some 0 := by kernel_rfl
theorem gState : Tryd.prog.globalNamed "jackfield/api.ErrState" = some 6 := by kernel_rfl
theorem gRangeT : (Tryd.prog.globals[1]?).map (·.type) = some 26 := by kernel_rfl
theorem gBrokenT : (Tryd.prog.globals[0]?).map (·.type) = some 26 := by kernel_rfl
theorem gStateT : (Tryd.prog.globals[6]?).map (·.type) = some 26 := by kernel_rfl
theorem starE : "*" ++ "errors.errorString" = "*errors.errorString" := by decide
theorem rowE (u : TypeId) (h : Tryd.prog.typeName? 3 u = some "*errors.errorString") : u = 182 :=
  typeName_ptr_named (nm := "errors.errorString") (by rw [starE]; kernel_rfl) (by kernel_rfl) (by decide) u (by rw [starE]; exact h)
theorem sock_errs {W : World} (h : laidMetH Tryd.prog Rows.sockPrefixRow.laid W) : ∃ E, SockErrs E W := by
  rw [MakeChecks.laidMetH_plain _ _ _ (by kernel_rfl)] at h
  obtain ⟨a, ha⟩ := laid_err h gRange gRangeT Tryd.underlying26 rowE Tryd.underlying182 Tryd.underlying206 rfl rfl Tryd.underlying9 cellsE cellsS
  obtain ⟨b, hb⟩ := laid_err h.tail gBroken gBrokenT Tryd.underlying26 rowE Tryd.underlying182 Tryd.underlying206 rfl rfl Tryd.underlying9 cellsE cellsS
  obtain ⟨c, hc⟩ := laid_err h.tail.tail gState gStateT Tryd.underlying26 rowE Tryd.underlying182 Tryd.underlying206 rfl rfl Tryd.underlying9 cellsE cellsS
  exact ⟨fun k => if k = 1 then a else if k = 5 then b else c, ha, hb, hc⟩

set_option maxRecDepth 100000 in
theorem prefix_contract (H : Type) (enc : TypeId × Value → H) (W : World) (base : Nat) (args : Array Value) (ds gs : List (DataW H)) (before : List MemPlace)
    (hval : ∀ (j : Nat) t v, Tryd.f4.params[j]? = some t → args[j]? = some v → Value.okWide Tryd.prog W .any base t v)
    (hW : DataW.Whole enc Tryd.prog Tryd.f4.params.toList Rows.sockPrefixSpec.vars false W args.toList ds gs before) (hL : laidMetH Tryd.prog Rows.sockPrefixRow.laid W) :
    Calls Tryd.prog 4 args W fun e W' => ∃ v, e = .returned v ∧ Rows.sockPrefixSpec.post enc Tryd.prog Tryd.f4 false true false false W args v W' := by
  obtain ⟨E, hE⟩ := sock_errs hL
  have hW' := hW
  obtain ⟨p, q, hA0, hV, rfl, hfz, hnd⟩ := hW
  have hA : DataW.TrodAll enc Tryd.prog W 0 (fun _ => true) true Tryd.f4.params.toList args.toList ds p := hA0
  rw [Tryd.params4] at hA hval
  obtain ⟨v0, v1, d0, d1, p0, p1, rfl, rfl, rfl, h0, h1⟩ := trodAll_two hA
  obtain ⟨rfl, rfl⟩ := trodVars_none hV
  obtain ⟨x, rfl, rfl, rfl, _⟩ := open_int Tryd.underlying3 (hval 0 3 v0 rfl rfl) h0
  obtain ⟨ops, hops⟩ := open_script Tryd.underlying37 Tryd.underlying40 (by simp) cellsO Tryd.underlying3 Tryd.underlying3 Tryd.underlying3 Tryd.underlying22 Tryd.underlying5 cellsI cellsI cellsI cellsL cellsB (hval 1 37 v1 rfl rfl) h1
  refine (prefix_ok E W W [] hE (Sat.start W) v1 ops hops x).mono fun e W' ⟨he, hg⟩ => ?_
  subst he
  exact ⟨_, rfl, post_true (tb := 4) laidOut0 rfl rfl Tryd.underlying4 (by kernel_rfl) hW' rfl rfl rfl hg.below⟩

set_option maxRecDepth 100000 in
theorem prefix_lifted (os : Os) (started : os.Started) (H : Type) (enc : TypeId × Value → H) (F : Stop.Interp) :
    ReturnsInHanded {} Tryd.checked os 4 .any ((OpenSpec.ofChange Rows.sockPrefixSpec).preRow enc Tryd.prog Tryd.f4 Rows.sockPrefixRow.domain false Rows.sockPrefixRow.laid) (((OpenSpec.ofChange Rows.sockPrefixSpec).at F).post enc Tryd.prog Tryd.f4 false true false false) := by
  have hx : ∃ places, DataW.whole enc Tryd.prog ((World.doorLaid Tryd.prog 356 os).forCall (fun _ _ => 0) ⟨#[], #[.int .i64 0, .slice none 0 0], []⟩).memory Tryd.f4.params.toList Rows.sockPrefixSpec.vars false #[Value.int .i64 0, .slice none 0 0].toList 8 = some ([.lit (.int .i64 0), .nil], [], places) := ⟨[], by kernel_rfl⟩
  obtain ⟨places, hx⟩ := hx
  refine returnsInHanded_of_row (C := Tryd.checked) (s := OpenSpec.ofChange Rows.sockPrefixSpec) own0 started (by kernel_rfl) Tryd.func4
    (witness_row_atRef (enc := enc) (C := Tryd.checked) false (World.doorLaid Tryd.prog 356 os) #[.int .i64 0, .slice none 0 0] rfl (by kernel_rfl) (by kernel_rfl) (by kernel_rfl)
      (OpenSpec.preRow_of_cond 8 hx (by kernel_rfl) (fun k hk => by cases hk) (by kernel_rfl) ((MakeChecks.laidMetH_plain _ _ _ (by kernel_rfl)).mpr (laidMet_of_run' 8 (by kernel_rfl) (by kernel_rfl))))) ?_
  intro W base args ds gs before hval hW _ _ _ hL _ _
  exact prefix_contract H enc W base args ds gs before hval hW hL

theorem prefix_said : Rows.SockPrefixSaid :=
  OpenClaim.holds_of_cond 4 Tryd.f4 rfl rfl rfl rfl rfl rfl rfl ⟨rfl, rfl, rfl, rfl, rfl⟩ rfl rfl rfl rfl rfl (by kernel_rfl) Tryd.func4 (by kernel_rfl)
    (of_decide_eq_true (by kernel_rfl)) (by unfold Func.isWrapper; first | (rw [if_pos (by decide +kernel)]; kernel_rfl) | (rw [if_neg (by decide +kernel)]; exact ⟨rfl, rfl⟩))
    (fun os started H enc _ F => by rw [OpenClaim.pre_eq_preRow]; exact prefix_lifted os started H enc F)

theorem prefix_plain (f : FuncId) (fn : Func) (hf : Tryd.pinned.checked.prog.funcNamed "jackfield/jackfieldlaw03.SockPrefix" = some f) (hfn : Tryd.pinned.checked.prog.funcs[f]? = some fn) :
    true = Tryd.pinned.checked.prog.looks [] ∧ ∀ (j : Nat) t, fn.params[j]? = some t → Tryd.pinned.checked.prog.wantsStandIn t = false := by
  obtain rfl : f = 4 := Option.some.inj ((show Tryd.prog.funcNamed "jackfield/jackfieldlaw03.SockPrefix" = some 4 by kernel_rfl).symm.trans hf) |>.symm
  obtain rfl : fn = Tryd.f4 := (Option.some.inj (Tryd.func4.symm.trans hfn)).symm
  refine ⟨by kernel_rfl, fun j t ht => ?_⟩
  have hall : (Tryd.f4.params.toList.all fun t => Tryd.prog.wantsStandIn t == false) = true := by kernel_rfl
  have := List.all_eq_true.1 hall t (by simpa using Array.mem_of_getElem? ht)
  exact eq_of_beq this

/-- THE CLAIM. -/
theorem sockPrefix_card : Rows.SockPrefixCardSaid :=
  Claim7.holds_tied_plain_at .later [] _ _ _ _ prefix_said (fun _ h => by cases h) (by kernel_rfl) (fun _ h => by cases h) sockPrefix_row_tie rfl ⟨rfl, rfl⟩ (by kernel_rfl) rfl prefix_plain (by kernel_rfl)
#print axioms sockPrefix_card
end Go.Proofs.YtndnojbpapjdoaaDoor
