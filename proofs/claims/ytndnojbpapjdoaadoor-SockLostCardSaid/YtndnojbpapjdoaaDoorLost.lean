/- The claim SockLost: jackfieldlaw03.SockLost answers true for every input, and what it is handed reads behind the call as it read before. -/
import Derived.Test.YtndnojbpapjdoaaDoorSockO
import Derived.Test.YtndnojbpapjdoaaDoorFrame
import Derived.Test.YtndnojbpapjdoaaDoorCards
import Derived.Test.YtndnojbpapjdoaaDoorTie
import Derived.WalkKit
namespace Go.Proofs.YtndnojbpapjdoaaDoor
open Go.ChangeShapes Go.WideShapes Go.ChangeAt Go.RowKit Go.Sp

theorem own0 : ownKnob Tryd.prog.godebug = none := by kernel_rfl
theorem laidOut0 : laidOutB Tryd.prog = true := by kernel_rfl
theorem cellsB : Tryd.prog.cellsOf 5 = 1 := by kernel_rfl
theorem cellsE : Tryd.prog.cellsOf 206 = 1 := by kernel_rfl
theorem cellsS : Tryd.prog.cellsOf 9 = 1 := by kernel_rfl
theorem gRange : Tryd.prog.globalNamed "jackfield/api.ErrRange" = some 1 := by kernel_rfl
theorem gBroken : Tryd.prog.globalNamed "jackfield/api.ErrBroken" = some 0 := by kernel_rfl
theorem gState : Tryd.prog.globalNamed "jackfield/api.ErrState" = some 6 := by kernel_rfl
theorem gRangeT : (Tryd.prog.globals[1]?).map (·.type) = some 26 := by kernel_rfl
theorem gBrokenT : (Tryd.prog.globals[0]?).map (·.type) = some 26 := by kernel_rfl
theorem gStateT : (Tryd.prog.globals[6]?).map (·.type) = some 26 := by kernel_rfl
theorem starE : "*" ++ "errors.errorString" = "*errors.errorString" := by decide
theorem rowE (u : TypeId) (h : Tryd.prog.typeName? 3 u = some "*errors.errorString") : u = 182 :=
  typeName_ptr_named (nm := "errors.errorString") (by rw [starE]; kernel_rfl) (by kernel_rfl) (by decide) u (by rw [starE]; exact h)
theorem sock_errs {W : World} (h : laidMetH Tryd.prog Rows.sockLostRow.laid W) : ∃ E, SockErrs E W := by
  rw [MakeChecks.laidMetH_plain _ _ _ (by kernel_rfl)] at h
  obtain ⟨a, ha⟩ := laid_err h gRange gRangeT Tryd.underlying26 rowE Tryd.underlying182 Tryd.underlying206 rfl rfl Tryd.underlying9 cellsE cellsS
  obtain ⟨b, hb⟩ := laid_err h.tail gBroken gBrokenT Tryd.underlying26 rowE Tryd.underlying182 Tryd.underlying206 rfl rfl Tryd.underlying9 cellsE cellsS
  obtain ⟨c, hc⟩ := laid_err h.tail.tail gState gStateT Tryd.underlying26 rowE Tryd.underlying182 Tryd.underlying206 rfl rfl Tryd.underlying9 cellsE cellsS
  exact ⟨fun k => if k = 1 then a else if k = 5 then b else c, ha, hb, hc⟩

set_option maxRecDepth 100000 in
theorem lost_contract (H : Type) (enc : TypeId × Value → H) (W : World) (base : Nat) (args : Array Value) (ds gs : List (DataW H)) (before : List MemPlace)
    (hval : ∀ (j : Nat) t v, Tryd.f3.params[j]? = some t → args[j]? = some v → Value.okWide Tryd.prog W .any base t v)
    (hW : DataW.Whole enc Tryd.prog Tryd.f3.params.toList Rows.sockLostSpec.vars false W args.toList ds gs before) (hL : laidMetH Tryd.prog Rows.sockLostRow.laid W) :
    Calls Tryd.prog 3 args W fun e W' => ∃ v, e = .returned v ∧ Rows.sockLostSpec.post enc Tryd.prog Tryd.f3 false true false false W args v W' := by
  obtain ⟨E, hE⟩ := sock_errs hL
  have hW' := hW
  obtain ⟨p, q, hA0, hV, rfl, hfz, hnd⟩ := hW
  have hA : DataW.TrodAll enc Tryd.prog W 0 (fun _ => true) true Tryd.f3.params.toList args.toList ds p := hA0
  rw [Tryd.params3] at hA hval
  obtain ⟨v0, v1, v2, d0, d1, d2, p0, p1, p2, rfl, rfl, rfl, h0, h1, h2⟩ := trodAll_three hA
  obtain ⟨rfl, rfl⟩ := trodVars_none hV
  obtain ⟨s, hs⟩ := open_bytes Tryd.underlying22 Tryd.underlying5 cellsB (hval 0 22 v0 rfl rfl) h0
  obtain ⟨x, rfl, rfl, rfl, _⟩ := open_int Tryd.underlying3 (hval 1 3 v1 rfl rfl) h1
  obtain ⟨y, rfl, rfl, rfl, _⟩ := open_int Tryd.underlying3 (hval 2 3 v2 rfl rfl) h2
  refine (lost_ok E W W [] hE (Sat.start W) v0 s hs x y).mono fun e W' ⟨he, hg⟩ => ?_
  subst he
  exact ⟨_, rfl, post_true (tb := 4) laidOut0 rfl rfl Tryd.underlying4 (by kernel_rfl) hW' rfl rfl rfl hg.below⟩

set_option maxRecDepth 100000 in
theorem lost_lifted (os : Os) (started : os.Started) (H : Type) (enc : TypeId × Value → H) (F : Stop.Interp) :
    ReturnsInHanded {} Tryd.checked os 3 .any ((OpenSpec.ofChange Rows.sockLostSpec).preRow enc Tryd.prog Tryd.f3 Rows.sockLostRow.domain false Rows.sockLostRow.laid) (((OpenSpec.ofChange Rows.sockLostSpec).at F).post enc Tryd.prog Tryd.f3 false true false false) := by
  have hx : ∃ places, DataW.whole enc Tryd.prog ((World.doorLaid Tryd.prog 356 os).forCall (fun _ _ => 0) ⟨#[], #[.slice none 0 0, .int .i64 0, .int .i64 0], []⟩).memory Tryd.f3.params.toList Rows.sockLostSpec.vars false #[Value.slice none 0 0, .int .i64 0, .int .i64 0].toList 8 = some ([.nil, .lit (.int .i64 0), .lit (.int .i64 0)], [], places) := ⟨[], by kernel_rfl⟩
  obtain ⟨places, hx⟩ := hx
  refine returnsInHanded_of_row (C := Tryd.checked) (s := OpenSpec.ofChange Rows.sockLostSpec) own0 started (by kernel_rfl) Tryd.func3
    (witness_row_atRef (enc := enc) (C := Tryd.checked) false (World.doorLaid Tryd.prog 356 os) #[.slice none 0 0, .int .i64 0, .int .i64 0] rfl (by kernel_rfl) (by kernel_rfl) (by kernel_rfl)
      (OpenSpec.preRow_of_cond 8 hx (by kernel_rfl) (fun k hk => by cases hk) (by kernel_rfl) ((MakeChecks.laidMetH_plain _ _ _ (by kernel_rfl)).mpr (laidMet_of_run' 8 (by kernel_rfl) (by kernel_rfl))))) ?_
  intro W base args ds gs before hval hW _ _ _ hL _ _
  exact lost_contract H enc W base args ds gs before hval hW hL

theorem lost_said : Rows.SockLostSaid :=
  OpenClaim.holds_of_cond 3 Tryd.f3 rfl rfl rfl rfl rfl rfl rfl ⟨rfl, rfl, rfl, rfl, rfl⟩ rfl rfl rfl rfl rfl (by kernel_rfl) Tryd.func3 (by kernel_rfl)
    (of_decide_eq_true (by kernel_rfl)) (by unfold Func.isWrapper; first | (rw [if_pos (by decide +kernel)]; kernel_rfl) | (rw [if_neg (by decide +kernel)]; exact ⟨rfl, rfl⟩))
    (fun os started H enc _ F => by rw [OpenClaim.pre_eq_preRow]; exact lost_lifted os started H enc F)

theorem lost_plain (f : FuncId) (fn : Func) (hf : Tryd.pinned.checked.prog.funcNamed "jackfield/jackfieldlaw03.SockLost" = some f) (hfn : Tryd.pinned.checked.prog.funcs[f]? = some fn) :
    true = Tryd.pinned.checked.prog.looks [] ∧ ∀ (j : Nat) t, fn.params[j]? = some t → Tryd.pinned.checked.prog.wantsStandIn t = false := by
  obtain rfl : f = 3 := Option.some.inj ((show Tryd.prog.funcNamed "jackfield/jackfieldlaw03.SockLost" = some 3 by kernel_rfl).symm.trans hf) |>.symm
  obtain rfl : fn = Tryd.f3 := (Option.some.inj (Tryd.func3.symm.trans hfn)).symm
  refine ⟨by kernel_rfl, fun j t ht => ?_⟩
  have hall : (Tryd.f3.params.toList.all fun t => Tryd.prog.wantsStandIn t == false) = true := by kernel_rfl
  have := List.all_eq_true.1 hall t (by simpa using Array.mem_of_getElem? ht)
  exact eq_of_beq this

/-- THE CLAIM. -/
theorem sockLost_card : Rows.SockLostCardSaid :=
  Claim7.holds_tied_plain_at .later [] _ _ _ _ lost_said (fun _ h => by cases h) (by kernel_rfl) (fun _ h => by cases h) sockLost_row_tie rfl ⟨rfl, rfl⟩ (by kernel_rfl) rfl lost_plain (by kernel_rfl)
#print axioms sockLost_card
end Go.Proofs.YtndnojbpapjdoaaDoor
