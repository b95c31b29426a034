/- RetimeBounds: for every list of drifts the law returns true and leaves its argument as it was. Conditions: the two tables of unicode/utf8 hold what the library lays. -/
import Derived.Test.YtaocjfneglgmjaaDoorCards
import Derived.Test.YtaocjfneglgmjaaDoorTie
import Derived.Test.YtaocjfneglgmjaaDoorPk15
import Derived.Test.YtaocjfneglgmjaaDoorPLawBounds47
namespace Go.Proofs.YtaocjfneglgmjaaDoor.bounds
set_option linter.unusedVariables false
set_option linter.unusedSimpArgs false
open Go.ChangeShapes Go.WideShapes Go.ChangeAt Go.RowKit
set_option maxRecDepth 100000

theorem contract (H : Type) (enc : TypeId × Value → H) (W : World) (base : Nat) (args : Array Value) (ds gs : List (DataW H)) (before : List MemPlace)
    (hval : ∀ (j : Nat) t v, Tryd.f7.params[j]? = some t → args[j]? = some v → Value.okWide Tryd.prog W .any base t v)
    (hW : DataW.Whole enc Tryd.prog Tryd.f7.params.toList Rows.retimeBoundsSpec.vars false W args.toList ds gs before)
    (hwt : (DataW.weightsEach Tryd.prog (Tryd.f7.params.toList ++ (OpenSpec.ofChange Rows.retimeBoundsSpec).bare.plain.varTypes Tryd.prog) (ds ++ gs)).all (· ≤ reachBytes) = true)
    (hL : laidMetH Tryd.prog Rows.retimeBoundsRow.laid W) (hS : W.ShapedOpen Tryd.prog) :
    Calls Tryd.prog 7 args W fun e W' => ∃ v, e = .returned v ∧ Rows.retimeBoundsSpec.post enc Tryd.prog Tryd.f7 false true false false W args v W' := by
  have hW' := hW
  obtain ⟨p, q, hA0, hV, rfl, hfz, hnd⟩ := hW
  have hA : DataW.TrodAll enc Tryd.prog W 0 (fun _ => true) true Tryd.f7.params.toList args.toList ds p := hA0
  rw [Tryd.params7] at hA hval hwt
  obtain ⟨rfl, rfl⟩ := trodVars_none hV
  obtain ⟨v0, d0, rfl, rfl, h0⟩ := trodAll_one hA
  obtain ⟨A, n, c, l, rfl, hl, hf⟩ := arg_drifts (hval 0 37 v0 rfl rfl) h0 (wt_at hwt (i := 0) rfl rfl)
  refine (RetimeBounds_any A n c l W (env_of hL hS) hl hf).mono fun en W' ⟨he, hx⟩ => ?_
  subst he
  exact ⟨_, rfl, post_true hW' rfl rfl (by kernel_rfl) rfl rfl rfl hx⟩

def wargs : Array Value := #[.slice none 0 0]
theorem laid_met (os : Os) : laidMet Tryd.prog Rows.retimeBoundsRow.laid ((laidWorld os).forCall (fun _ _ => 0) ⟨#[], wargs, []⟩).memory :=
  laidMet_of_run' 8 (by kernel_rfl) (by kernel_rfl)
theorem reads (os : Os) {H : Type} (enc : TypeId × Value → H) : ∃ places, DataW.whole enc Tryd.prog ((laidWorld os).forCall (fun _ _ => 0) ⟨#[], wargs, []⟩).memory Tryd.f7.params.toList Rows.retimeBoundsSpec.vars false wargs.toList 8 = some ([.nil], [], places) :=
  ⟨[], by kernel_rfl⟩

theorem lifted (os : Os) (started : os.Started) (H : Type) (enc : TypeId × Value → H) (F : Stop.Interp) :
    ReturnsInHanded {} Tryd.checked os 7 .any ((OpenSpec.ofChange Rows.retimeBoundsSpec).preRow enc Tryd.prog Tryd.f7 Rows.retimeBoundsRow.domain false Rows.retimeBoundsRow.laid) (((OpenSpec.ofChange Rows.retimeBoundsSpec).at F).post enc Tryd.prog Tryd.f7 false true false false) := by
  obtain ⟨places, hx⟩ := reads os enc
  refine returnsInHanded_of_row (C := Tryd.checked) (s := OpenSpec.ofChange Rows.retimeBoundsSpec) own started (by kernel_rfl) Tryd.func7
    (witness_row_at (enc := enc) (C := Tryd.checked) false (laidWorld os) wargs rfl (by kernel_rfl) (by kernel_rfl) (by kernel_rfl)
      (OpenSpec.preRow_of_cond 8 hx (by kernel_rfl) (fun k hk => by cases hk) (by kernel_rfl) (laid_met os))) ?_
  intro W base args ds gs before hval hW _ _ hwt hL hS _
  exact contract H enc W base args ds gs before hval hW hwt hL hS

theorem said : Rows.RetimeBoundsSaid :=
  OpenClaim.holds_of_cond 7 Tryd.f7 rfl rfl rfl rfl rfl rfl rfl ⟨rfl, rfl, rfl, rfl, rfl⟩ rfl rfl rfl rfl rfl (by kernel_rfl) Tryd.func7 (by kernel_rfl)
    (of_decide_eq_true (by kernel_rfl)) (by unfold Func.isWrapper; first | (rw [if_pos (by decide +kernel)]; kernel_rfl) | (rw [if_neg (by decide +kernel)]; exact ⟨rfl, rfl⟩))
    (fun os started H enc _ F => by rw [OpenClaim.pre_eq_preRow]; exact lifted os started H enc F)

theorem plain (f : FuncId) (fn : Func) (hf : Tryd.pinned.checked.prog.funcNamed "captioner/captionerlaw47.RetimeBounds" = some f) (hfn : Tryd.pinned.checked.prog.funcs[f]? = some fn) :
    false = Tryd.pinned.checked.prog.looks [] ∧ ∀ (j : Nat) t, fn.params[j]? = some t → Tryd.pinned.checked.prog.wantsStandIn t = false := by
  obtain rfl : f = 7 := Option.some.inj ((show Tryd.prog.funcNamed "captioner/captionerlaw47.RetimeBounds" = some 7 by kernel_rfl).symm.trans hf) |>.symm
  obtain rfl : fn = Tryd.f7 := (Option.some.inj (Tryd.func7.symm.trans hfn)).symm
  refine ⟨by kernel_rfl, fun j t ht => ?_⟩
  rw [Tryd.params7] at ht
  have hm : t = 37 := by simpa using Array.mem_of_getElem? ht
  rcases hm with rfl
  exact (show Tryd.prog.wantsStandIn 37 = false by kernel_rfl)
end Go.Proofs.YtaocjfneglgmjaaDoor.bounds
namespace Go.Proofs.YtaocjfneglgmjaaDoor
theorem retimeBounds_card : Rows.RetimeBoundsCardSaid :=
  Claim7.holds_tied_plain_at .later [] _ _ _ _ bounds.said (fun _ h => by cases h) (by kernel_rfl) (fun _ h => by cases h) retimeBounds_row_tie rfl ⟨rfl, rfl⟩ (by kernel_rfl) rfl bounds.plain (by kernel_rfl)
#print axioms retimeBounds_card
end Go.Proofs.YtaocjfneglgmjaaDoor
