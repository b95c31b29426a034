/- DisplayPlaces: for every list of regions and every event of bulk at most 1048576 the law returns true and leaves its arguments as they were. Conditions: the bound on the bulk; the two tables of unicode/utf8 hold what the library lays. -/
import Derived.Test.YtajbhfmdmajpmaaGreatDoorCards
import Derived.Test.YtajbhfmdmajpmaaGreatDoorTie
import Derived.Test.YtajbhfmdmajpmaaGreatDoorPk03
import Derived.Test.YtajbhfmdmajpmaaGreatDoorPk26
import Derived.Test.YtajbhfmdmajpmaaGreatDoorPk04
namespace Go.Proofs.YtajbhfmdmajpmaaGreatDoor.places32
set_option linter.unusedVariables false
set_option linter.unusedSimpArgs false
open Go.ChangeShapes Go.WideShapes Go.ChangeAt Go.RowKit
set_option maxRecDepth 100000
theorem contract (H : Type) (enc : TypeId × Value → H) (W : World) (base : Nat) (args : Array Value) (ds gs : List (DataW H)) (before : List MemPlace)
    (hval : ∀ (j : Nat) t v, Tryz.f10.params[j]? = some t → args[j]? = some v → Value.okWide Tryz.prog W .any base t v)
    (hW : DataW.Whole enc Tryz.prog Tryz.f10.params.toList Rows.displayPlacesSpec.vars false W args.toList ds gs before)
    (hwt : (DataW.weightsEach Tryz.prog (Tryz.f10.params.toList ++ (Rows.OpenSpec.upto Rows.displayPlacesSpec).bare.plain.varTypes Tryz.prog) (ds ++ gs)).all (· ≤ reachBytes) = true)
    (hL : laidMetH Tryz.prog Rows.displayPlacesUptoRow.laid W) (hS : W.ShapedOpen Tryz.prog) (hk : Rows.uptoSmall H (ds ++ gs) = true) :
    Calls Tryz.prog 10 args W fun e W' => ∃ v, e = .returned v ∧ Rows.displayPlacesSpec.post enc Tryz.prog Tryz.f10 false true false false W args v W' := by
  have hW' := hW
  obtain ⟨p, q, hA0, hV, rfl, hfz, hnd⟩ := hW
  have hA : DataW.TrodAll enc Tryz.prog W 0 (fun _ => true) true Tryz.f10.params.toList args.toList ds p := hA0
  rw [Tryz.params10] at hA hval hwt
  obtain ⟨rfl, rfl⟩ := trodVars_none hV
  obtain ⟨v0, v1, d0, d1, p0, p1, rfl, rfl, rfl, h0, h1⟩ := trodAll_two hA
  have hkb : Rows.uptoBulkAll ([d0, d1] ++ ([] : List (DataW H))) ≤ 1048576 := of_decide_eq_true hk
  obtain ⟨A2, n2, c2, regs, rfl, hnc2, hn2, hr, hrs⟩ := arg_regions (hval 0 23 v0 rfl rfl) h0 (wt_at hwt (i := 0) rfl rfl)
  obtain ⟨e, A, n, c, rfl, hex, hes, hby⟩ := argK_event (hval 1 53 v1 rfl rfl) h1 (wt_at hwt (i := 1) rfl rfl) (Nat.le_trans (bulk_at (i := 1) rfl) hkb)
  refine (DisplayPlaces_any A2 n2 c2 regs e A n c W (env_of hL hS) hex hes hby hr hn2 hrs).mono fun en W' ⟨he, hx⟩ => ?_
  subst he
  exact ⟨_, rfl, post_true hW' rfl rfl (by kernel_rfl) rfl rfl rfl hx⟩
def wargs : Array Value := #[.slice none 0 0, .agg evZero]
theorem laid_met (os : Os) : laidMet Tryz.prog Rows.displayPlacesUptoRow.laid ((laidWorld os).forCall (fun _ _ => 0) ⟨#[], wargs, []⟩).memory :=
  laidMet_of_run' 8 (by kernel_rfl) (by kernel_rfl)
theorem reads (os : Os) {H : Type} (enc : TypeId × Value → H) : ∃ places, DataW.whole enc Tryz.prog ((laidWorld os).forCall (fun _ _ => 0) ⟨#[], wargs, []⟩).memory Tryz.f10.params.toList Rows.displayPlacesSpec.vars false wargs.toList 8 = some ([.nil, wzero], [], places) :=
  ⟨[], by kernel_rfl⟩
theorem lifted (os : Os) (started : os.Started) (H : Type) (enc : TypeId × Value → H) (F : Stop.Interp) :
    ReturnsInHanded {} Tryz.checked os 10 .any ((Rows.OpenSpec.upto Rows.displayPlacesSpec).preRow enc Tryz.prog Tryz.f10 Rows.displayPlacesUptoRow.domain false Rows.displayPlacesUptoRow.laid) (((Rows.OpenSpec.upto Rows.displayPlacesSpec).at F).post enc Tryz.prog Tryz.f10 false true false false) := by
  obtain ⟨places, hx⟩ := reads os enc
  refine returnsInHanded_of_row (C := Tryz.checked) (s := Rows.OpenSpec.upto Rows.displayPlacesSpec) own started (by kernel_rfl) Tryz.func10
    (witness_row_at (enc := enc) (C := Tryz.checked) false (laidWorld os) wargs rfl (by kernel_rfl) (by kernel_rfl) (by kernel_rfl)
      (OpenSpec.preRow_of_cond 8 hx (by kernel_rfl) (fun k hk => by cases hk; kernel_rfl) (by kernel_rfl) (laid_met os))) ?_
  intro W base args ds gs before hval hW _ hcond hwt hL hS _
  exact contract H enc W base args ds gs before hval hW hwt hL hS (hcond _ rfl)
theorem said : Rows.DisplayPlacesUptoSaid :=
  OpenClaim.holds_of_cond 10 Tryz.f10 rfl rfl rfl rfl rfl rfl rfl ⟨rfl, rfl, rfl, rfl, rfl⟩ rfl rfl rfl rfl rfl (by kernel_rfl) Tryz.func10 (by kernel_rfl)
    (of_decide_eq_true (by kernel_rfl)) (by unfold Func.isWrapper; first | (rw [if_pos (by decide +kernel)]; kernel_rfl) | (rw [if_neg (by decide +kernel)]; exact ⟨rfl, rfl⟩))
    (fun os started H enc _ F => by rw [OpenClaim.pre_eq_preRow]; exact lifted os started H enc F)
theorem plain (f : FuncId) (fn : Func) (hf : Tryz.pinned.checked.prog.funcNamed "captioner/captionerlaw32.DisplayPlaces" = some f) (hfn : Tryz.pinned.checked.prog.funcs[f]? = some fn) :
    false = Tryz.pinned.checked.prog.looks [] ∧ ∀ (j : Nat) t, fn.params[j]? = some t → Tryz.pinned.checked.prog.wantsStandIn t = false := by
  obtain rfl : f = 10 := Option.some.inj ((show Tryz.prog.funcNamed "captioner/captionerlaw32.DisplayPlaces" = some 10 by kernel_rfl).symm.trans hf) |>.symm
  obtain rfl : fn = Tryz.f10 := (Option.some.inj (Tryz.func10.symm.trans hfn)).symm
  refine ⟨by kernel_rfl, fun j t ht => ?_⟩
  rw [Tryz.params10] at ht
  have hm : t = 23 ∨ t = 53 := by simpa using Array.mem_of_getElem? ht
  rcases hm with rfl | rfl
  · exact (show Tryz.prog.wantsStandIn 23 = false by kernel_rfl)
  · exact (show Tryz.prog.wantsStandIn 53 = false by kernel_rfl)
end Go.Proofs.YtajbhfmdmajpmaaGreatDoor.places32
namespace Go.Proofs.YtajbhfmdmajpmaaGreatDoor
theorem displayPlacesUpto_card : Rows.DisplayPlacesUptoCardSaid :=
  Claim7.holds_tied_plain_at .later [] _ _ _ _ places32.said (fun _ h => by cases h) (by kernel_rfl) (fun _ h => by cases h) displayPlacesUpto_row_tie rfl ⟨rfl, rfl⟩ (by kernel_rfl) rfl places32.plain (by kernel_rfl)
#print axioms displayPlacesUpto_card
end Go.Proofs.YtajbhfmdmajpmaaGreatDoor
