/- ReelPieces: for every list of cuts and every name the law returns true and leaves its arguments as they were. Conditions: the two tables of unicode/utf8 hold what the library lays. -/
import Derived.Test.YtablhmobekmflaaGreatDoorCards
import Derived.Test.YtablhmobekmflaaGreatDoorTie
import Derived.Test.YtablhmobekmflaaGreatDoorPk05
import Derived.Test.YtablhmobekmflaaGreatDoorPk12
namespace Go.Proofs.YtablhmobekmflaaGreatDoor.pieces
set_option linter.unusedVariables false
set_option linter.unusedSimpArgs false
open Go.ChangeShapes Go.WideShapes Go.ChangeAt Go.RowKit
set_option maxRecDepth 100000
theorem contract (H : Type) (enc : TypeId × Value → H) (W : World) (base : Nat) (args : Array Value) (ds gs : List (DataW H)) (before : List MemPlace)
    (hval : ∀ (j : Nat) t v, Tryz.f3.params[j]? = some t → args[j]? = some v → Value.okWide Tryz.prog W .any base t v)
    (hW : DataW.Whole enc Tryz.prog Tryz.f3.params.toList Rows.reelPiecesSpec.vars false W args.toList ds gs before)
    (hwt : (DataW.weightsEach Tryz.prog (Tryz.f3.params.toList ++ (OpenSpec.ofChange Rows.reelPiecesSpec).bare.plain.varTypes Tryz.prog) (ds ++ gs)).all (· ≤ reachBytes) = true)
    (hL : laidMetH Tryz.prog Rows.reelPiecesRow.laid W) (hS : W.ShapedOpen Tryz.prog) :
    Calls Tryz.prog 3 args W fun e W' => ∃ v, e = .returned v ∧ Rows.reelPiecesSpec.post enc Tryz.prog Tryz.f3 false true false false W args v W' := by
  have hW' := hW
  obtain ⟨p, q, hA0, hV, rfl, hfz, hnd⟩ := hW
  have hA : DataW.TrodAll enc Tryz.prog W 0 (fun _ => true) true Tryz.f3.params.toList args.toList ds p := hA0
  rw [Tryz.params3] at hA hval hwt
  obtain ⟨rfl, rfl⟩ := trodVars_none hV
  obtain ⟨v0, v1, d0, d1, p0, p1, rfl, rfl, rfl, h0, h1⟩ := trodAll_two hA
  obtain ⟨e, A, n, c, rfl, hx, hnc, hcm, he⟩ := arg_list (hval 0 25 v0 rfl rfl) h0 (wt_at hwt (i := 0) rfl rfl)
  obtain ⟨a, rfl, ha⟩ := arg_string (hval 1 9 v1 rfl rfl) h1 (wt_at hwt (i := 1) rfl rfl)
  refine (ReelPieces_any e A n c a W (env_of hL hS) hx he).mono fun en W' ⟨he, hx⟩ => ?_
  subst he
  exact ⟨_, rfl, post_true hW' rfl rfl (by kernel_rfl) rfl rfl rfl hx⟩
def wargs : Array Value := #[.agg #[.string ⟨#[]⟩, .int .u8 0, .bool false, .slice none 0 0], .string ⟨#[]⟩]
theorem laid_met (os : Os) : laidMet Tryz.prog Rows.reelPiecesRow.laid ((laidWorld os).forCall (fun _ _ => 0) ⟨#[], wargs, []⟩).memory :=
  laidMet_of_run' 8 (by kernel_rfl) (by kernel_rfl)
theorem reads (os : Os) {H : Type} (enc : TypeId × Value → H) : ∃ places, DataW.whole enc Tryz.prog ((laidWorld os).forCall (fun _ _ => 0) ⟨#[], wargs, []⟩).memory Tryz.f3.params.toList Rows.reelPiecesSpec.vars false wargs.toList 8 = some ([wlist, .lit (.string [])], [], places) :=
  ⟨[], by kernel_rfl⟩
theorem lifted (os : Os) (started : os.Started) (H : Type) (enc : TypeId × Value → H) (F : Stop.Interp) :
    ReturnsInHanded {} Tryz.checked os 3 .any ((OpenSpec.ofChange Rows.reelPiecesSpec).preRow enc Tryz.prog Tryz.f3 Rows.reelPiecesRow.domain false Rows.reelPiecesRow.laid) (((OpenSpec.ofChange Rows.reelPiecesSpec).at F).post enc Tryz.prog Tryz.f3 false true false false) := by
  obtain ⟨places, hx⟩ := reads os enc
  refine returnsInHanded_of_row (C := Tryz.checked) (s := OpenSpec.ofChange Rows.reelPiecesSpec) own started (by kernel_rfl) Tryz.func3
    (witness_row_at (enc := enc) (C := Tryz.checked) false (laidWorld os) wargs rfl (by kernel_rfl) (by kernel_rfl) (by kernel_rfl)
      (OpenSpec.preRow_of_cond 8 hx (by kernel_rfl) (fun k hk => by cases hk) (by kernel_rfl) (laid_met os))) ?_
  intro W base args ds gs before hval hW _ _ hwt hL hS _
  exact contract H enc W base args ds gs before hval hW hwt hL hS
theorem k_inPlace : (Rows.reelPiecesRow.inPlace == Tryz.pinned.checked.prog.inPlace 3) = true := by kernel_rfl
theorem k_unfollowed : (Rows.reelPiecesRow.unfollowed == Tryz.pinned.checked.prog.unfollowed 3) = true := by kernel_rfl
theorem k_recurses : (Rows.reelPiecesRow.recurses == Tryz.pinned.checked.prog.recurses 3) = true := by kernel_rfl
theorem k_named : (Rows.reelPiecesRow.named == Tryz.pinned.checked.prog.varsNamed 3) = true := by kernel_rfl
theorem k_laid : laidOutB Tryz.pinned.checked.prog = true := by kernel_rfl
theorem k_maps : mapsRowed Tryz.pinned.checked.prog = true := by kernel_rfl
theorem closed : joinedFacts Tryz.pinned.checked.prog 3 Tryz.f3 (OpenSpec.ofChange Rows.reelPiecesSpec).bare Rows.reelPiecesRow = true := by
  unfold joinedFacts
  rw [k_laid, k_maps, k_inPlace, k_unfollowed, k_recurses, k_named]
  kernel_rfl
theorem said : Rows.ReelPiecesSaid :=
  OpenClaim.holds_of_cond 3 Tryz.f3 rfl rfl rfl rfl rfl rfl rfl ⟨rfl, rfl, rfl, rfl, rfl⟩ rfl rfl rfl rfl rfl (by kernel_rfl) Tryz.func3 closed
    (of_decide_eq_true (by kernel_rfl)) (by unfold Func.isWrapper; first | (rw [if_pos (by decide +kernel)]; kernel_rfl) | (rw [if_neg (by decide +kernel)]; exact ⟨rfl, rfl⟩))
    (fun os started H enc _ F => by rw [OpenClaim.pre_eq_preRow]; exact lifted os started H enc F)
theorem plain (f : FuncId) (fn : Func) (hf : Tryz.pinned.checked.prog.funcNamed "captioner/captionerlaw45.ReelPieces" = some f) (hfn : Tryz.pinned.checked.prog.funcs[f]? = some fn) :
    false = Tryz.pinned.checked.prog.looks [] ∧ ∀ (j : Nat) t, fn.params[j]? = some t → Tryz.pinned.checked.prog.wantsStandIn t = false := by
  obtain rfl : f = 3 := Option.some.inj ((show Tryz.prog.funcNamed "captioner/captionerlaw45.ReelPieces" = some 3 by kernel_rfl).symm.trans hf) |>.symm
  obtain rfl : fn = Tryz.f3 := (Option.some.inj (Tryz.func3.symm.trans hfn)).symm
  refine ⟨by kernel_rfl, fun j t ht => ?_⟩
  rw [Tryz.params3] at ht
  have hm : t = 25 ∨ t = 9 := by simpa using Array.mem_of_getElem? ht
  rcases hm with rfl | rfl
  · exact (show Tryz.prog.wantsStandIn 25 = false by kernel_rfl)
  · exact (show Tryz.prog.wantsStandIn 9 = false by kernel_rfl)
end Go.Proofs.YtablhmobekmflaaGreatDoor.pieces
namespace Go.Proofs.YtablhmobekmflaaGreatDoor
theorem reelPieces_card : Rows.ReelPiecesCardSaid :=
  Claim7.holds_tied_plain_at .later [] _ _ _ _ pieces.said (fun _ h => by cases h) (by kernel_rfl) (fun _ h => by cases h) reelPieces_row_tie rfl ⟨rfl, rfl⟩ (by kernel_rfl) rfl pieces.plain (by kernel_rfl)
#print axioms reelPieces_card
end Go.Proofs.YtablhmobekmflaaGreatDoor
