/- ReelMaps: for every list of cuts, every name and every frame the law returns true and leaves its arguments as they were. Conditions: the two tables of unicode/utf8 hold what the library lays. -/
import Derived.Test.YtablhmobekmflaaDoorCards
import Derived.Test.YtablhmobekmflaaDoorTie
import Derived.Test.YtablhmobekmflaaDoorPk04
import Derived.Test.YtablhmobekmflaaDoorPk08
namespace Go.Proofs.YtablhmobekmflaaDoor.maps
set_option linter.unusedVariables false
set_option linter.unusedSimpArgs false
open Go.ChangeShapes Go.WideShapes Go.ChangeAt Go.RowKit
set_option maxRecDepth 100000
theorem contract (H : Type) (enc : TypeId × Value → H) (W : World) (base : Nat) (args : Array Value) (ds gs : List (DataW H)) (before : List MemPlace)
    (hval : ∀ (j : Nat) t v, Tryd.f3.params[j]? = some t → args[j]? = some v → Value.okWide Tryd.prog W .any base t v)
    (hW : DataW.Whole enc Tryd.prog Tryd.f3.params.toList Rows.reelMapsSpec.vars false W args.toList ds gs before)
    (hwt : (DataW.weightsEach Tryd.prog (Tryd.f3.params.toList ++ (OpenSpec.ofChange Rows.reelMapsSpec).bare.plain.varTypes Tryd.prog) (ds ++ gs)).all (· ≤ reachBytes) = true)
    (hL : laidMetH Tryd.prog Rows.reelMapsRow.laid W) (hS : W.ShapedOpen Tryd.prog) :
    Calls Tryd.prog 3 args W fun e W' => ∃ v, e = .returned v ∧ Rows.reelMapsSpec.post enc Tryd.prog Tryd.f3 false true false false W args v W' := by
  have hW' := hW
  obtain ⟨p, q, hA0, hV, rfl, hfz, hnd⟩ := hW
  have hA : DataW.TrodAll enc Tryd.prog W 0 (fun _ => true) true Tryd.f3.params.toList args.toList ds p := hA0
  rw [Tryd.params3] at hA hval hwt
  obtain ⟨rfl, rfl⟩ := trodVars_none hV
  obtain ⟨v0, v1, v2, d0, d1, d2, p0, p1, p2, rfl, rfl, rfl, h0, h1, h2⟩ := trodAll_three hA
  obtain ⟨e, A, n, c, rfl, hx, hnc, hcm, he⟩ := arg_list (hval 0 25 v0 rfl rfl) h0 (wt_at hwt (i := 0) rfl rfl)
  obtain ⟨a, rfl, ha⟩ := arg_string (hval 1 9 v1 rfl rfl) h1 (wt_at hwt (i := 1) rfl rfl)
  obtain ⟨k, rfl, hk1⟩ := arg_int64 (hval 2 2 v2 rfl rfl) h2 (wt_at hwt (i := 2) rfl rfl)
  refine (ReelMaps_any e A n c a k W (env_of hL hS) hx he).mono fun en W' ⟨he, hx⟩ => ?_
  subst he
  exact ⟨_, rfl, post_true hW' rfl rfl (by kernel_rfl) rfl rfl rfl hx⟩
def wargs : Array Value := #[.agg #[.string ⟨#[]⟩, .int .u8 0, .bool false, .slice none 0 0], .string ⟨#[]⟩, .int .i64 0]
theorem laid_met (os : Os) : laidMet Tryd.prog Rows.reelMapsRow.laid ((laidWorld os).forCall (fun _ _ => 0) ⟨#[], wargs, []⟩).memory :=
  laidMet_of_run' 8 (by kernel_rfl) (by kernel_rfl)
theorem reads (os : Os) {H : Type} (enc : TypeId × Value → H) : ∃ places, DataW.whole enc Tryd.prog ((laidWorld os).forCall (fun _ _ => 0) ⟨#[], wargs, []⟩).memory Tryd.f3.params.toList Rows.reelMapsSpec.vars false wargs.toList 8 = some ([wlist, .lit (.string []), .lit (.int .i64 0)], [], places) :=
  ⟨[], by kernel_rfl⟩
theorem lifted (os : Os) (started : os.Started) (H : Type) (enc : TypeId × Value → H) (F : Stop.Interp) :
    ReturnsInHanded {} Tryd.checked os 3 .any ((OpenSpec.ofChange Rows.reelMapsSpec).preRow enc Tryd.prog Tryd.f3 Rows.reelMapsRow.domain false Rows.reelMapsRow.laid) (((OpenSpec.ofChange Rows.reelMapsSpec).at F).post enc Tryd.prog Tryd.f3 false true false false) := by
  obtain ⟨places, hx⟩ := reads os enc
  refine returnsInHanded_of_row (C := Tryd.checked) (s := OpenSpec.ofChange Rows.reelMapsSpec) own started (by kernel_rfl) Tryd.func3
    (witness_row_at (enc := enc) (C := Tryd.checked) false (laidWorld os) wargs rfl (by kernel_rfl) (by kernel_rfl) (by kernel_rfl)
      (OpenSpec.preRow_of_cond 8 hx (by kernel_rfl) (fun k hk => by cases hk) (by kernel_rfl) (laid_met os))) ?_
  intro W base args ds gs before hval hW _ _ hwt hL hS _
  exact contract H enc W base args ds gs before hval hW hwt hL hS
theorem k_inPlace : (Rows.reelMapsRow.inPlace == Tryd.pinned.checked.prog.inPlace 3) = true := by kernel_rfl
theorem k_unfollowed : (Rows.reelMapsRow.unfollowed == Tryd.pinned.checked.prog.unfollowed 3) = true := by kernel_rfl
theorem k_recurses : (Rows.reelMapsRow.recurses == Tryd.pinned.checked.prog.recurses 3) = true := by kernel_rfl
theorem k_named : (Rows.reelMapsRow.named == Tryd.pinned.checked.prog.varsNamed 3) = true := by kernel_rfl
theorem k_laid : laidOutB Tryd.pinned.checked.prog = true := by kernel_rfl
theorem k_maps : mapsRowed Tryd.pinned.checked.prog = true := by kernel_rfl
theorem closed : joinedFacts Tryd.pinned.checked.prog 3 Tryd.f3 (OpenSpec.ofChange Rows.reelMapsSpec).bare Rows.reelMapsRow = true := by
  unfold joinedFacts
  rw [k_laid, k_maps, k_inPlace, k_unfollowed, k_recurses, k_named]
  kernel_rfl
theorem said : Rows.ReelMapsSaid :=
  OpenClaim.holds_of_cond 3 Tryd.f3 rfl rfl rfl rfl rfl rfl rfl ⟨rfl, rfl, rfl, rfl, rfl⟩ rfl rfl rfl rfl rfl (by kernel_rfl) Tryd.func3 closed
    (of_decide_eq_true (by kernel_rfl)) (by unfold Func.isWrapper; first | (rw [if_pos (by decide +kernel)]; kernel_rfl) | (rw [if_neg (by decide +kernel)]; exact ⟨rfl, rfl⟩))
    (fun os started H enc _ F => by rw [OpenClaim.pre_eq_preRow]; exact lifted os started H enc F)
theorem plain (f : FuncId) (fn : Func) (hf : Tryd.pinned.checked.prog.funcNamed "captioner/captionerlaw45.ReelMaps" = some f) (hfn : Tryd.pinned.checked.prog.funcs[f]? = some fn) :
    false = Tryd.pinned.checked.prog.looks [] ∧ ∀ (j : Nat) t, fn.params[j]? = some t → Tryd.pinned.checked.prog.wantsStandIn t = false := by
  obtain rfl : f = 3 := Option.some.inj ((show Tryd.prog.funcNamed "captioner/captionerlaw45.ReelMaps" = some 3 by kernel_rfl).symm.trans hf) |>.symm
  obtain rfl : fn = Tryd.f3 := (Option.some.inj (Tryd.func3.symm.trans hfn)).symm
  refine ⟨by kernel_rfl, fun j t ht => ?_⟩
  rw [Tryd.params3] at ht
  have hm : t = 25 ∨ t = 9 ∨ t = 2 := by simpa using Array.mem_of_getElem? ht
  rcases hm with rfl | rfl | rfl
  · exact (show Tryd.prog.wantsStandIn 25 = false by kernel_rfl)
  · exact (show Tryd.prog.wantsStandIn 9 = false by kernel_rfl)
  · exact (show Tryd.prog.wantsStandIn 2 = false by kernel_rfl)
end Go.Proofs.YtablhmobekmflaaDoor.maps
namespace Go.Proofs.YtablhmobekmflaaDoor
theorem reelMaps_card : Rows.ReelMapsCardSaid :=
  Claim7.holds_tied_plain_at .later [] _ _ _ _ maps.said (fun _ h => by cases h) (by kernel_rfl) (fun _ h => by cases h) reelMaps_row_tie rfl ⟨rfl, rfl⟩ (by kernel_rfl) rfl maps.plain (by kernel_rfl)
#print axioms reelMaps_card
end Go.Proofs.YtablhmobekmflaaDoor
