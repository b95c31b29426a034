/- TopCarriedMarkup: for every document of bulk at most 1048576 the law returns true and leaves its argument as it was. Conditions: the bound on the bulk; the ten variables that the row lists hold what the library and the program lay. -/
import Derived.Test.YtbmblnhfmpolbaaGreatDoorCards
import Derived.Test.YtbmblnhfmpolbaaGreatDoorTie
import Derived.Test.YtbmblnhfmpolbaaGreatDoorTm03
import Derived.Test.YtbmblnhfmpolbaaGreatDoorTm24
set_option linter.unusedVariables false
set_option linter.unusedSimpArgs false
namespace Go.Proofs.YtbmblnhfmpolbaaGreatDoor.toptm
open Go.ChangeShapes Go.WideShapes Go.ChangeAt Go.RowKit
set_option maxRecDepth 100000
theorem contract (H : Type) (enc : TypeId × Value → H) (W : World) (base : Nat) (args : Array Value) (ds gs : List (DataW H)) (before : List MemPlace)
 (hval : ∀ (j : Nat) t v, Tryz.f3.params[j]? = some t → args[j]? = some v → Value.okWide Tryz.prog W .any base t v)
 (hW : DataW.Whole enc Tryz.prog Tryz.f3.params.toList Rows.topCarriedMarkupSpec.vars false W args.toList ds gs before)
 (hwt : (DataW.weightsEach Tryz.prog (Tryz.f3.params.toList ++ (Rows.OpenSpec.upto Rows.topCarriedMarkupSpec).bare.plain.varTypes Tryz.prog) (ds ++ gs)).all (· ≤ reachBytes) = true)
 (hL : laidMetH Tryz.prog Rows.topCarriedMarkupUptoRow.laid W) (hS : W.ShapedOpen Tryz.prog) (hk : Rows.uptoSmall H (ds ++ gs) = true) :
 Calls Tryz.prog 3 args W fun e W' => ∃ v, e = .returned v ∧ Rows.topCarriedMarkupSpec.post enc Tryz.prog Tryz.f3 false true false false W args v W' := by
 have hW' := hW
 obtain ⟨p, q, hA0, hV, rfl, hfz, hnd⟩ := hW
 have hA : DataW.TrodAll enc Tryz.prog W 0 (fun _ => true) true Tryz.f3.params.toList args.toList ds p := hA0
 rw [Tryz.params3] at hA hval hwt
 obtain ⟨rfl, rfl⟩ := trodVars_none hV
 obtain ⟨v0, d0, rfl, rfl, h0⟩ := trodAll_one hA
 have hkb : Rows.uptoBulkAll ([d0] ++ ([] : List (DataW H))) ≤ 1048576 := of_decide_eq_true hk
 obtain ⟨dd, hh, rfl, hx, hi, ht, hb⟩ := argK_docT (hval 0 27 v0 rfl rfl) h0 (wt_at hwt (i := 0) rfl rfl) (Nat.le_trans (bulk_at (i := 0) rfl) hkb)
 refine (TopCM_any dd hh W (tmw_of10 hL hS) hx hi hb).mono fun en W' ⟨he, hx⟩ => ?_
 subst he
 exact ⟨_, rfl, post_true hW' rfl rfl (by kernel_rfl) rfl rfl rfl hx⟩
def wargs : Array Value := #[.agg #[.string ⟨#[]⟩, .string ⟨#[]⟩, .int .u8 0, .bool false, .int .i64 0, .slice none 0 0, .slice none 0 0, .slice none 0 0]]
theorem laid_met (os : Os) : laidMet Tryz.prog Rows.topCarriedMarkupUptoRow.laid ((laidWorld10 os).forCall (fun _ _ => 0) ⟨#[], wargs, []⟩).memory :=
 laidMet_of_run' 8 (by kernel_rfl) (by kernel_rfl)
theorem reads (os : Os) {H : Type} (enc : TypeId × Value → H) : ∃ places, DataW.whole enc Tryz.prog ((laidWorld10 os).forCall (fun _ _ => 0) ⟨#[], wargs, []⟩).memory Tryz.f3.params.toList Rows.topCarriedMarkupSpec.vars false wargs.toList 8 = some ([.agg [.lit (.string []), .lit (.string []), .lit (.int .u8 0), .lit (.bool false), .lit (.int .i64 0), .nil, .nil, .nil]], [], places) :=
 ⟨[], by kernel_rfl⟩
theorem lifted (os : Os) (started : os.Started) (H : Type) (enc : TypeId × Value → H) (F : Stop.Interp) :
 ReturnsInHanded {} Tryz.checked os 3 .any ((Rows.OpenSpec.upto Rows.topCarriedMarkupSpec).preRow enc Tryz.prog Tryz.f3 Rows.topCarriedMarkupUptoRow.domain false Rows.topCarriedMarkupUptoRow.laid) (((Rows.OpenSpec.upto Rows.topCarriedMarkupSpec).at F).post enc Tryz.prog Tryz.f3 false true false false) := by
 obtain ⟨places, hx⟩ := reads os enc
 refine returnsInHanded_of_row (C := Tryz.checked) (s := Rows.OpenSpec.upto Rows.topCarriedMarkupSpec) own started (by kernel_rfl) Tryz.func3
  (witness_row_atRef (enc := enc) (C := Tryz.checked) false (laidWorld10 os) wargs rfl (by kernel_rfl) (by kernel_rfl) (by kernel_rfl)
   (OpenSpec.preRow_of_cond 8 hx (by kernel_rfl) (fun k hk => by cases hk; kernel_rfl) (by kernel_rfl) (laid_met os))) ?_
 intro W base args ds gs before hval hW _ hcond hwt hL hS _
 exact contract H enc W base args ds gs before hval hW hwt hL hS (hcond _ rfl)
theorem k_inPlace : (Rows.topCarriedMarkupUptoRow.inPlace == Tryz.pinned.checked.prog.inPlace 3) = true := by kernel_rfl
theorem k_unfollowed : (Rows.topCarriedMarkupUptoRow.unfollowed == Tryz.pinned.checked.prog.unfollowed 3) = true := by kernel_rfl
theorem k_recurses : (Rows.topCarriedMarkupUptoRow.recurses == Tryz.pinned.checked.prog.recurses 3) = true := by kernel_rfl
theorem k_named : (Rows.topCarriedMarkupUptoRow.named == Tryz.pinned.checked.prog.varsNamed 3) = true := by kernel_rfl
theorem k_laid : laidOutB Tryz.pinned.checked.prog = true := by kernel_rfl
theorem k_maps : mapsRowed Tryz.pinned.checked.prog = true := by kernel_rfl
theorem closed : joinedFacts Tryz.pinned.checked.prog 3 Tryz.f3 (Rows.OpenSpec.upto Rows.topCarriedMarkupSpec).bare Rows.topCarriedMarkupUptoRow = true := by
 unfold joinedFacts
 rw [k_laid, k_maps, k_inPlace, k_unfollowed, k_recurses, k_named]
 kernel_rfl
theorem said : Rows.TopCarriedMarkupUptoSaid :=
 OpenClaim.holds_of_cond 3 Tryz.f3 rfl rfl rfl rfl rfl rfl rfl ⟨rfl, rfl, rfl, rfl, rfl⟩ rfl rfl rfl rfl rfl (by kernel_rfl) Tryz.func3 closed
  (of_decide_eq_true (by kernel_rfl)) (by unfold Func.isWrapper; first | (rw [if_pos (by decide +kernel)]; kernel_rfl) | (rw [if_neg (by decide +kernel)]; exact ⟨rfl, rfl⟩))
  (fun os started H enc _ F => by rw [OpenClaim.pre_eq_preRow]; exact lifted os started H enc F)
theorem plain (f : FuncId) (fn : Func) (hf : Tryz.pinned.checked.prog.funcNamed "captioner/captionertop.TopCarriedMarkup" = some f) (hfn : Tryz.pinned.checked.prog.funcs[f]? = some fn) :
 true = Tryz.pinned.checked.prog.looks [] ∧ ∀ (j : Nat) t, fn.params[j]? = some t → Tryz.pinned.checked.prog.wantsStandIn t = false := by
 obtain rfl : f = 3 := Option.some.inj ((show Tryz.prog.funcNamed "captioner/captionertop.TopCarriedMarkup" = some 3 by kernel_rfl).symm.trans hf) |>.symm
 obtain rfl : fn = Tryz.f3 := (Option.some.inj (Tryz.func3.symm.trans hfn)).symm
 refine ⟨by kernel_rfl, fun j t ht => ?_⟩
 rw [Tryz.params3] at ht
 have hm : t = 27 := by simpa using Array.mem_of_getElem? ht
 rcases hm with rfl
 exact (show Tryz.prog.wantsStandIn 27 = false by kernel_rfl)
end Go.Proofs.YtbmblnhfmpolbaaGreatDoor.toptm
namespace Go.Proofs.YtbmblnhfmpolbaaGreatDoor
theorem topCarriedMarkupUpto_card : Rows.TopCarriedMarkupUptoCardSaid :=
 Claim7.holds_tied_plain_at .later [] _ _ _ _ toptm.said (fun _ h => by cases h) (by kernel_rfl) (fun _ h => by cases h) topCarriedMarkupUpto_row_tie rfl ⟨rfl, rfl⟩ (by kernel_rfl) rfl toptm.plain (by kernel_rfl)
#print axioms topCarriedMarkupUpto_card
end Go.Proofs.YtbmblnhfmpolbaaGreatDoor