/- DocumentKeeps: for every document and every event of bulk at most 1048576 the law returns true and leaves its arguments as they were. Conditions: the bound on the bulk; the two tables of unicode/utf8 hold what the library lays. -/
import Derived.Test.YtagfedbdakmlgaaDoorCards
import Derived.Test.YtagfedbdakmlgaaDoorTie
import Derived.Test.YtagfedbdakmlgaaDoorKe08
import Derived.Test.YtagfedbdakmlgaaDoorKe22
import Derived.Test.YtagfedbdakmlgaaDoorKe21
namespace Go.Proofs.YtagfedbdakmlgaaDoor.keeps12
set_option linter.unusedVariables false
set_option linter.unusedSimpArgs false
open Go.ChangeShapes Go.WideShapes Go.ChangeAt Go.RowKit
set_option maxRecDepth 100000
theorem contract (H : Type) (enc : TypeId × Value → H) (W : World) (base : Nat) (args : Array Value) (ds gs : List (DataW H)) (before : List MemPlace)
    (hval : ∀ (j : Nat) t v, Tryd.f5.params[j]? = some t → args[j]? = some v → Value.okWide Tryd.prog W .any base t v)
    (hW : DataW.Whole enc Tryd.prog Tryd.f5.params.toList Rows.documentKeepsSpec.vars false W args.toList ds gs before)
    (hwt : (DataW.weightsEach Tryd.prog (Tryd.f5.params.toList ++ (Rows.OpenSpec.upto Rows.documentKeepsSpec).bare.plain.varTypes Tryd.prog) (ds ++ gs)).all (· ≤ reachBytes) = true)
    (hL : laidMetH Tryd.prog Rows.documentKeepsUptoRow.laid W) (hS : W.ShapedOpen Tryd.prog) (hk : Rows.uptoSmall H (ds ++ gs) = true) :
    Calls Tryd.prog 5 args W fun e W' => ∃ v, e = .returned v ∧ Rows.documentKeepsSpec.post enc Tryd.prog Tryd.f5 false true false false W args v W' := by
  have hW' := hW
  obtain ⟨p, q, hA0, hV, rfl, hfz, hnd⟩ := hW
  have hA : DataW.TrodAll enc Tryd.prog W 0 (fun _ => true) true Tryd.f5.params.toList args.toList ds p := hA0
  rw [Tryd.params5] at hA hval hwt
  obtain ⟨rfl, rfl⟩ := trodVars_none hV
  obtain ⟨v0, v1, d0, d1, p0, p1, rfl, rfl, rfl, h0, h1⟩ := trodAll_two hA
  have hkb : Rows.uptoBulkAll ([d0, d1] ++ ([] : List (DataW H))) ≤ 1048576 := of_decide_eq_true hk
  obtain ⟨dd, hh, rfl, hx, hi⟩ := argK_doc (hval 0 39 v0 rfl rfl) h0 (wt_at hwt (i := 0) rfl rfl) (Nat.le_trans (bulk_at (i := 0) rfl) hkb)
  obtain ⟨e, A, n, c, rfl, hex, hes, hby⟩ := argK_event (hval 1 45 v1 rfl rfl) h1 (wt_at hwt (i := 1) rfl rfl) (Nat.le_trans (bulk_at (i := 1) rfl) hkb)
  refine (DocumentKeeps_any dd hh e A n c W (env_of hL hS) hx hi hex hes hby).mono fun en W' ⟨he, hx⟩ => ?_
  subst he
  exact ⟨_, rfl, post_true hW' rfl rfl (by kernel_rfl) rfl rfl rfl hx⟩
def wargs : Array Value := #[.agg #[.string ⟨#[]⟩, .string ⟨#[]⟩, .int .u8 0, .bool false, .int .i64 0, .slice none 0 0, .slice none 0 0, .slice none 0 0], .agg evZero]
theorem laid_met (os : Os) : laidMet Tryd.prog Rows.documentKeepsUptoRow.laid ((laidWorld os).forCall (fun _ _ => 0) ⟨#[], wargs, []⟩).memory :=
  laidMet_of_run' 8 (by kernel_rfl) (by kernel_rfl)
theorem reads (os : Os) {H : Type} (enc : TypeId × Value → H) : ∃ places, DataW.whole enc Tryd.prog ((laidWorld os).forCall (fun _ _ => 0) ⟨#[], wargs, []⟩).memory Tryd.f5.params.toList Rows.documentKeepsSpec.vars false wargs.toList 8 = some ([.agg [.lit (.string []), .lit (.string []), .lit (.int .u8 0), .lit (.bool false), .lit (.int .i64 0), .nil, .nil, .nil], wzero], [], places) :=
  ⟨[], by kernel_rfl⟩
theorem lifted (os : Os) (started : os.Started) (H : Type) (enc : TypeId × Value → H) (F : Stop.Interp) :
    ReturnsInHanded {} Tryd.checked os 5 .any ((Rows.OpenSpec.upto Rows.documentKeepsSpec).preRow enc Tryd.prog Tryd.f5 Rows.documentKeepsUptoRow.domain false Rows.documentKeepsUptoRow.laid) (((Rows.OpenSpec.upto Rows.documentKeepsSpec).at F).post enc Tryd.prog Tryd.f5 false true false false) := by
  obtain ⟨places, hx⟩ := reads os enc
  refine returnsInHanded_of_row (C := Tryd.checked) (s := Rows.OpenSpec.upto Rows.documentKeepsSpec) own started (by kernel_rfl) Tryd.func5
    (witness_row_at (enc := enc) (C := Tryd.checked) false (laidWorld os) wargs rfl (by kernel_rfl) (by kernel_rfl) (by kernel_rfl)
      (OpenSpec.preRow_of_cond 8 hx (by kernel_rfl) (fun k hk => by cases hk; kernel_rfl) (by kernel_rfl) (laid_met os))) ?_
  intro W base args ds gs before hval hW _ hcond hwt hL hS _
  exact contract H enc W base args ds gs before hval hW hwt hL hS (hcond _ rfl)
theorem said : Rows.DocumentKeepsUptoSaid :=
  OpenClaim.holds_of_cond 5 Tryd.f5 rfl rfl rfl rfl rfl rfl rfl ⟨rfl, rfl, rfl, rfl, rfl⟩ rfl rfl rfl rfl rfl (by kernel_rfl) Tryd.func5 (by kernel_rfl)
    (of_decide_eq_true (by kernel_rfl)) (by unfold Func.isWrapper; first | (rw [if_pos (by decide +kernel)]; kernel_rfl) | (rw [if_neg (by decide +kernel)]; exact ⟨rfl, rfl⟩))
    (fun os started H enc _ F => by rw [OpenClaim.pre_eq_preRow]; exact lifted os started H enc F)
theorem plain (f : FuncId) (fn : Func) (hf : Tryd.pinned.checked.prog.funcNamed "captioner/captionerlaw12.DocumentKeeps" = some f) (hfn : Tryd.pinned.checked.prog.funcs[f]? = some fn) :
    false = Tryd.pinned.checked.prog.looks [] ∧ ∀ (j : Nat) t, fn.params[j]? = some t → Tryd.pinned.checked.prog.wantsStandIn t = false := by
  obtain rfl : f = 5 := Option.some.inj ((show Tryd.prog.funcNamed "captioner/captionerlaw12.DocumentKeeps" = some 5 by kernel_rfl).symm.trans hf) |>.symm
  obtain rfl : fn = Tryd.f5 := (Option.some.inj (Tryd.func5.symm.trans hfn)).symm
  refine ⟨by kernel_rfl, fun j t ht => ?_⟩
  rw [Tryd.params5] at ht
  have hm : t = 39 ∨ t = 45 := by simpa using Array.mem_of_getElem? ht
  rcases hm with rfl | rfl
  · exact (show Tryd.prog.wantsStandIn 39 = false by kernel_rfl)
  · exact (show Tryd.prog.wantsStandIn 45 = false by kernel_rfl)
end Go.Proofs.YtagfedbdakmlgaaDoor.keeps12
namespace Go.Proofs.YtagfedbdakmlgaaDoor
theorem documentKeepsUpto_card : Rows.DocumentKeepsUptoCardSaid :=
  Claim7.holds_tied_plain_at .later [] _ _ _ _ keeps12.said (fun _ h => by cases h) (by kernel_rfl) (fun _ h => by cases h) documentKeepsUpto_row_tie rfl ⟨rfl, rfl⟩ (by kernel_rfl) rfl keeps12.plain (by kernel_rfl)
#print axioms documentKeepsUpto_card
end Go.Proofs.YtagfedbdakmlgaaDoor
