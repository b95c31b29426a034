/- EventReturns: for every event, list of regions and cut of bulk at most 1048576 the law returns true and leaves its arguments as they were. Conditions: the bound on the bulk; the two tables of unicode/utf8 hold what the library lays. -/
import Derived.Test.YtcgflkmkdpgchaaDoorCards
import Derived.Test.YtcgflkmkdpgchaaDoorTie
import Derived.Test.YtcgflkmkdpgchaaDoorOpenE
import Derived.Test.YtcgflkmkdpgchaaDoorLawReturns
import Derived.Test.YtcgflkmkdpgchaaDoorOpenK
namespace Go.Proofs.YtcgflkmkdpgchaaDoor.returns
set_option linter.unusedVariables false
set_option linter.unusedSimpArgs false
open Go.ChangeShapes Go.WideShapes Go.ChangeAt Go.RowKit
set_option maxRecDepth 100000

theorem contract (H : Type) (enc : TypeId × Value → H) (W : World) (base : Nat) (args : Array Value) (ds gs : List (DataW H)) (before : List MemPlace)
    (hval : ∀ (j : Nat) t v, Tryd.f7.params[j]? = some t → args[j]? = some v → Value.okWide Tryd.prog W .any base t v)
    (hW : DataW.Whole enc Tryd.prog Tryd.f7.params.toList Rows.eventReturnsSpec.vars false W args.toList ds gs before)
    (hwt : (DataW.weightsEach Tryd.prog (Tryd.f7.params.toList ++ (Rows.OpenSpec.upto Rows.eventReturnsSpec).bare.plain.varTypes Tryd.prog) (ds ++ gs)).all (· ≤ reachBytes) = true)
    (hL : laidMetH Tryd.prog Rows.eventReturnsUptoRow.laid W) (hS : W.ShapedOpen Tryd.prog) (hk : Rows.uptoSmall H (ds ++ gs) = true) :
    Calls Tryd.prog 7 args W fun e W' => ∃ v, e = .returned v ∧ Rows.eventReturnsSpec.post enc Tryd.prog Tryd.f7 false true false false W args v W' := by
  have hW' := hW
  obtain ⟨p, q, hA0, hV, rfl, hfz, hnd⟩ := hW
  have hA : DataW.TrodAll enc Tryd.prog W 0 (fun _ => true) true Tryd.f7.params.toList args.toList ds p := hA0
  rw [Tryd.params7] at hA hval hwt
  obtain ⟨rfl, rfl⟩ := trodVars_none hV
  obtain ⟨v0, v1, v2, d0, d1, d2, p0, p1, p2, rfl, rfl, rfl, h0, h1, h2⟩ := trodAll_three hA
  have hkb : Rows.uptoBulkAll ([d0, d1, d2] ++ ([] : List (DataW H))) ≤ 1048576 := of_decide_eq_true hk
  obtain ⟨x, A, n, c, rfl, hx, fx, bx⟩ := argK_event (hval 0 27 v0 rfl rfl) h0 (wt_at hwt (i := 0) rfl rfl) (Nat.le_trans (bulk_at (i := 0) rfl) hkb)
  obtain ⟨A2, n2, c2, regs, rfl, hnc2, hn2, hr, hrs⟩ := arg_regions (hval 1 50 v1 rfl rfl) h1 (wt_at hwt (i := 1) rfl rfl)
  obtain ⟨frame, row, id, rfl, hc⟩ := arg_cut (hval 2 29 v2 rfl rfl) h2 (wt_at hwt (i := 2) rfl rfl)
  refine (EventReturns_any x A n c A2 n2 c2 regs frame row id W (env_of hL hS) hx fx bx hr hn2 hrs).mono fun en W' ⟨he, hx⟩ => ?_
  subst he
  exact ⟨_, rfl, post_true hW' rfl rfl (by kernel_rfl) rfl rfl rfl hx⟩

def wargs : Array Value := #[.agg evZero, .slice none 0 0, .agg #[.int .i64 0, .int .i64 0, .int .i64 0]]
theorem laid_met (os : Os) : laidMet Tryd.prog Rows.eventReturnsUptoRow.laid ((laidWorld os).forCall (fun _ _ => 0) ⟨#[], wargs, []⟩).memory :=
  laidMet_of_run' 8 (by kernel_rfl) (by kernel_rfl)
theorem reads (os : Os) {H : Type} (enc : TypeId × Value → H) : ∃ places, DataW.whole enc Tryd.prog ((laidWorld os).forCall (fun _ _ => 0) ⟨#[], wargs, []⟩).memory Tryd.f7.params.toList Rows.eventReturnsSpec.vars false wargs.toList 8 = some ([wzero, .nil, .agg [.lit (.int .i64 0), .lit (.int .i64 0), .lit (.int .i64 0)]], [], places) :=
  ⟨[], by kernel_rfl⟩

theorem lifted (os : Os) (started : os.Started) (H : Type) (enc : TypeId × Value → H) (F : Stop.Interp) :
    ReturnsInHanded {} Tryd.checked os 7 .any ((Rows.OpenSpec.upto Rows.eventReturnsSpec).preRow enc Tryd.prog Tryd.f7 Rows.eventReturnsUptoRow.domain false Rows.eventReturnsUptoRow.laid) (((Rows.OpenSpec.upto Rows.eventReturnsSpec).at F).post enc Tryd.prog Tryd.f7 false true false false) := by
  obtain ⟨places, hx⟩ := reads os enc
  refine returnsInHanded_of_row (C := Tryd.checked) (s := Rows.OpenSpec.upto Rows.eventReturnsSpec) own started (by kernel_rfl) Tryd.func7
    (witness_row_at (enc := enc) (C := Tryd.checked) false (laidWorld os) wargs rfl (by kernel_rfl) (by kernel_rfl) (by kernel_rfl)
      (OpenSpec.preRow_of_cond 8 hx (by kernel_rfl) (fun k hk => by cases hk; kernel_rfl) (by kernel_rfl) (laid_met os))) ?_
  intro W base args ds gs before hval hW _ hcond hwt hL hS _
  exact contract H enc W base args ds gs before hval hW hwt hL hS (hcond _ rfl)

theorem said : Rows.EventReturnsUptoSaid :=
  OpenClaim.holds_of_cond 7 Tryd.f7 rfl rfl rfl rfl rfl rfl rfl ⟨rfl, rfl, rfl, rfl, rfl⟩ rfl rfl rfl rfl rfl (by kernel_rfl) Tryd.func7 (by kernel_rfl)
    (of_decide_eq_true (by kernel_rfl)) (by unfold Func.isWrapper; first | (rw [if_pos (by decide +kernel)]; kernel_rfl) | (rw [if_neg (by decide +kernel)]; exact ⟨rfl, rfl⟩))
    (fun os started H enc _ F => by rw [OpenClaim.pre_eq_preRow]; exact lifted os started H enc F)

theorem plain (f : FuncId) (fn : Func) (hf : Tryd.pinned.checked.prog.funcNamed "captioner/captionerlaw11.EventReturns" = some f) (hfn : Tryd.pinned.checked.prog.funcs[f]? = some fn) :
    false = Tryd.pinned.checked.prog.looks [] ∧ ∀ (j : Nat) t, fn.params[j]? = some t → Tryd.pinned.checked.prog.wantsStandIn t = false := by
  obtain rfl : f = 7 := Option.some.inj ((show Tryd.prog.funcNamed "captioner/captionerlaw11.EventReturns" = some 7 by kernel_rfl).symm.trans hf) |>.symm
  obtain rfl : fn = Tryd.f7 := (Option.some.inj (Tryd.func7.symm.trans hfn)).symm
  refine ⟨by kernel_rfl, fun j t ht => ?_⟩
  rw [Tryd.params7] at ht
  have hm : t = 27 ∨ t = 50 ∨ t = 29 := by simpa using Array.mem_of_getElem? ht
  rcases hm with rfl | rfl | rfl
  · exact (show Tryd.prog.wantsStandIn 27 = false by kernel_rfl)
  · exact (show Tryd.prog.wantsStandIn 50 = false by kernel_rfl)
  · exact (show Tryd.prog.wantsStandIn 29 = false by kernel_rfl)
end Go.Proofs.YtcgflkmkdpgchaaDoor.returns
namespace Go.Proofs.YtcgflkmkdpgchaaDoor
theorem eventReturnsUpto_card : Rows.EventReturnsUptoCardSaid :=
  Claim7.holds_tied_plain_at .later [] _ _ _ _ returns.said (fun _ h => by cases h) (by kernel_rfl) (fun _ h => by cases h) eventReturnsUpto_row_tie rfl ⟨rfl, rfl⟩ (by kernel_rfl) rfl returns.plain (by kernel_rfl)
#print axioms eventReturnsUpto_card
end Go.Proofs.YtcgflkmkdpgchaaDoor
