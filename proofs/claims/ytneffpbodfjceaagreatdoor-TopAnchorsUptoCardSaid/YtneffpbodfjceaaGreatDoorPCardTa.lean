/- TopAnchors: for every document, remark and list of puts of bulk at most 1048576 the law returns true and leaves its arguments as they were. Conditions: the bound on the bulk; the variables that the row lists hold what the library and the program lay. -/
import Derived.Test.YtneffpbodfjceaaGreatDoorCards
import Derived.Test.YtneffpbodfjceaaGreatDoorTie
import Derived.Test.YtneffpbodfjceaaGreatDoorTa31
set_option linter.unusedVariables false
set_option linter.unusedSimpArgs false
set_option maxRecDepth 100000
set_option maxHeartbeats 16000000
namespace Go.Proofs.YtneffpbodfjceaaGreatDoor.topta
open Go.ChangeShapes Go.WideShapes Go.ChangeAt Go.RowKit
set_option maxRecDepth 100000
theorem contract (H:Type) (enc:TypeId × Value->H) (W:World) (base:Nat) (args:Array Value) (ds gs:List (DataW H)) (before:List MemPlace)
 (hval:∀ (j:Nat) t v,Tryz.f3.params[j]?=some t->args[j]?=some v->Value.okWide Tryz.prog W .any base t v)
 (hW:DataW.Whole enc Tryz.prog Tryz.f3.params.toList Rows.topAnchorsSpec.vars false W args.toList ds gs before)
 (hwt:(DataW.weightsEach Tryz.prog (Tryz.f3.params.toList++(Rows.OpenSpec.upto Rows.topAnchorsSpec).bare.plain.varTypes Tryz.prog) (ds++gs)).all (·<=reachBytes)=true)
 (hL:laidMetH Tryz.prog Rows.topAnchorsUptoRow.laid W) (hS:W.ShapedOpen Tryz.prog) (hk:Rows.uptoSmall H (ds++gs)=true) :
 Calls Tryz.prog 3 args W fun e W'=>∃ v,e = .returned v/\Rows.topAnchorsSpec.post enc Tryz.prog Tryz.f3 false true false false W args v W':=by
 have hW':=hW;obtain ⟨p,q,hA0,hV,rfl,hfz,hnd⟩:=hW;have hA:DataW.TrodAll enc Tryz.prog W 0 (fun _=>true) true Tryz.f3.params.toList args.toList ds p:=hA0;rw [Tryz.params3] at hA hval hwt;obtain ⟨rfl,rfl⟩:=trodVars_none hV;obtain ⟨v0,v1,v2,d0,d1,d2,p0,p1,p2,rfl,rfl,rfl,h0,h1,h2⟩:=trodAll_three hA;have hkb:Rows.uptoBulkAll ([d0,d1,d2]++([]:List (DataW H)))<=1048576:=of_decide_eq_true hk;obtain ⟨dd,hh,rfl,hx,hi⟩:=zJp (hval 0 27 v0 rfl rfl) h0 (zPn hwt (i:=0) rfl rfl) (Nat.le_trans (qXg (i:=0) rfl) hkb);obtain ⟨ev,fr,til,au,tx,rfl,-,-,-,ha,ht⟩:=zBl (hval 1 29 v1 rfl rfl) h1 (zPn hwt (i:=1) rfl rfl);obtain ⟨B,n,q,l,rfl,hl,hpt⟩:=zEl (hval 2 30 v2 rfl rfl) h2 (zPn hwt (i:=2) rfl rfl) (Nat.le_trans (qXg (i:=2) rfl) hkb);(refine (zOi dd hh ev fr til au tx B n q l W (zNx hL hS) (zPi hL) hx hi.fit hi.rc.1 hi.ec hi.cc (by omega) (by omega) hl hpt).mono fun en W' ⟨he,hx⟩=>?_);subst he;exact ⟨_,rfl,zHp hW' rfl rfl (by kernel_rfl) rfl rfl rfl hx⟩
def wargs:Array Value:=#[.agg #[.string ⟨#[]⟩,.string ⟨#[]⟩,.int .u8 0,.bool false,.int .i64 0,.slice none 0 0,.slice none 0 0,.slice none 0 0],.agg #[.int .i64 0,.int .i64 0,.int .i64 0,.string ⟨#[]⟩,.string ⟨#[]⟩],.slice none 0 0]
theorem laid_met (os:Os):laidMet Tryz.prog Rows.topAnchorsUptoRow.laid ((qLi os).forCall (fun _ _=>0) ⟨#[],wargs,[]⟩).memory :=
 laidMet_of_run' 8 (by kernel_rfl) (by kernel_rfl)
theorem reads (os:Os) {H:Type} (enc:TypeId × Value->H):∃ places,DataW.whole enc Tryz.prog ((qLi os).forCall (fun _ _=>0) ⟨#[],wargs,[]⟩).memory Tryz.f3.params.toList Rows.topAnchorsSpec.vars false wargs.toList 8=some ([.agg [.lit (.string []),.lit (.string []),.lit (.int .u8 0),.lit (.bool false),.lit (.int .i64 0),.nil,.nil,.nil],.agg [.lit (.int .i64 0),.lit (.int .i64 0),.lit (.int .i64 0),.lit (.string []),.lit (.string [])],.nil],[],places) :=
 ⟨[],by kernel_rfl⟩
theorem lifted (os:Os) (started:os.Started) (H:Type) (enc:TypeId × Value->H) (F:Stop.Interp) :
 ReturnsInHanded {} Tryz.checked os 3 .any ((Rows.OpenSpec.upto Rows.topAnchorsSpec).preRow enc Tryz.prog Tryz.f3 Rows.topAnchorsUptoRow.domain false Rows.topAnchorsUptoRow.laid) (((Rows.OpenSpec.upto Rows.topAnchorsSpec).at F).post enc Tryz.prog Tryz.f3 false true false false):=by
 obtain ⟨places,hx⟩:=reads os enc
 refine returnsInHanded_of_row (C:=Tryz.checked) (s:=Rows.OpenSpec.upto Rows.topAnchorsSpec) own started (by kernel_rfl) Tryz.func3
  (witness_row_atRef (enc:=enc) (C:=Tryz.checked) false (qLi os) wargs rfl (by kernel_rfl) (by kernel_rfl) (by kernel_rfl)
   (OpenSpec.preRow_of_cond 8 hx (by kernel_rfl) (fun k hk=>by cases hk;kernel_rfl) (by kernel_rfl) (laid_met os))) ?_
 intro W base args ds gs before hval hW _ hcond hwt hL hS _;exact contract H enc W base args ds gs before hval hW hwt hL hS (hcond _ rfl)
theorem k_inPlace:(Rows.topAnchorsUptoRow.inPlace == Tryz.pinned.checked.prog.inPlace 3)=true:=by kernel_rfl
theorem k_unfollowed:(Rows.topAnchorsUptoRow.unfollowed == Tryz.pinned.checked.prog.unfollowed 3)=true:=by kernel_rfl
theorem k_recurses:(Rows.topAnchorsUptoRow.recurses == Tryz.pinned.checked.prog.recurses 3)=true:=by kernel_rfl
theorem k_named:(Rows.topAnchorsUptoRow.named == Tryz.pinned.checked.prog.varsNamed 3)=true:=by kernel_rfl
theorem k_laid:laidOutB Tryz.pinned.checked.prog=true:=by kernel_rfl
theorem k_maps:mapsRowed Tryz.pinned.checked.prog=true:=by kernel_rfl
theorem closed:joinedFacts Tryz.pinned.checked.prog 3 Tryz.f3 (Rows.OpenSpec.upto Rows.topAnchorsSpec).bare Rows.topAnchorsUptoRow=true:=by
 unfold joinedFacts;rw [k_laid,k_maps,k_inPlace,k_unfollowed,k_recurses,k_named]
 kernel_rfl
theorem said:Rows.TopAnchorsUptoSaid :=
 OpenClaim.holds_of_cond 3 Tryz.f3 rfl rfl rfl rfl rfl rfl rfl ⟨rfl,rfl,rfl,rfl,rfl⟩ rfl rfl rfl rfl rfl (by kernel_rfl) Tryz.func3 closed
  (of_decide_eq_true (by kernel_rfl)) (by unfold Func.isWrapper;first | (rw [if_pos (by decide +kernel)];kernel_rfl) | (rw [if_neg (by decide +kernel)];exact ⟨rfl,rfl⟩))
  (fun os started H enc _ F=>by rw [OpenClaim.pre_eq_preRow];exact lifted os started H enc F)
theorem plain (f : FuncId) (fn : Func) (hf : Tryz.pinned.checked.prog.funcNamed "captioner/captionertop.TopAnchors" = some f) (hfn : Tryz.pinned.checked.prog.funcs[f]? = some fn) :
 true=Tryz.pinned.checked.prog.looks []/\∀ (j:Nat) t,fn.params[j]?=some t->Tryz.pinned.checked.prog.wantsStandIn t=false:=by
 obtain rfl : f = 3 := Option.some.inj ((show Tryz.prog.funcNamed "captioner/captionertop.TopAnchors" = some 3 by kernel_rfl).symm.trans hf) |>.symm
 obtain rfl:fn=Tryz.f3:=(Option.some.inj (Tryz.func3.symm.trans hfn)).symm;refine ⟨by kernel_rfl,fun j t ht=>?_⟩;rw [Tryz.params3] at ht;(have hm:t=27\/t=29\/t=30:=by simpa using Array.mem_of_getElem? ht)
 rcases hm with rfl | rfl | rfl
 . exact (show Tryz.prog.wantsStandIn 27=false by kernel_rfl)
 . exact (show Tryz.prog.wantsStandIn 29=false by kernel_rfl)
 . exact (show Tryz.prog.wantsStandIn 30=false by kernel_rfl)
end Go.Proofs.YtneffpbodfjceaaGreatDoor.topta
namespace Go.Proofs.YtneffpbodfjceaaGreatDoor
theorem topAnchorsUpto_card:Rows.TopAnchorsUptoCardSaid :=
 Claim7.holds_tied_plain_at .later [] _ _ _ _ topta.said (fun _ h=>by cases h) (by kernel_rfl) (fun _ h=>by cases h) topAnchorsUpto_row_tie rfl ⟨rfl,rfl⟩ (by kernel_rfl) rfl topta.plain (by kernel_rfl)
#print axioms topAnchorsUpto_card
end Go.Proofs.YtneffpbodfjceaaGreatDoor