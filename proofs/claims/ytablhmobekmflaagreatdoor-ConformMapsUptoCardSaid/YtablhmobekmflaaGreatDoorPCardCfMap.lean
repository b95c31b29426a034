/- ConformMaps: for all documents of reels, every list of cuts of bulk at most 1048576 and every number the law returns true and leaves its arguments as they were. Conditions: the bound on the bulk; the two tables of unicode/utf8 and the table of strconv hold what the library lays. -/
import Derived.Test.YtablhmobekmflaaGreatDoorCards
import Derived.Test.YtablhmobekmflaaGreatDoorTie
import Derived.Test.YtablhmobekmflaaGreatDoorCm16
import Derived.Test.YtablhmobekmflaaGreatDoorCm32
set_option linter.unusedVariables false
set_option linter.unusedSimpArgs false
set_option maxRecDepth 100000
namespace Go.Proofs.YtablhmobekmflaaGreatDoor.cfmap
open Go.ChangeShapes Go.WideShapes Go.ChangeAt Go.RowKit
set_option maxRecDepth 100000
theorem contract (H:Type) (enc:TypeId × Value→H) (W:World) (base:Nat) (args:Array Value) (ds gs:List (DataW H)) (before:List MemPlace)
 (hval:∀ (j:Nat) t v,Tryz.f10.params[j]?=some t→args[j]?=some v→Value.okWide Tryz.prog W .any base t v)
 (hW:DataW.Whole enc Tryz.prog Tryz.f10.params.toList Rows.conformMapsSpec.vars false W args.toList ds gs before)
 (hwt:(DataW.weightsEach Tryz.prog (Tryz.f10.params.toList++(Rows.OpenSpec.upto Rows.conformMapsSpec).bare.plain.varTypes Tryz.prog) (ds++gs)).all (·≤reachBytes)=true)
 (hL:laidMetH Tryz.prog Rows.conformMapsUptoRow.laid W) (hS:W.ShapedOpen Tryz.prog) (hk:Rows.uptoSmall H (ds++gs)=true) :
 Calls Tryz.prog 10 args W fun e W'=>∃ v,e = .returned v∧Rows.conformMapsSpec.post enc Tryz.prog Tryz.f10 false true false false W args v W':=by
 have hW':=hW;obtain ⟨p,q,hA0,hV,rfl,hfz,hnd⟩:=hW;have hA:DataW.TrodAll enc Tryz.prog W 0 (fun _=>true) true Tryz.f10.params.toList args.toList ds p:=hA0;rw [Tryz.params10] at hA hval hwt;obtain ⟨rfl,rfl⟩:=trodVars_none hV;obtain ⟨v0,v1,v2,d0,d1,d2,p0,p1,p2,rfl,rfl,rfl,h0,h1,h2⟩:=trodAll_three hA;have hkb:Rows.uptoBulkAll ([d0,d1,d2]++([]:List (DataW H)))≤1048576:=of_decide_eq_true hk;obtain ⟨A,n,c,docs,rfl,hnc,hn,hx,hr⟩:=argK_rdocs (hval 0 44 v0 rfl rfl) h0 (wt_at hwt (i:=0) rfl rfl) (Nat.le_trans (bulk_at (i:=0) rfl) hkb);obtain ⟨e,B,m,d,rfl,he,hmd,hcm,hok⟩:=arg_list (hval 1 25 v1 rfl rfl) h1 (wt_at hwt (i:=1) rfl rfl);obtain ⟨k,rfl,hk1⟩:=arg_int64 (hval 2 2 v2 rfl rfl) h2 (wt_at hwt (i:=2) rfl rfl);(refine (qPf docs A n c e B m d k W (env_of5 hL hS) (tab_of5 hL) hx hr he hok).mono fun en W' ⟨he,hx⟩=>?_);subst he;exact ⟨_,rfl,post_true hW' rfl rfl (by kernel_rfl) rfl rfl rfl hx⟩
def wargs:Array Value:=#[.slice none 0 0,.agg #[.string ⟨#[]⟩,.int .u8 0,.bool false,.slice none 0 0],.int .i64 0]
theorem laid_met (os:Os):laidMet Tryz.prog Rows.conformMapsUptoRow.laid ((qMd os).forCall (fun _ _=>0) ⟨#[],wargs,[]⟩).memory :=
 laidMet_of_run' 8 (by kernel_rfl) (by kernel_rfl)
theorem reads (os:Os) {H:Type} (enc:TypeId × Value→H):∃ places,DataW.whole enc Tryz.prog ((qMd os).forCall (fun _ _=>0) ⟨#[],wargs,[]⟩).memory Tryz.f10.params.toList Rows.conformMapsSpec.vars false wargs.toList 8=some ([.nil,wlist,.lit (.int .i64 0)],[],places) :=
 ⟨[],by kernel_rfl⟩
theorem lifted (os:Os) (started:os.Started) (H:Type) (enc:TypeId × Value→H) (F:Stop.Interp) :
 ReturnsInHanded {} Tryz.checked os 10 .any ((Rows.OpenSpec.upto Rows.conformMapsSpec).preRow enc Tryz.prog Tryz.f10 Rows.conformMapsUptoRow.domain false Rows.conformMapsUptoRow.laid) (((Rows.OpenSpec.upto Rows.conformMapsSpec).at F).post enc Tryz.prog Tryz.f10 false true false false):=by
 obtain ⟨places,hx⟩:=reads os enc
 refine returnsInHanded_of_row (C:=Tryz.checked) (s:=Rows.OpenSpec.upto Rows.conformMapsSpec) own started (by kernel_rfl) Tryz.func10
  (witness_row_at (enc:=enc) (C:=Tryz.checked) false (qMd os) wargs rfl (by kernel_rfl) (by kernel_rfl) (by kernel_rfl)
   (OpenSpec.preRow_of_cond 8 hx (by kernel_rfl) (fun k hk=>by cases hk;kernel_rfl) (by kernel_rfl) (laid_met os))) ?_
 intro W base args ds gs before hval hW _ hcond hwt hL hS _;exact contract H enc W base args ds gs before hval hW hwt hL hS (hcond _ rfl)
theorem k_inPlace:(Rows.conformMapsUptoRow.inPlace == Tryz.pinned.checked.prog.inPlace 10)=true:=by kernel_rfl
theorem k_unfollowed:(Rows.conformMapsUptoRow.unfollowed == Tryz.pinned.checked.prog.unfollowed 10)=true:=by kernel_rfl
theorem k_recurses:(Rows.conformMapsUptoRow.recurses == Tryz.pinned.checked.prog.recurses 10)=true:=by kernel_rfl
theorem k_named:(Rows.conformMapsUptoRow.named == Tryz.pinned.checked.prog.varsNamed 10)=true:=by kernel_rfl
theorem k_laid:laidOutB Tryz.pinned.checked.prog=true:=by kernel_rfl
theorem k_maps:mapsRowed Tryz.pinned.checked.prog=true:=by kernel_rfl
theorem closed:joinedFacts Tryz.pinned.checked.prog 10 Tryz.f10 (Rows.OpenSpec.upto Rows.conformMapsSpec).bare Rows.conformMapsUptoRow=true:=by
 unfold joinedFacts;rw [k_laid,k_maps,k_inPlace,k_unfollowed,k_recurses,k_named]
 kernel_rfl
theorem said:Rows.ConformMapsUptoSaid :=
 OpenClaim.holds_of_cond 10 Tryz.f10 rfl rfl rfl rfl rfl rfl rfl ⟨rfl,rfl,rfl,rfl,rfl⟩ rfl rfl rfl rfl rfl (by kernel_rfl) Tryz.func10 closed
  (of_decide_eq_true (by kernel_rfl)) (by unfold Func.isWrapper;first | (rw [if_pos (by decide +kernel)];kernel_rfl) | (rw [if_neg (by decide +kernel)];exact ⟨rfl,rfl⟩))
  (fun os started H enc _ F=>by rw [OpenClaim.pre_eq_preRow];exact lifted os started H enc F)
theorem plain (f : FuncId) (fn : Func) (hf : Tryz.pinned.checked.prog.funcNamed "captioner/captionerlaw46.ConformMaps" = some f) (hfn : Tryz.pinned.checked.prog.funcs[f]? = some fn) :
 false=Tryz.pinned.checked.prog.looks []∧∀ (j:Nat) t,fn.params[j]?=some t→Tryz.pinned.checked.prog.wantsStandIn t=false:=by
 obtain rfl : f = 10 := Option.some.inj ((show Tryz.prog.funcNamed "captioner/captionerlaw46.ConformMaps" = some 10 by kernel_rfl).symm.trans hf) |>.symm
 obtain rfl:fn=Tryz.f10:=(Option.some.inj (Tryz.func10.symm.trans hfn)).symm;refine ⟨by kernel_rfl,fun j t ht=>?_⟩;rw [Tryz.params10] at ht;(have hm:t=44∨t=25∨t=2:=by simpa using Array.mem_of_getElem? ht)
 rcases hm with rfl | rfl | rfl
 · exact (show Tryz.prog.wantsStandIn 44=false by kernel_rfl)
 · exact (show Tryz.prog.wantsStandIn 25=false by kernel_rfl)
 · exact (show Tryz.prog.wantsStandIn 2=false by kernel_rfl)
end Go.Proofs.YtablhmobekmflaaGreatDoor.cfmap
namespace Go.Proofs.YtablhmobekmflaaGreatDoor
theorem conformMapsUpto_card:Rows.ConformMapsUptoCardSaid :=
 Claim7.holds_tied_plain_at .later [] _ _ _ _ cfmap.said (fun _ h=>by cases h) (by kernel_rfl) (fun _ h=>by cases h) conformMapsUpto_row_tie rfl ⟨rfl,rfl⟩ (by kernel_rfl) rfl cfmap.plain (by kernel_rfl)
#print axioms conformMapsUpto_card
end Go.Proofs.YtablhmobekmflaaGreatDoor