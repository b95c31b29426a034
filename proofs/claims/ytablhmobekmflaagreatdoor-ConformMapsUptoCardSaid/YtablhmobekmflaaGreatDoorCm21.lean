/- Texts laid together. -/
import Derived.Test.YtablhmobekmflaaGreatDoorCm20
import Derived.Test.YtablhmobekmflaaGreatDoorCm12
import Derived.Test.YtablhmobekmflaaGreatDoorCm09
import Derived.Test.YtablhmobekmflaaGreatDoorCm05
set_option linter.unusedVariables false
set_option linter.unusedSimpArgs false
set_option maxRecDepth 100000
namespace Go.Proofs.YtablhmobekmflaaGreatDoor
section
open Go.RowKit
theorem rows_len {w:World} {A:Option Addr} {n:Nat} {l:List Row} (h:qFx w A n l):∀ r∈l,r.length≤4611686018427387904:=fun r hr=>by
 obtain ⟨i,hi⟩:=List.getElem?_of_mem hr;have hl:=(List.getElem?_eq_some_iff.1 hi).1;obtain ⟨b,off,x,hA,hx,A',n',c',_,_,h3,h4⟩:=h.at_ (i:=i) (by rw [← h.len];exact hl);rw [hi] at hx
 cases hx
 have:=h4.len;omega
set_option maxHeartbeats 8000000 in
theorem R12com_any (d:Doc) (h:DocH) (k:Nat) (c:Com) (w:World) (hE:Env w) (hat:qHy w d h) (hsm:qNw d.evs) (hn:h.en≤1000000) (hcn:h.cn≤9223372036854775807) (hk:d.coms[k]?=some c) (hco:IW c.id∧IW c.ev∧c.author.size≤9223372036854775807∧c.text.size≤9223372036854775807) :
 Calls Tryz.prog 112 #[.agg (d.cells h),.int .i64 (k:Int)] w fun en w'=>en = .returned (.int .i64 (c.err d.last d.evs (qCb d.coms k)))∧Ext w w':=by
 have HX:=gH ((Ext.refl w).alloc (.cells (d.cells h) 52));have HB:=gH (Blk.new w 52 (d.cells h));have HF:=gH (fun w' (hx:Ext w w') id=>qOt d h id w' (hat.evs.ext hx) hn);have HEv:=gH hat.evs;have HE:=gH hE;have HSm:=gH hsm;have HNm:=gH (fun w'=>qBt c.author w' hco.2.2.1);have HVl:=gH (fun w'=>qEz c.text w' hco.2.2.2);have htx:=hco.2.2.2;have HPv:=gH (fun w' (hx:Ext w w') h0=>prev_com (hat.coms.ext hx) (k:=k) (by have:=hat.coms.len;have:=(List.getElem?_eq_some_iff.1 hk).1;omega) h0);(have hkn:k<h.cn:=by have:=hat.coms.len;have:=(List.getElem?_eq_some_iff.1 hk).1;omega);obtain ⟨cb,coff,c',hca,hc',⟨c0,c1,c2,c3,c4,c5,c6,c7⟩⟩:=hat.coms.at8 hkn;(obtain rfl:c=c':=by rw [hk] at hc';exact Option.some.inj hc');(replace c0:=fun o=>((Ext.refl w).alloc o).cell c0);(replace c1:=fun o=>((Ext.refl w).alloc o).cell c1);(replace c2:=fun o=>((Ext.refl w).alloc o).cell c2);(replace c3:=fun o=>((Ext.refl w).alloc o).cell c3);(replace c4:=fun o=>((Ext.refl w).alloc o).cell c4);(replace c5:=fun o=>((Ext.refl w).alloc o).cell c5);(replace c6:=fun o=>((Ext.refl w).alloc o).cell c6);(replace c7:=fun o=>((Ext.refl w).alloc o).cell c7);have HK:=gH hk;clear hat hsm hE hco hc' hk;obtain ⟨hra,hrn,hrc,hea,hen,hec,hca0,n,hcc⟩:=h;unfold Doc.cells at *;dsimp only at *;subst hca;go_enter Tryz.func112,Tryz.ntmps112
 by_cases h1:c.id<1∨d.last<c.id
 case pos =>
  have H1:=gH (com_1 (evs:=d.evs) (p:=qCb d.coms k) h1)
  rcases h1 with h1 | h1
  · go_wp2_with fail
    go_ret;exact ⟨qAa H1.out.symm,HX.out.alloc _⟩
  · have h1b:¬ c.id<1∨c.id<1:=by omega
    by_cases h1c:c.id<1
    · go_wp2_with fail
      go_ret;exact ⟨qAa H1.out.symm,HX.out.alloc _⟩
    · go_wp2_with fail
      go_ret;exact ⟨qAa H1.out.symm,HX.out.alloc _⟩
 have HA1:=gH h1;(have h1a:¬ c.id<1:=by omega);(have h1b:¬ d.last<c.id:=by omega);clear h1;go_wp2_with fail;clear c0 c1 c2 c3 c4 c5 c6 c7 h1a h1b;have HB_1:=gH (Blk.new' (w:=(w.alloc (.cells #[.string d.title,.string d.lang,.int .u8 d.rate,.bool d.drop,.int .i64 d.last,.slice hra hrn hrc,.slice hea hen hec,.slice (some ⟨cb,coff,none⟩) n hcc] 52))) (g:=w.heap.size+1) (t:=152) (cs:=#[.int .i64 c.id,.int .i64 c.ev,.int .i64 c.fr,.int .i64 c.til,.string c.author,.string c.text,.bool c.done,.bool c.lost]) (by simp));have ha_2:=(Ext.refl (w.alloc (.cells #[.string d.title,.string d.lang,.int .u8 d.rate,.bool d.drop,.int .i64 d.last,.slice hra hrn hrc,.slice hea hen hec,.slice (some ⟨cb,coff,none⟩) n hcc] 52))).alloc (.cells #[.int .i64 c.id,.int .i64 c.ev,.int .i64 c.fr,.int .i64 c.til,.string c.author,.string c.text,.bool c.done,.bool c.lost] 152);have HX_3:=gH (HX.out.trans ha_2);have HB_4:=gH (HB.out.ext ha_2);clear ha_2 HX HB
 by_cases hk0:k=0
 case pos =>
  subst hk0;(have HA2:Hid (¬ ((qCb d.coms 0).map fun q=>decide (c.id≤q))=some true):=by show ¬ _;simp [qCb]);refine qAz ((w.alloc (.cells #[.string d.title,.string d.lang,.int .u8 d.rate,.bool d.drop,.int .i64 d.last,.slice hra hrn hrc,.slice hea hen hec,.slice (some ⟨cb,coff,none⟩) n hcc] 52)).alloc (.cells #[.int .i64 c.id,.int .i64 c.ev,.int .i64 c.fr,.int .i64 c.til,.string c.author,.string c.text,.bool c.done,.bool c.lost] 152)) (Ext.refl _) (by kernel_rfl) (by kernel_rfl) ?_
  repeat (go_big_quiet_step ((fail)))
  refine wpQuiet_nil ?_;rintro _ ⟨⟨w_5,hx_6⟩,rfl⟩
  try dsimp only
  have HX_7:=gH (HX_3.out.trans hx_6);have HB_8:=gH (HB_4.out.ext hx_6);have HB_9:=gH (HB_1.out.ext hx_6);clear hx_6 HX_3 HB_4 HB_1;(have hc_10:=fun o=>HB_9.out.cell o);go_wp2_with (refine qAc rfl 52 (.tmp 2) rfl w.heap.size 52 _ _ (by exact rfl) (by exact HB_8.out) Tryz.underlying52 rfl (by exact qEa) ?_);clear hc_10;refine (HF.out _ HX_7.out _).mono ?_;rintro en w_11 ⟨rfl,hx_12⟩;have HX_13:=gH (HX_7.out.trans hx_12);have HB_14:=gH (HB_8.out.ext hx_12);have HB_15:=gH (HB_9.out.ext hx_12);clear hx_12 HX_7 HB_8 HB_9
  cases hf:(qBu d.evs c.id).isSome
  case true =>
   have HE7:=gH (com_3 HA1.out HA2.out hf);(have hfi:¬ qEy d.evs c.id<0:=by unfold qEy;cases hq:qBu d.evs c.id with | none=>rw [hq] at hf;cases hf | some q=>simp only;omega);clear hf;go_wp2_with fail;go_ret;exact ⟨qAa HE7.out.symm,HX_13.out⟩
  have HA3:=gH hf;(have hfi:qEy d.evs c.id = -1:=by unfold qEy;cases hq:qBu d.evs c.id with | none=>rfl | some q=>rw [hq] at hf;cases hf);rw [hfi];clear hf hfi
  by_cases e1:c.ev<1
  · have HAn:Hid (c.anchorErr d.last d.evs=2):=by show _=_;unfold Com.anchorErr;rw [if_pos (by omega)]
    have HEr:=gH (qIq HA1.out HA2.out HA3.out (by rw [HAn.out];decide));(have hc_16:=fun o=>HB_15.out.cell o);(have hc_17:=fun o=>HB_14.out.cell o);go_wp2_with fail;clear hc_16 hc_17;go_ret;exact ⟨qAa (by rw [HEr.out,HAn.out]),HX_13.out⟩
  by_cases e2:d.last<c.ev
  · have HAn:Hid (c.anchorErr d.last d.evs=2):=by show _=_;unfold Com.anchorErr;rw [if_pos (by omega)]
    have HEr:=gH (qIq HA1.out HA2.out HA3.out (by rw [HAn.out];decide));(have hc_18:=fun o=>HB_15.out.cell o);(have hc_19:=fun o=>HB_14.out.cell o);go_wp2_with fail;clear hc_18 hc_19;go_ret;exact ⟨qAa (by rw [HEr.out,HAn.out]),HX_13.out⟩
  have HA4:Hid (¬ (c.ev<1∨d.last<c.ev)):=by show ¬ _;omega
  cases hlo:c.lost
  case true =>
   by_cases f1:c.fr=0
   case neg =>
    (have f1b:(c.fr != 0)=true:=by simpa using f1);(have HAn:Hid (c.anchorErr d.last d.evs=2):=by show _=_;unfold Com.anchorErr;rw [if_neg HA4.out,if_pos hlo,if_pos (.inl f1)]);have HEr:=gH (qIq HA1.out HA2.out HA3.out (by rw [HAn.out];decide));(have hc_20:=fun o=>HB_15.out.cell o);(have hc_21:=fun o=>HB_14.out.cell o);go_wp2_with fail;clear hc_20 hc_21;go_ret;exact ⟨qAa (by rw [HEr.out,HAn.out]),HX_13.out⟩
   have f1b:(c.fr != 0)=false:=by simpa using f1
   by_cases f2:c.til=0
   case neg =>
    (have f2b:(c.til != 0)=true:=by simpa using f2);(have HAn:Hid (c.anchorErr d.last d.evs=2):=by show _=_;unfold Com.anchorErr;rw [if_neg HA4.out,if_pos hlo,if_pos (.inr f2)]);have HEr:=gH (qIq HA1.out HA2.out HA3.out (by rw [HAn.out];decide));(have hc_22:=fun o=>HB_15.out.cell o);(have hc_23:=fun o=>HB_14.out.cell o);go_wp2_with fail;clear hc_22 hc_23;go_ret;exact ⟨qAa (by rw [HEr.out,HAn.out]),HX_13.out⟩
   (have f2b:(c.til != 0)=false:=by simpa using f2);(have HAn:Hid (c.anchorErr d.last d.evs=0):=by show _=_;unfold Com.anchorErr;rw [if_neg HA4.out,if_pos hlo,if_neg (by omega)]);clear f1 f2;have HTl:=gH (com_r HA1.out HA2.out HA3.out HAn.out);(have hc_24:=fun o=>HB_15.out.cell o);(have hc_25:=fun o=>HB_14.out.cell o);go_wp2_with fail;clear hc_24 hc_25;refine (HNm.out _).mono ?_;rintro en w_26 ⟨rfl,hx_27⟩;have HX_28:=gH (HX_13.out.trans hx_27);have HB_29:=gH (HB_14.out.ext hx_27);have HB_30:=gH (HB_15.out.ext hx_27);clear hx_27 HX_13 HB_14 HB_15
   cases hnm:qBm c.author
   · have HT1:Hid (c.err d.last d.evs (qCb d.coms 0)=5):=by show _=_;rw [HTl.out,if_pos hnm]
     clear hnm;go_wp2_with fail;go_ret;exact ⟨qAa HT1.out.symm,HX_28.out⟩
   have HN1:=gH hnm;clear hnm;(have hc_31:=fun o=>HB_30.out.cell o);go_wp2_with fail;clear hc_31;refine (HVl.out _).mono ?_;rintro en w_32 ⟨rfl,hx_33⟩;have HX_34:=gH (HX_28.out.trans hx_33);have HB_35:=gH (HB_29.out.ext hx_33);have HB_36:=gH (HB_30.out.ext hx_33);clear hx_33 HX_28 HB_29 HB_30
   cases hvl:vld c.text
   · have HT1:Hid (c.err d.last d.evs (qCb d.coms 0)=10):=by show _=_;rw [HTl.out,if_neg (by rw [HN1.out];decide),if_pos hvl]
     clear hvl;go_wp2_with fail;go_ret;exact ⟨qAa HT1.out.symm,HX_34.out⟩
   have HV1:=gH hvl;clear hvl
   cases het:c.text.toList.isEmpty
   case true =>
    (have HT1:Hid (c.err d.last d.evs (qCb d.coms 0)=4):=by show _=_;rw [HTl.out,if_neg (by rw [HN1.out];decide),if_neg (by rw [HV1.out];decide),if_pos het]);(have hc_37:=fun o=>HB_36.out.cell o);go_wp2_with fail;clear hc_37;go_ret;exact ⟨qAa HT1.out.symm,HX_34.out⟩
   by_cases h4:400<c.text.size
   · have h4i:(400:Int)<(c.text.size:Int):=by omega
     (have HT1:Hid (c.err d.last d.evs (qCb d.coms 0)=9):=by show _=_;rw [HTl.out,if_neg (by rw [HN1.out];decide),if_neg (by rw [HV1.out];decide),if_neg (by rw [het];decide),if_pos h4]);clear h4;(have hc_38:=fun o=>HB_36.out.cell o);go_wp2_with fail;clear hc_38;go_ret;exact ⟨qAa HT1.out.symm,HX_34.out⟩
   (have h4i:¬ (400:Int)<(c.text.size:Int):=by omega);(have HT1:Hid (c.err d.last d.evs (qCb d.coms 0)=0):=by show _=_;rw [HTl.out,if_neg (by rw [HN1.out];decide),if_neg (by rw [HV1.out];decide),if_neg (by rw [het];decide),if_neg h4]);clear h4;(have hc_39:=fun o=>HB_36.out.cell o);go_wp2_with fail;clear hc_39;go_ret;exact ⟨qAa HT1.out.symm,HX_34.out⟩
  (have hc_40:=fun o=>HB_15.out.cell o);(have hc_41:=fun o=>HB_14.out.cell o);go_wp2_with (refine qAc rfl 52 (.tmp 2) rfl w.heap.size 52 _ _ (by exact rfl) (by exact HB_14.out) Tryz.underlying52 rfl (by exact qEa) ?_);clear hc_40 hc_41;clear e1 e2;refine (HF.out _ HX_13.out _).mono ?_;rintro en w_42 ⟨rfl,hx_43⟩;have HX_44:=gH (HX_13.out.trans hx_43);have HB_45:=gH (HB_14.out.ext hx_43);have HB_46:=gH (HB_15.out.ext hx_43);clear hx_43 HX_13 HB_14 HB_15
  cases hfe:qBu d.evs c.ev with
  | none =>
   (have hfi:qEy d.evs c.ev = -1:=by unfold qEy;rw [hfe]);(have HAn:Hid (c.anchorErr d.last d.evs=6):=by show _=_;unfold Com.anchorErr;rw [if_neg HA4.out,if_neg (by rw [hlo];decide),hfe]);have HEr:=gH (qIq HA1.out HA2.out HA3.out (by rw [HAn.out];decide));rw [hfi];clear hfe hfi;go_wp2_with fail;go_ret;exact ⟨qAa (by rw [HEr.out,HAn.out]),HX_44.out⟩
  | some m =>
   (have hfi:qEy d.evs c.ev=(m:Int):=by unfold qEy;rw [hfe]);(have hmn:m<hen:=by have:=(List.findIdx?_eq_some_iff_getElem.1 hfe).1;have:=HEv.out.len;omega);(have HAf:Hid (c.anchorErr d.last d.evs=if c.fr<0∨c.til≤c.fr∨(d.evs[m]?.map fun e=>decide (e.len<c.til))=some true then 2 else 0):=by show _=_;unfold Com.anchorErr;rw [if_neg HA4.out,if_neg (by rw [hlo];decide),hfe]);rw [hfi];clear hfe hfi;go_wp2_with fail
   by_cases g1:c.fr<0
   · have HAn:Hid (c.anchorErr d.last d.evs=2):=by show _=_;rw [HAf.out,if_pos (.inl g1)]
     have HEr:=gH (qIq HA1.out HA2.out HA3.out (by rw [HAn.out];decide));(have hr_47:=fun (x:EW w_42) (o:Nat)=>(HB_46.out.ext x.ext).cell o);refine qAz w_42 (Ext.refl _) (by kernel_rfl) (by kernel_rfl) ?_
     repeat (go_big_quiet_step ((fail)))
     refine wpQuiet_nil ?_;rintro _ ⟨⟨w_48,hx_49⟩,rfl⟩
     try dsimp only
     clear hr_47;have HX_50:=gH (HX_44.out.trans hx_49);have HB_51:=gH (HB_45.out.ext hx_49);have HB_52:=gH (HB_46.out.ext hx_49);clear hx_49 HX_44 HB_45 HB_46;go_wp2_with fail;go_ret;exact ⟨qAa (by rw [HEr.out,HAn.out]),HX_50.out⟩
   by_cases g2:c.til≤c.fr
   · have HAn:Hid (c.anchorErr d.last d.evs=2):=by show _=_;rw [HAf.out,if_pos (.inr (.inl g2))]
     have HEr:=gH (qIq HA1.out HA2.out HA3.out (by rw [HAn.out];decide));(have hr_53:=fun (x:EW w_42) (o:Nat)=>(HB_46.out.ext x.ext).cell o);refine qAz w_42 (Ext.refl _) (by kernel_rfl) (by kernel_rfl) ?_
     repeat (go_big_quiet_step ((fail)))
     refine wpQuiet_nil ?_;rintro _ ⟨⟨w_54,hx_55⟩,rfl⟩
     try dsimp only
     clear hr_53;have HX_56:=gH (HX_44.out.trans hx_55);have HB_57:=gH (HB_45.out.ext hx_55);have HB_58:=gH (HB_46.out.ext hx_55);clear hx_55 HX_44 HB_45 HB_46;go_wp2_with fail;go_ret;exact ⟨qAa (by rw [HEr.out,HAn.out]),HX_56.out⟩
   obtain ⟨eb,eoff,x,A',n',c',hea',hxe,hxat,e0,e1,e2,e3,e4,e5,e6⟩:=(HEv.out.ext HX_44.out).at_ev hmn;subst hea'
   have HAg:Hid (c.anchorErr d.last d.evs=if x.len<c.til then 2 else 0):=by
    show _=_
    rw [HAf.out,hxe]
    by_cases hl:x.len<c.til
    · rw [if_pos (.inr (.inr (by simp [hl]))),if_pos hl]
    · rw [if_neg (by simp [hl];omega),if_neg hl]
   have hsx:=HSm.out x (List.mem_of_getElem? hxe);have HLx:=gH (fun (y:EW w_42)=>R11Len_any x A' n' c' y.w (HE.out.ext (HX_44.out.trans y.ext)) (hxat.ext y.ext) hsx.2 (rows_len hxat.1));unfold Ev.cells at HLx;clear hxe hxat hsx;(have hr_59:=fun (x:EW w_42) (o:Nat)=>(HB_46.out.ext x.ext).cell o);(have hr_60:=fun (x:EW w_42) (o:Nat)=>(HB_45.out.ext x.ext).cell o);(have hr_61:=fun (y:EW w_42)=>y.ext.cell e0);(have hr_62:=fun (y:EW w_42)=>y.ext.cell e1);(have hr_63:=fun (y:EW w_42)=>y.ext.cell e2);(have hr_64:=fun (y:EW w_42)=>y.ext.cell e3);(have hr_65:=fun (y:EW w_42)=>y.ext.cell e4);(have hr_66:=fun (y:EW w_42)=>y.ext.cell e5);(have hr_67:=fun (y:EW w_42)=>y.ext.cell e6);refine qAz w_42 (Ext.refl _) (by kernel_rfl) (by kernel_rfl) ?_
   repeat (go_big_quiet_step ((go_at_call 178;exact EW.calls _ (HLx.out _))))
   refine wpQuiet_nil ?_;rintro _ ⟨⟨w_68,hx_69⟩,rfl⟩
   try dsimp only
   clear hr_59 hr_60 hr_61 hr_62 hr_63 hr_64 hr_65 hr_66 hr_67;have HX_70:=gH (HX_44.out.trans hx_69);have HB_71:=gH (HB_45.out.ext hx_69);have HB_72:=gH (HB_46.out.ext hx_69);clear hx_69 HX_44 HB_45 HB_46;clear e0 e1 e2 e3 e4 e5 e6
   by_cases g3:x.len<c.til
   · have HAn:Hid (c.anchorErr d.last d.evs=2):=by show _=_;rw [HAg.out,if_pos g3]
     have HEr:=gH (qIq HA1.out HA2.out HA3.out (by rw [HAn.out];decide));go_wp2_with fail;go_ret;exact ⟨qAa (by rw [HEr.out,HAn.out]),HX_70.out⟩
   (have HAn:Hid (c.anchorErr d.last d.evs=0):=by show _=_;rw [HAg.out,if_neg g3]);have HTl:=gH (com_r HA1.out HA2.out HA3.out HAn.out);(have hc_73:=fun o=>HB_72.out.cell o);(have hc_74:=fun o=>HB_71.out.cell o);go_wp2_with fail;clear hc_73 hc_74;refine (HNm.out _).mono ?_;rintro en w_75 ⟨rfl,hx_76⟩;have HX_77:=gH (HX_70.out.trans hx_76);have HB_78:=gH (HB_71.out.ext hx_76);have HB_79:=gH (HB_72.out.ext hx_76);clear hx_76 HX_70 HB_71 HB_72
   cases hnm:qBm c.author
   · have HT1:Hid (c.err d.last d.evs (qCb d.coms 0)=5):=by show _=_;rw [HTl.out,if_pos hnm]
     clear hnm;go_wp2_with fail;go_ret;exact ⟨qAa HT1.out.symm,HX_77.out⟩
   have HN1:=gH hnm;clear hnm;(have hc_80:=fun o=>HB_79.out.cell o);go_wp2_with fail;clear hc_80;refine (HVl.out _).mono ?_;rintro en w_81 ⟨rfl,hx_82⟩;have HX_83:=gH (HX_77.out.trans hx_82);have HB_84:=gH (HB_78.out.ext hx_82);have HB_85:=gH (HB_79.out.ext hx_82);clear hx_82 HX_77 HB_78 HB_79
   cases hvl:vld c.text
   · have HT1:Hid (c.err d.last d.evs (qCb d.coms 0)=10):=by show _=_;rw [HTl.out,if_neg (by rw [HN1.out];decide),if_pos hvl]
     clear hvl;go_wp2_with fail;go_ret;exact ⟨qAa HT1.out.symm,HX_83.out⟩
   have HV1:=gH hvl;clear hvl
   cases het:c.text.toList.isEmpty
   case true =>
    (have HT1:Hid (c.err d.last d.evs (qCb d.coms 0)=4):=by show _=_;rw [HTl.out,if_neg (by rw [HN1.out];decide),if_neg (by rw [HV1.out];decide),if_pos het]);(have hc_86:=fun o=>HB_85.out.cell o);go_wp2_with fail;clear hc_86;go_ret;exact ⟨qAa HT1.out.symm,HX_83.out⟩
   by_cases h4:400<c.text.size
   · have h4i:(400:Int)<(c.text.size:Int):=by omega
     (have HT1:Hid (c.err d.last d.evs (qCb d.coms 0)=9):=by show _=_;rw [HTl.out,if_neg (by rw [HN1.out];decide),if_neg (by rw [HV1.out];decide),if_neg (by rw [het];decide),if_pos h4]);clear h4;(have hc_87:=fun o=>HB_85.out.cell o);go_wp2_with fail;clear hc_87;go_ret;exact ⟨qAa HT1.out.symm,HX_83.out⟩
   (have h4i:¬ (400:Int)<(c.text.size:Int):=by omega);(have HT1:Hid (c.err d.last d.evs (qCb d.coms 0)=0):=by show _=_;rw [HTl.out,if_neg (by rw [HN1.out];decide),if_neg (by rw [HV1.out];decide),if_neg (by rw [het];decide),if_neg h4]);clear h4;(have hc_88:=fun o=>HB_85.out.cell o);go_wp2_with fail;clear hc_88;go_ret;exact ⟨qAa HT1.out.symm,HX_83.out⟩
 obtain ⟨b',off',q,hA,p0,hq⟩:=HPv.out _ HX_3.out (by omega)
 cases hA
 (have hki:(0:Int)<(k:Int):=by omega);(have hkp:0<k:=by omega);(have hk1:((k:Int)-1).toNat=k-1:=by omega);(have hk2:(k:Int)-1=((k-1:Nat):Int):=by omega);have HQ:=gH hq;clear hq
 by_cases hle:c.id≤q
 · have HE8:=gH (com_2 (evs:=d.evs) HA1.out (show ((qCb d.coms k).map fun q=>decide (c.id≤q))=some true by rw [HQ.out];simp [hle]))
   (have hr_89:=fun (x:EW ((w.alloc (.cells #[.string d.title,.string d.lang,.int .u8 d.rate,.bool d.drop,.int .i64 d.last,.slice hra hrn hrc,.slice hea hen hec,.slice (some ⟨cb,coff,none⟩) n hcc] 52)).alloc (.cells #[.int .i64 c.id,.int .i64 c.ev,.int .i64 c.fr,.int .i64 c.til,.string c.author,.string c.text,.bool c.done,.bool c.lost] 152))) (o:Nat)=>(HB_1.out.ext x.ext).cell o);(have hr_90:=fun (x:EW ((w.alloc (.cells #[.string d.title,.string d.lang,.int .u8 d.rate,.bool d.drop,.int .i64 d.last,.slice hra hrn hrc,.slice hea hen hec,.slice (some ⟨cb,coff,none⟩) n hcc] 52)).alloc (.cells #[.int .i64 c.id,.int .i64 c.ev,.int .i64 c.fr,.int .i64 c.til,.string c.author,.string c.text,.bool c.done,.bool c.lost] 152))) (o:Nat)=>(HB_4.out.ext x.ext).cell o);(have hr_91:=fun (y:EW ((w.alloc (.cells #[.string d.title,.string d.lang,.int .u8 d.rate,.bool d.drop,.int .i64 d.last,.slice hra hrn hrc,.slice hea hen hec,.slice (some ⟨cb,coff,none⟩) n hcc] 52)).alloc (.cells #[.int .i64 c.id,.int .i64 c.ev,.int .i64 c.fr,.int .i64 c.til,.string c.author,.string c.text,.bool c.done,.bool c.lost] 152)))=>y.ext.cell p0)
   refine qAz ((w.alloc (.cells #[.string d.title,.string d.lang,.int .u8 d.rate,.bool d.drop,.int .i64 d.last,.slice hra hrn hrc,.slice hea hen hec,.slice (some ⟨cb,coff,none⟩) n hcc] 52)).alloc (.cells #[.int .i64 c.id,.int .i64 c.ev,.int .i64 c.fr,.int .i64 c.til,.string c.author,.string c.text,.bool c.done,.bool c.lost] 152)) (Ext.refl _) (by kernel_rfl) (by kernel_rfl) ?_
   repeat (go_big_quiet_step ((fail)))
   refine wpQuiet_nil ?_;rintro _ ⟨⟨w_92,hx_93⟩,rfl⟩
   try dsimp only
   clear hr_89 hr_90 hr_91;have HX_94:=gH (HX_3.out.trans hx_93);have HB_95:=gH (HB_4.out.ext hx_93);have HB_96:=gH (HB_1.out.ext hx_93);clear hx_93 HX_3 HB_4 HB_1;go_wp2_with fail;go_ret;exact ⟨qAa HE8.out.symm,HX_94.out⟩
 (have HA2:Hid (¬ ((qCb d.coms k).map fun q=>decide (c.id≤q))=some true):=by show ¬ _;rw [HQ.out];simp;omega);(have hr_97:=fun (x:EW ((w.alloc (.cells #[.string d.title,.string d.lang,.int .u8 d.rate,.bool d.drop,.int .i64 d.last,.slice hra hrn hrc,.slice hea hen hec,.slice (some ⟨cb,coff,none⟩) n hcc] 52)).alloc (.cells #[.int .i64 c.id,.int .i64 c.ev,.int .i64 c.fr,.int .i64 c.til,.string c.author,.string c.text,.bool c.done,.bool c.lost] 152))) (o:Nat)=>(HB_1.out.ext x.ext).cell o);(have hr_98:=fun (x:EW ((w.alloc (.cells #[.string d.title,.string d.lang,.int .u8 d.rate,.bool d.drop,.int .i64 d.last,.slice hra hrn hrc,.slice hea hen hec,.slice (some ⟨cb,coff,none⟩) n hcc] 52)).alloc (.cells #[.int .i64 c.id,.int .i64 c.ev,.int .i64 c.fr,.int .i64 c.til,.string c.author,.string c.text,.bool c.done,.bool c.lost] 152))) (o:Nat)=>(HB_4.out.ext x.ext).cell o);(have hr_99:=fun (y:EW ((w.alloc (.cells #[.string d.title,.string d.lang,.int .u8 d.rate,.bool d.drop,.int .i64 d.last,.slice hra hrn hrc,.slice hea hen hec,.slice (some ⟨cb,coff,none⟩) n hcc] 52)).alloc (.cells #[.int .i64 c.id,.int .i64 c.ev,.int .i64 c.fr,.int .i64 c.til,.string c.author,.string c.text,.bool c.done,.bool c.lost] 152)))=>y.ext.cell p0)
 refine qAz ((w.alloc (.cells #[.string d.title,.string d.lang,.int .u8 d.rate,.bool d.drop,.int .i64 d.last,.slice hra hrn hrc,.slice hea hen hec,.slice (some ⟨cb,coff,none⟩) n hcc] 52)).alloc (.cells #[.int .i64 c.id,.int .i64 c.ev,.int .i64 c.fr,.int .i64 c.til,.string c.author,.string c.text,.bool c.done,.bool c.lost] 152)) (Ext.refl _) (by kernel_rfl) (by kernel_rfl) ?_
 repeat (go_big_quiet_step ((fail)))
 refine wpQuiet_nil ?_;rintro _ ⟨⟨w_100,hx_101⟩,rfl⟩
 try dsimp only
 clear hr_97 hr_98 hr_99;have HX_102:=gH (HX_3.out.trans hx_101);have HB_103:=gH (HB_4.out.ext hx_101);have HB_104:=gH (HB_1.out.ext hx_101);clear hx_101 HX_3 HB_4 HB_1;clear hle p0;(have hc_105:=fun o=>HB_104.out.cell o);go_wp2_with (refine qAc rfl 52 (.tmp 2) rfl w.heap.size 52 _ _ (by exact rfl) (by exact HB_103.out) Tryz.underlying52 rfl (by exact qEa) ?_);clear hc_105;refine (HF.out _ HX_102.out _).mono ?_;rintro en w_106 ⟨rfl,hx_107⟩;have HX_108:=gH (HX_102.out.trans hx_107);have HB_109:=gH (HB_103.out.ext hx_107);have HB_110:=gH (HB_104.out.ext hx_107);clear hx_107 HX_102 HB_103 HB_104
 cases hf:(qBu d.evs c.id).isSome
 case true =>
  have HE7:=gH (com_3 HA1.out HA2.out hf);(have hfi:¬ qEy d.evs c.id<0:=by unfold qEy;cases hq:qBu d.evs c.id with | none=>rw [hq] at hf;cases hf | some q=>simp only;omega);clear hf;go_wp2_with fail;go_ret;exact ⟨qAa HE7.out.symm,HX_108.out⟩
 have HA3:=gH hf;(have hfi:qEy d.evs c.id = -1:=by unfold qEy;cases hq:qBu d.evs c.id with | none=>rfl | some q=>rw [hq] at hf;cases hf);rw [hfi];clear hf hfi
 by_cases e1:c.ev<1
 · have HAn:Hid (c.anchorErr d.last d.evs=2):=by show _=_;unfold Com.anchorErr;rw [if_pos (by omega)]
   have HEr:=gH (qIq HA1.out HA2.out HA3.out (by rw [HAn.out];decide));(have hc_111:=fun o=>HB_110.out.cell o);(have hc_112:=fun o=>HB_109.out.cell o);go_wp2_with fail;clear hc_111 hc_112;go_ret;exact ⟨qAa (by rw [HEr.out,HAn.out]),HX_108.out⟩
 by_cases e2:d.last<c.ev
 · have HAn:Hid (c.anchorErr d.last d.evs=2):=by show _=_;unfold Com.anchorErr;rw [if_pos (by omega)]
   have HEr:=gH (qIq HA1.out HA2.out HA3.out (by rw [HAn.out];decide));(have hc_113:=fun o=>HB_110.out.cell o);(have hc_114:=fun o=>HB_109.out.cell o);go_wp2_with fail;clear hc_113 hc_114;go_ret;exact ⟨qAa (by rw [HEr.out,HAn.out]),HX_108.out⟩
 have HA4:Hid (¬ (c.ev<1∨d.last<c.ev)):=by show ¬ _;omega
 cases hlo:c.lost
 case true =>
  by_cases f1:c.fr=0
  case neg =>
   (have f1b:(c.fr != 0)=true:=by simpa using f1);(have HAn:Hid (c.anchorErr d.last d.evs=2):=by show _=_;unfold Com.anchorErr;rw [if_neg HA4.out,if_pos hlo,if_pos (.inl f1)]);have HEr:=gH (qIq HA1.out HA2.out HA3.out (by rw [HAn.out];decide));(have hc_115:=fun o=>HB_110.out.cell o);(have hc_116:=fun o=>HB_109.out.cell o);go_wp2_with fail;clear hc_115 hc_116;go_ret;exact ⟨qAa (by rw [HEr.out,HAn.out]),HX_108.out⟩
  have f1b:(c.fr != 0)=false:=by simpa using f1
  by_cases f2:c.til=0
  case neg =>
   (have f2b:(c.til != 0)=true:=by simpa using f2);(have HAn:Hid (c.anchorErr d.last d.evs=2):=by show _=_;unfold Com.anchorErr;rw [if_neg HA4.out,if_pos hlo,if_pos (.inr f2)]);have HEr:=gH (qIq HA1.out HA2.out HA3.out (by rw [HAn.out];decide));(have hc_117:=fun o=>HB_110.out.cell o);(have hc_118:=fun o=>HB_109.out.cell o);go_wp2_with fail;clear hc_117 hc_118;go_ret;exact ⟨qAa (by rw [HEr.out,HAn.out]),HX_108.out⟩
  (have f2b:(c.til != 0)=false:=by simpa using f2);(have HAn:Hid (c.anchorErr d.last d.evs=0):=by show _=_;unfold Com.anchorErr;rw [if_neg HA4.out,if_pos hlo,if_neg (by omega)]);clear f1 f2;have HTl:=gH (com_r HA1.out HA2.out HA3.out HAn.out);(have hc_119:=fun o=>HB_110.out.cell o);(have hc_120:=fun o=>HB_109.out.cell o);go_wp2_with fail;clear hc_119 hc_120;refine (HNm.out _).mono ?_;rintro en w_121 ⟨rfl,hx_122⟩;have HX_123:=gH (HX_108.out.trans hx_122);have HB_124:=gH (HB_109.out.ext hx_122);have HB_125:=gH (HB_110.out.ext hx_122);clear hx_122 HX_108 HB_109 HB_110
  cases hnm:qBm c.author
  · have HT1:Hid (c.err d.last d.evs (qCb d.coms k)=5):=by show _=_;rw [HTl.out,if_pos hnm]
    clear hnm;go_wp2_with fail;go_ret;exact ⟨qAa HT1.out.symm,HX_123.out⟩
  have HN1:=gH hnm;clear hnm;(have hc_126:=fun o=>HB_125.out.cell o);go_wp2_with fail;clear hc_126;refine (HVl.out _).mono ?_;rintro en w_127 ⟨rfl,hx_128⟩;have HX_129:=gH (HX_123.out.trans hx_128);have HB_130:=gH (HB_124.out.ext hx_128);have HB_131:=gH (HB_125.out.ext hx_128);clear hx_128 HX_123 HB_124 HB_125
  cases hvl:vld c.text
  · have HT1:Hid (c.err d.last d.evs (qCb d.coms k)=10):=by show _=_;rw [HTl.out,if_neg (by rw [HN1.out];decide),if_pos hvl]
    clear hvl;go_wp2_with fail;go_ret;exact ⟨qAa HT1.out.symm,HX_129.out⟩
  have HV1:=gH hvl;clear hvl
  cases het:c.text.toList.isEmpty
  case true =>
   (have HT1:Hid (c.err d.last d.evs (qCb d.coms k)=4):=by show _=_;rw [HTl.out,if_neg (by rw [HN1.out];decide),if_neg (by rw [HV1.out];decide),if_pos het]);(have hc_132:=fun o=>HB_131.out.cell o);go_wp2_with fail;clear hc_132;go_ret;exact ⟨qAa HT1.out.symm,HX_129.out⟩
  by_cases h4:400<c.text.size
  · have h4i:(400:Int)<(c.text.size:Int):=by omega
    (have HT1:Hid (c.err d.last d.evs (qCb d.coms k)=9):=by show _=_;rw [HTl.out,if_neg (by rw [HN1.out];decide),if_neg (by rw [HV1.out];decide),if_neg (by rw [het];decide),if_pos h4]);clear h4;(have hc_133:=fun o=>HB_131.out.cell o);go_wp2_with fail;clear hc_133;go_ret;exact ⟨qAa HT1.out.symm,HX_129.out⟩
  (have h4i:¬ (400:Int)<(c.text.size:Int):=by omega);(have HT1:Hid (c.err d.last d.evs (qCb d.coms k)=0):=by show _=_;rw [HTl.out,if_neg (by rw [HN1.out];decide),if_neg (by rw [HV1.out];decide),if_neg (by rw [het];decide),if_neg h4]);clear h4;(have hc_134:=fun o=>HB_131.out.cell o);go_wp2_with fail;clear hc_134;go_ret;exact ⟨qAa HT1.out.symm,HX_129.out⟩
 (have hc_135:=fun o=>HB_110.out.cell o);(have hc_136:=fun o=>HB_109.out.cell o);go_wp2_with (refine qAc rfl 52 (.tmp 2) rfl w.heap.size 52 _ _ (by exact rfl) (by exact HB_109.out) Tryz.underlying52 rfl (by exact qEa) ?_);clear hc_135 hc_136;clear e1 e2;refine (HF.out _ HX_108.out _).mono ?_;rintro en w_137 ⟨rfl,hx_138⟩;have HX_139:=gH (HX_108.out.trans hx_138);have HB_140:=gH (HB_109.out.ext hx_138);have HB_141:=gH (HB_110.out.ext hx_138);clear hx_138 HX_108 HB_109 HB_110
 cases hfe:qBu d.evs c.ev with
 | none =>
  (have hfi:qEy d.evs c.ev = -1:=by unfold qEy;rw [hfe]);(have HAn:Hid (c.anchorErr d.last d.evs=6):=by show _=_;unfold Com.anchorErr;rw [if_neg HA4.out,if_neg (by rw [hlo];decide),hfe]);have HEr:=gH (qIq HA1.out HA2.out HA3.out (by rw [HAn.out];decide));rw [hfi];clear hfe hfi;go_wp2_with fail;go_ret;exact ⟨qAa (by rw [HEr.out,HAn.out]),HX_139.out⟩
 | some m =>
  (have hfi:qEy d.evs c.ev=(m:Int):=by unfold qEy;rw [hfe]);(have hmn:m<hen:=by have:=(List.findIdx?_eq_some_iff_getElem.1 hfe).1;have:=HEv.out.len;omega);(have HAf:Hid (c.anchorErr d.last d.evs=if c.fr<0∨c.til≤c.fr∨(d.evs[m]?.map fun e=>decide (e.len<c.til))=some true then 2 else 0):=by show _=_;unfold Com.anchorErr;rw [if_neg HA4.out,if_neg (by rw [hlo];decide),hfe]);rw [hfi];clear hfe hfi;go_wp2_with fail
  by_cases g1:c.fr<0
  · have HAn:Hid (c.anchorErr d.last d.evs=2):=by show _=_;rw [HAf.out,if_pos (.inl g1)]
    have HEr:=gH (qIq HA1.out HA2.out HA3.out (by rw [HAn.out];decide));(have hr_142:=fun (x:EW w_137) (o:Nat)=>(HB_141.out.ext x.ext).cell o);refine qAz w_137 (Ext.refl _) (by kernel_rfl) (by kernel_rfl) ?_
    repeat (go_big_quiet_step ((fail)))
    refine wpQuiet_nil ?_;rintro _ ⟨⟨w_143,hx_144⟩,rfl⟩
    try dsimp only
    clear hr_142;have HX_145:=gH (HX_139.out.trans hx_144);have HB_146:=gH (HB_140.out.ext hx_144);have HB_147:=gH (HB_141.out.ext hx_144);clear hx_144 HX_139 HB_140 HB_141;go_wp2_with fail;go_ret;exact ⟨qAa (by rw [HEr.out,HAn.out]),HX_145.out⟩
  by_cases g2:c.til≤c.fr
  · have HAn:Hid (c.anchorErr d.last d.evs=2):=by show _=_;rw [HAf.out,if_pos (.inr (.inl g2))]
    have HEr:=gH (qIq HA1.out HA2.out HA3.out (by rw [HAn.out];decide));(have hr_148:=fun (x:EW w_137) (o:Nat)=>(HB_141.out.ext x.ext).cell o);refine qAz w_137 (Ext.refl _) (by kernel_rfl) (by kernel_rfl) ?_
    repeat (go_big_quiet_step ((fail)))
    refine wpQuiet_nil ?_;rintro _ ⟨⟨w_149,hx_150⟩,rfl⟩
    try dsimp only
    clear hr_148;have HX_151:=gH (HX_139.out.trans hx_150);have HB_152:=gH (HB_140.out.ext hx_150);have HB_153:=gH (HB_141.out.ext hx_150);clear hx_150 HX_139 HB_140 HB_141;go_wp2_with fail;go_ret;exact ⟨qAa (by rw [HEr.out,HAn.out]),HX_151.out⟩
  obtain ⟨eb,eoff,x,A',n',c',hea',hxe,hxat,e0,e1,e2,e3,e4,e5,e6⟩:=(HEv.out.ext HX_139.out).at_ev hmn;subst hea'
  have HAg:Hid (c.anchorErr d.last d.evs=if x.len<c.til then 2 else 0):=by
   show _=_
   rw [HAf.out,hxe]
   by_cases hl:x.len<c.til
   · rw [if_pos (.inr (.inr (by simp [hl]))),if_pos hl]
   · rw [if_neg (by simp [hl];omega),if_neg hl]
  have hsx:=HSm.out x (List.mem_of_getElem? hxe);have HLx:=gH (fun (y:EW w_137)=>R11Len_any x A' n' c' y.w (HE.out.ext (HX_139.out.trans y.ext)) (hxat.ext y.ext) hsx.2 (rows_len hxat.1));unfold Ev.cells at HLx;clear hxe hxat hsx;(have hr_154:=fun (x:EW w_137) (o:Nat)=>(HB_141.out.ext x.ext).cell o);(have hr_155:=fun (x:EW w_137) (o:Nat)=>(HB_140.out.ext x.ext).cell o);(have hr_156:=fun (y:EW w_137)=>y.ext.cell e0);(have hr_157:=fun (y:EW w_137)=>y.ext.cell e1);(have hr_158:=fun (y:EW w_137)=>y.ext.cell e2);(have hr_159:=fun (y:EW w_137)=>y.ext.cell e3);(have hr_160:=fun (y:EW w_137)=>y.ext.cell e4);(have hr_161:=fun (y:EW w_137)=>y.ext.cell e5);(have hr_162:=fun (y:EW w_137)=>y.ext.cell e6);refine qAz w_137 (Ext.refl _) (by kernel_rfl) (by kernel_rfl) ?_
  repeat (go_big_quiet_step ((go_at_call 178;exact EW.calls _ (HLx.out _))))
  refine wpQuiet_nil ?_;rintro _ ⟨⟨w_163,hx_164⟩,rfl⟩
  try dsimp only
  clear hr_154 hr_155 hr_156 hr_157 hr_158 hr_159 hr_160 hr_161 hr_162;have HX_165:=gH (HX_139.out.trans hx_164);have HB_166:=gH (HB_140.out.ext hx_164);have HB_167:=gH (HB_141.out.ext hx_164);clear hx_164 HX_139 HB_140 HB_141;clear e0 e1 e2 e3 e4 e5 e6
  by_cases g3:x.len<c.til
  · have HAn:Hid (c.anchorErr d.last d.evs=2):=by show _=_;rw [HAg.out,if_pos g3]
    have HEr:=gH (qIq HA1.out HA2.out HA3.out (by rw [HAn.out];decide));go_wp2_with fail;go_ret;exact ⟨qAa (by rw [HEr.out,HAn.out]),HX_165.out⟩
  (have HAn:Hid (c.anchorErr d.last d.evs=0):=by show _=_;rw [HAg.out,if_neg g3]);have HTl:=gH (com_r HA1.out HA2.out HA3.out HAn.out);(have hc_168:=fun o=>HB_167.out.cell o);(have hc_169:=fun o=>HB_166.out.cell o);go_wp2_with fail;clear hc_168 hc_169;refine (HNm.out _).mono ?_;rintro en w_170 ⟨rfl,hx_171⟩;have HX_172:=gH (HX_165.out.trans hx_171);have HB_173:=gH (HB_166.out.ext hx_171);have HB_174:=gH (HB_167.out.ext hx_171);clear hx_171 HX_165 HB_166 HB_167
  cases hnm:qBm c.author
  · have HT1:Hid (c.err d.last d.evs (qCb d.coms k)=5):=by show _=_;rw [HTl.out,if_pos hnm]
    clear hnm;go_wp2_with fail;go_ret;exact ⟨qAa HT1.out.symm,HX_172.out⟩
  have HN1:=gH hnm;clear hnm;(have hc_175:=fun o=>HB_174.out.cell o);go_wp2_with fail;clear hc_175;refine (HVl.out _).mono ?_;rintro en w_176 ⟨rfl,hx_177⟩;have HX_178:=gH (HX_172.out.trans hx_177);have HB_179:=gH (HB_173.out.ext hx_177);have HB_180:=gH (HB_174.out.ext hx_177);clear hx_177 HX_172 HB_173 HB_174
  cases hvl:vld c.text
  · have HT1:Hid (c.err d.last d.evs (qCb d.coms k)=10):=by show _=_;rw [HTl.out,if_neg (by rw [HN1.out];decide),if_pos hvl]
    clear hvl;go_wp2_with fail;go_ret;exact ⟨qAa HT1.out.symm,HX_178.out⟩
  have HV1:=gH hvl;clear hvl
  cases het:c.text.toList.isEmpty
  case true =>
   (have HT1:Hid (c.err d.last d.evs (qCb d.coms k)=4):=by show _=_;rw [HTl.out,if_neg (by rw [HN1.out];decide),if_neg (by rw [HV1.out];decide),if_pos het]);(have hc_181:=fun o=>HB_180.out.cell o);go_wp2_with fail;clear hc_181;go_ret;exact ⟨qAa HT1.out.symm,HX_178.out⟩
  by_cases h4:400<c.text.size
  · have h4i:(400:Int)<(c.text.size:Int):=by omega
    (have HT1:Hid (c.err d.last d.evs (qCb d.coms k)=9):=by show _=_;rw [HTl.out,if_neg (by rw [HN1.out];decide),if_neg (by rw [HV1.out];decide),if_neg (by rw [het];decide),if_pos h4]);clear h4;(have hc_182:=fun o=>HB_180.out.cell o);go_wp2_with fail;clear hc_182;go_ret;exact ⟨qAa HT1.out.symm,HX_178.out⟩
  (have h4i:¬ (400:Int)<(c.text.size:Int):=by omega);(have HT1:Hid (c.err d.last d.evs (qCb d.coms k)=0):=by show _=_;rw [HTl.out,if_neg (by rw [HN1.out];decide),if_neg (by rw [HV1.out];decide),if_neg (by rw [het];decide),if_neg h4]);clear h4;(have hc_183:=fun o=>HB_180.out.cell o);go_wp2_with fail;clear hc_183;go_ret;exact ⟨qAa HT1.out.symm,HX_178.out⟩
end
section
open Go.RowKit
theorem findE_take {l:List Ev} {id:Int} {k q:Nat} (h:qBu (l.take k) id=some q):qBu l id=some q∧q<k:=by
 unfold qBu at *;rw [List.findIdx?_eq_some_iff_getElem] at h;obtain ⟨hq,h1,h2⟩:=h;(have hq':q<k∧q<l.length:=by simp at hq;omega);refine ⟨?_,hq'.1⟩;rw [List.findIdx?_eq_some_iff_getElem];refine ⟨hq'.2,by simpa using h1,fun j hj=>?_⟩;have:=h2 j hj;simpa using this
def R12EvRel (w1:World) (n:Nat) (regs:List Reg) (last:Int) (l:List Ev) (i:Value) (wr:World):Prop :=
 ∃ k:Nat,k≤n∧i = .int .i64 k∧Ext w1 wr∧qCe regs last [] l=qCe regs last (l.take k) (l.drop k)
set_option maxHeartbeats 8000000 in
theorem R12Check_any (d:Doc) (h:DocH) (w:World) (hE:Env w) (hat:qHy w d h) (hf:DocFit d) (hrn:h.rn≤9223372036854775807) (hn:h.en≤1000000) (hcn:h.cn≤9223372036854775807) :
 Calls Tryz.prog 51 #[.agg (d.cells h)] w fun en w'=>en = .returned (.int .i64 d.err)∧Ext w w':=by
 have HX:=gH ((Ext.refl w).alloc (.cells (d.cells h) 52));have HB:=gH (Blk.new w 52 (d.cells h));have HHd:=gH (fun w'=>R12head_any d h w' hf.ok);have HRg:=gH (fun w' (hx:Ext w w')=>qNs h.ra h.rn h.rc d.regs w' (hat.regs.ext hx) hrn hf.regs);have HFd:=gH (fun w' (hx:Ext w w') id=>qOt d h id w' (hat.evs.ext hx) hn);have HCo:=gH (fun w' (hx:Ext w w') k c hk=>R12com_any d h k c w' (hE.ext hx) (hat.ext hx) hf.evs hn hcn hk (hf.coms c (List.mem_of_getElem? hk)));have HEv:=gH hat.evs;have HRs:=gH hat.regs;have HE:=gH hE;have HSm:=gH hf.evs;have HRm:=gH hf.regs;have HEl:=gH hat.evs.len;have HCl:=gH hat.coms.len;have D1:=gH (@doc_1 d);have D2:=gH (@doc_2 d);have D3:=gH (@doc_3 d);have D4:=gH (@doc_4 d);have D5:=gH (@doc_5 d);have HCe:Hid (comsErr d.last d.evs d.coms=if 64<d.coms.length then 9 else qCu d.last d.evs none d.coms):=rfl;clear hat hf hE;obtain ⟨hra,nr,hrc,hea,hen,hec,hca,nc,hcc⟩:=h;unfold Doc.cells at *;dsimp only at *;go_enter Tryz.func51,Tryz.ntmps51;go_wp2_with (refine qAc rfl 52 (.tmp 1) rfl w.heap.size 52 _ _ (by exact rfl) (by exact HB.out) Tryz.underlying52 rfl (by exact qEa) ?_);refine (HHd.out _).mono ?_;rintro en w_1 ⟨rfl,hx_2⟩;have HX_3:=gH (HX.out.trans hx_2);have HB_4:=gH (HB.out.ext hx_2);clear hx_2 HX HB
 by_cases h1:d.headErr=0
 case neg =>
  (have hne:(d.headErr != 0)=true:=by simpa using h1);have HD:=gH (D1.out h1);clear h1;go_wp2_with fail;go_ret;exact ⟨qAa HD.out.symm,HX_3.out⟩
 have H1:=gH h1;rw [h1];clear h1;(have hc_5:=fun o=>HB_4.out.cell o);go_wp2_with fail;clear hc_5;refine (HRg.out _ HX_3.out).mono ?_;rintro en w_6 ⟨rfl,hx_7⟩;have HX_8:=gH (HX_3.out.trans hx_7);have HB_9:=gH (HB_4.out.ext hx_7);clear hx_7 HX_3 HB_4
 by_cases h2:qDh d.regs=0
 case neg =>
  (have hne:(qDh d.regs != 0)=true:=by simpa using h2);have HD:=gH (D2.out H1.out h2);clear h2;go_wp2_with fail;go_ret;exact ⟨qAa HD.out.symm,HX_8.out⟩
 have H2:=gH h2;rw [h2];clear h2
 by_cases h4:400<hen
 · have h4i:(400:Int)<(hen:Int):=by omega
   have HD:=gH (D3.out H1.out H2.out (by rw [HEl.out];exact h4));clear h4;(have hc_10:=fun o=>HB_9.out.cell o);go_wp2_with fail;clear hc_10;go_ret;exact ⟨qAa HD.out.symm,HX_8.out⟩
 (have h4i:¬ (400:Int)<(hen:Int):=by omega);(have H4:Hid (¬ 400<d.evs.length):=by show ¬ _;rw [HEl.out];exact h4);clear h4;(have hc_11:=fun o=>HB_9.out.cell o);go_wp2_with fail;clear hc_11
 go_loopw [28] (fun i wr=>R12EvRel w_6 hen d.regs d.last d.evs i wr) (fun i _=>hen-(intOf i).toNat)
 case atStart=>exact ⟨0,Nat.zero_le _,rfl,Ext.refl _,by simp⟩
 case round =>
  obtain ⟨k,hk,rfl,hx,hP⟩:=hrel;have HP:=gH hP;have HXr:=gH hx;have HXw:=gH (HX_8.out.trans hx);have HBr:=gH (HB_9.out.ext hx);clear hx hP
  by_cases hlt:k<hen
  · obtain ⟨b,off,x,A',n',c',rfl,hxx,hxat,e0,e1,e2,e3,e4,e5,e6⟩:=(HEv.out.ext HXw.out).at_ev hlt
    have hsx:=HSm.out x (List.mem_of_getElem? hxx);have HSt:=gH (evs_step (regs:=d.regs) hxx HP.out);have HCk:=gH (fun w' (hx:Ext wr w')=>R11Check_any x A' n' c' hra nr hrc d.regs w' (HE.out.ext (HXw.out.trans hx)) (hxat.ext hx) hsx.1 hsx.2 (HRs.out.ext (HXw.out.trans hx)) hrn HRm.out);have HPr:=gH (fun w' (hx:Ext wr w') h0=>prev_ev (HEv.out.ext (HXw.out.trans hx)) (k:=k) hk h0);have HXx:=gH hxx;clear hxx hxat hsx;unfold Ev.cells at HCk;have HX0:=gH (Ext.refl wr);have HB_12:=gH (Blk.new wr 64 #[.int .i64 x.id,.int .i64 x.inn,.int .i64 x.out,.string x.region,.int .u8 x.kind,.string x.speaker,.slice A' n' c']);have ha_13:=(Ext.refl wr).alloc (.cells #[.int .i64 x.id,.int .i64 x.inn,.int .i64 x.out,.string x.region,.int .u8 x.kind,.string x.speaker,.slice A' n' c'] 64);have HX_14:=gH (HX0.out.trans ha_13);have HB_15:=gH (HBr.out.ext ha_13);clear ha_13 HX0 HBr;(have hc_16:=fun o=>HB_15.out.cell o);go_wp2_with (refine qAc rfl 64 (.tmp 6) rfl wr.heap.size 64 _ _ (by exact rfl) (by exact HB_12.out) Tryz.underlying64 rfl (by exact qLi) ?_);clear hc_16;clear e0 e1 e2 e3 e4 e5 e6;refine (HCk.out _ HX_14.out).mono ?_;rintro en w_17 ⟨rfl,hx_18⟩;have HX_19:=gH (HX_14.out.trans hx_18);have HB_20:=gH (HB_15.out.ext hx_18);have HB_21:=gH (HB_12.out.ext hx_18);clear hx_18 HX_14 HB_15 HB_12
    by_cases he:x.err d.regs=0
    case neg =>
     (have hne:(x.err d.regs != 0)=true:=by simpa using he);have HN:=gH he;have HEv_:Hid (qFq d.regs d.last (d.evs.take k) x=x.err d.regs):=ev_1 he;have HL:Hid (qCe d.regs d.last [] d.evs=x.err d.regs):=(HSt.out.1 (by rw [HEv_.out];exact HN.out)).trans HEv_.out;have HD:Hid (d.err=x.err d.regs):=(D4.out H1.out H2.out H4.out (by rw [HL.out];exact HN.out)).trans HL.out;clear he;go_wp2_with fail;go_ret;exact ⟨qAa HD.out.symm,HXw.out.trans HX_19.out⟩
    have HE0:=gH he;rw [he];clear he
    by_cases hl:d.last<x.id
    · have HEv_:Hid (qFq d.regs d.last (d.evs.take k) x=2):=ev_2 HE0.out hl
      have HL:Hid (qCe d.regs d.last [] d.evs=2):=(HSt.out.1 (by rw [HEv_.out];decide)).trans HEv_.out;have HD:Hid (d.err=2):=(D4.out H1.out H2.out H4.out (by rw [HL.out];decide)).trans HL.out;(have hc_22:=fun o=>HB_20.out.cell o);(have hc_23:=fun o=>HB_21.out.cell o);go_wp2_with fail;clear hc_22 hc_23;go_ret;exact ⟨qAa HD.out.symm,HXw.out.trans HX_19.out⟩
    have HL0:Hid (¬ d.last<x.id):=by show ¬ _;omega
    by_cases hk0:k=0
    case pos =>
     subst hk0;(have HA2:Hid (¬ ((d.evs.take 0).getLast?.map fun p=>qEl p x)=some false):=by show ¬ _;simp);(have hc_24:=fun o=>HB_20.out.cell o);(have hc_25:=fun o=>HB_21.out.cell o);go_wp2_with fail;clear hc_24 hc_25;refine qAz w_17 (Ext.refl _) (by kernel_rfl) (by kernel_rfl) ?_
     repeat (go_big_quiet_step ((fail)))
     refine wpQuiet_nil ?_;rintro _ ⟨⟨w_26,hx_27⟩,rfl⟩
     try dsimp only
     have HX_28:=gH (HX_19.out.trans hx_27);have HB_29:=gH (HB_20.out.ext hx_27);have HB_30:=gH (HB_21.out.ext hx_27);clear hx_27 HX_19 HB_20 HB_21;(have hc_31:=fun o=>HB_30.out.cell o);go_wp2_with (refine qAc rfl 52 (.tmp 1) rfl w.heap.size 52 _ _ (by exact rfl) (by exact HB_29.out) Tryz.underlying52 rfl (by exact qEa) ?_);clear hc_31;refine (HFd.out _ (HXw.out.trans HX_28.out) _).mono ?_;rintro en w_32 ⟨rfl,hx_33⟩;have HX_34:=gH (HX_28.out.trans hx_33);have HB_35:=gH (HB_29.out.ext hx_33);have HB_36:=gH (HB_30.out.ext hx_33);clear hx_33 HX_28 HB_29 HB_30
     cases hfe:qBu (d.evs.take 0) x.id with
     | some q =>
      have HEv_:Hid (qFq d.regs d.last (d.evs.take 0) x=7):=ev_4 HE0.out (by have:=HL0.out;omega) HA2.out (by rw [hfe];rfl);have HL:Hid (qCe d.regs d.last [] d.evs=7):=(HSt.out.1 (by rw [HEv_.out];decide)).trans HEv_.out;have HD:Hid (d.err=7):=(D4.out H1.out H2.out H4.out (by rw [HL.out];decide)).trans HL.out
      have hfi:(qEy d.evs x.id != (0:Int))=true:=by
       have hq:=findE_take hfe;unfold qEy;rw [hq.1];have:=hq.2;(simp only [bne_iff_ne];omega)
      clear hfe;go_wp2_with fail;go_ret;exact ⟨qAa HD.out.symm,HXw.out.trans HX_34.out⟩
     | none =>
      (have hfi:qEy d.evs x.id=(0:Int):=by unfold qEy;rw [qMe hfe HXx.out rfl];rfl);have HOn:=gH (HSt.out.2 (ev_5 HE0.out (by have:=HL0.out;omega) HA2.out (by rw [hfe];rfl)));rw [hfi];clear hfe hfi;go_wp2_with fail;exact ⟨⟨0+1,by omega,by go_num,HXr.out.trans HX_34.out,HOn.out⟩,by simp [intOf];omega⟩
    obtain ⟨b',off',p,A2,n2,c2,hA,hpc,hpl⟩:=HPr.out _ HX_19.out (by omega)
    cases hA
    (have hki:(0:Int)<(k:Int):=by omega);(have hkp:0<k:=by omega);(have hk1:((k:Int)-1).toNat=k-1:=by omega);(have hk2:(k:Int)-1=((k-1:Nat):Int):=by omega);have HPl:=gH hpl;have HPc:=gH hpc;clear hpl hpc;have HLs:=gH (fun w'=>RLess_any p x A2 n2 c2 A' n' c' w');unfold Ev.cells at HLs
    cases hls:qEl p x
    · have HLq:=gH (fun w=>by have:=HLs.out w;rwa [hls] at this:∀ w,Calls Tryz.prog 110 #[.agg #[.int .i64 p.id,.int .i64 p.inn,.int .i64 p.out,.string p.region,.int .u8 p.kind,.string p.speaker,.slice A2 n2 c2],.agg #[.int .i64 x.id,.int .i64 x.inn,.int .i64 x.out,.string x.region,.int .u8 x.kind,.string x.speaker,.slice A' n' c']] w fun en w'=>en = .returned (.bool false)∧Ext w w')
      have HEv_:Hid (qFq d.regs d.last (d.evs.take k) x=8):=ev_3 HE0.out (by have:=HL0.out;omega) (by rw [HPl.out];simp [hls]);have HL:Hid (qCe d.regs d.last [] d.evs=8):=(HSt.out.1 (by rw [HEv_.out];decide)).trans HEv_.out;have HD:Hid (d.err=8):=(D4.out H1.out H2.out H4.out (by rw [HL.out];decide)).trans HL.out;clear hls;(have hc_37:=fun o=>HB_20.out.cell o);(have hc_38:=fun o=>HB_21.out.cell o);go_wp2_with fail;clear hc_37 hc_38;(have hr_39:=fun (x:EW w_17) (o:Nat)=>(HB_20.out.ext x.ext).cell o);(have hr_40:=fun (x:EW w_17) (o:Nat)=>(HB_21.out.ext x.ext).cell o);(have hr_41:=fun (y:EW w_17)=>y.ext.cell (by simpa using HPc.out 0 _ rfl:w_17.cell? ⟨b,off+(k-1)*7,none⟩=some (.int .i64 p.id)));(have hr_42:=fun (y:EW w_17)=>y.ext.cell (by simpa using HPc.out 1 _ rfl:w_17.cell? ⟨b,off+(k-1)*7+1,none⟩=some (.int .i64 p.inn)));(have hr_43:=fun (y:EW w_17)=>y.ext.cell (by simpa using HPc.out 2 _ rfl:w_17.cell? ⟨b,off+(k-1)*7+1+1,none⟩=some (.int .i64 p.out)));(have hr_44:=fun (y:EW w_17)=>y.ext.cell (by simpa using HPc.out 3 _ rfl:w_17.cell? ⟨b,off+(k-1)*7+3,none⟩=some (.string p.region)));(have hr_45:=fun (y:EW w_17)=>y.ext.cell (by simpa using HPc.out 4 _ rfl:w_17.cell? ⟨b,off+(k-1)*7+4,none⟩=some (.int .u8 p.kind)))
      (have hr_46:=fun (y:EW w_17)=>y.ext.cell (by simpa using HPc.out 5 _ rfl:w_17.cell? ⟨b,off+(k-1)*7+5,none⟩=some (.string p.speaker)));(have hr_47:=fun (y:EW w_17)=>y.ext.cell (by simpa using HPc.out 6 _ rfl:w_17.cell? ⟨b,off+(k-1)*7+6,none⟩=some (.slice A2 n2 c2)));refine qAz w_17 (Ext.refl _) (by kernel_rfl) (by kernel_rfl) ?_
      repeat (go_big_quiet_step ((go_at_call 110;exact EW.calls _ (HLq.out _))))
      refine wpQuiet_nil ?_;rintro _ ⟨⟨w_48,hx_49⟩,rfl⟩
      try dsimp only
      clear hr_39 hr_40 hr_41 hr_42 hr_43 hr_44 hr_45 hr_46 hr_47;have HX_50:=gH (HX_19.out.trans hx_49);have HB_51:=gH (HB_20.out.ext hx_49);have HB_52:=gH (HB_21.out.ext hx_49);clear hx_49 HX_19 HB_20 HB_21;go_wp2_with fail;go_ret;exact ⟨qAa HD.out.symm,HXw.out.trans HX_50.out⟩
    · have HLq:=gH (fun w=>by have:=HLs.out w;rwa [hls] at this:∀ w,Calls Tryz.prog 110 #[.agg #[.int .i64 p.id,.int .i64 p.inn,.int .i64 p.out,.string p.region,.int .u8 p.kind,.string p.speaker,.slice A2 n2 c2],.agg #[.int .i64 x.id,.int .i64 x.inn,.int .i64 x.out,.string x.region,.int .u8 x.kind,.string x.speaker,.slice A' n' c']] w fun en w'=>en = .returned (.bool true)∧Ext w w')
      (have HA2:Hid (¬ ((d.evs.take k).getLast?.map fun p=>qEl p x)=some false):=by show ¬ _;rw [HPl.out];simp [hls]);clear hls;(have hc_53:=fun o=>HB_20.out.cell o);(have hc_54:=fun o=>HB_21.out.cell o);go_wp2_with fail;clear hc_53 hc_54;(have hr_55:=fun (x:EW w_17) (o:Nat)=>(HB_20.out.ext x.ext).cell o);(have hr_56:=fun (x:EW w_17) (o:Nat)=>(HB_21.out.ext x.ext).cell o);(have hr_57:=fun (y:EW w_17)=>y.ext.cell (by simpa using HPc.out 0 _ rfl:w_17.cell? ⟨b,off+(k-1)*7,none⟩=some (.int .i64 p.id)));(have hr_58:=fun (y:EW w_17)=>y.ext.cell (by simpa using HPc.out 1 _ rfl:w_17.cell? ⟨b,off+(k-1)*7+1,none⟩=some (.int .i64 p.inn)));(have hr_59:=fun (y:EW w_17)=>y.ext.cell (by simpa using HPc.out 2 _ rfl:w_17.cell? ⟨b,off+(k-1)*7+1+1,none⟩=some (.int .i64 p.out)));(have hr_60:=fun (y:EW w_17)=>y.ext.cell (by simpa using HPc.out 3 _ rfl:w_17.cell? ⟨b,off+(k-1)*7+3,none⟩=some (.string p.region)));(have hr_61:=fun (y:EW w_17)=>y.ext.cell (by simpa using HPc.out 4 _ rfl:w_17.cell? ⟨b,off+(k-1)*7+4,none⟩=some (.int .u8 p.kind)));(have hr_62:=fun (y:EW w_17)=>y.ext.cell (by simpa using HPc.out 5 _ rfl:w_17.cell? ⟨b,off+(k-1)*7+5,none⟩=some (.string p.speaker)));(have hr_63:=fun (y:EW w_17)=>y.ext.cell (by simpa using HPc.out 6 _ rfl:w_17.cell? ⟨b,off+(k-1)*7+6,none⟩=some (.slice A2 n2 c2)))
      refine qAz w_17 (Ext.refl _) (by kernel_rfl) (by kernel_rfl) ?_
      repeat (go_big_quiet_step ((go_at_call 110;exact EW.calls _ (HLq.out _))))
      refine wpQuiet_nil ?_;rintro _ ⟨⟨w_64,hx_65⟩,rfl⟩
      try dsimp only
      clear hr_55 hr_56 hr_57 hr_58 hr_59 hr_60 hr_61 hr_62 hr_63;have HX_66:=gH (HX_19.out.trans hx_65);have HB_67:=gH (HB_20.out.ext hx_65);have HB_68:=gH (HB_21.out.ext hx_65);clear hx_65 HX_19 HB_20 HB_21;(have hc_69:=fun o=>HB_68.out.cell o);go_wp2_with (refine qAc rfl 52 (.tmp 1) rfl w.heap.size 52 _ _ (by exact rfl) (by exact HB_67.out) Tryz.underlying52 rfl (by exact qEa) ?_);clear hc_69;refine (HFd.out _ (HXw.out.trans HX_66.out) _).mono ?_;rintro en w_70 ⟨rfl,hx_71⟩;have HX_72:=gH (HX_66.out.trans hx_71);have HB_73:=gH (HB_67.out.ext hx_71);have HB_74:=gH (HB_68.out.ext hx_71);clear hx_71 HX_66 HB_67 HB_68
      cases hfe:qBu (d.evs.take k) x.id with
      | some q =>
       have HEv_:Hid (qFq d.regs d.last (d.evs.take k) x=7):=ev_4 HE0.out (by have:=HL0.out;omega) HA2.out (by rw [hfe];rfl);have HL:Hid (qCe d.regs d.last [] d.evs=7):=(HSt.out.1 (by rw [HEv_.out];decide)).trans HEv_.out;have HD:Hid (d.err=7):=(D4.out H1.out H2.out H4.out (by rw [HL.out];decide)).trans HL.out
       have hfi:(qEy d.evs x.id != (k:Int))=true:=by
        have hq:=findE_take hfe;unfold qEy;rw [hq.1];have:=hq.2;(simp only [bne_iff_ne];omega)
       clear hfe;go_wp2_with fail;go_ret;exact ⟨qAa HD.out.symm,HXw.out.trans HX_72.out⟩
      | none =>
       (have hfi:qEy d.evs x.id=(k:Int):=by unfold qEy;rw [qMe hfe HXx.out rfl]);have HOn:=gH (HSt.out.2 (ev_5 HE0.out (by have:=HL0.out;omega) HA2.out (by rw [hfe];rfl)));rw [hfi];clear hfe hfi;go_wp2_with fail;exact ⟨⟨k+1,by omega,by go_num,HXr.out.trans HX_72.out,HOn.out⟩,by simp [intOf];omega⟩
  (have hkn:k=hen:=by omega);subst hkn;have H5:Hid (qCe d.regs d.last [] d.evs=0):=HP.out.trans (by rw [List.drop_eq_nil_of_le (by rw [HEl.out];omega)];rfl);(have HD0:Hid (d.err=if 64<nc then 9 else qCu d.last d.evs none d.coms):=by show _=_;rw [D5.out H1.out H2.out H4.out H5.out,HCe.out,HCl.out])
  by_cases h6:64<nc
  · have h6i:(64:Int)<(nc:Int):=by omega
    have HD:Hid (d.err=9):=HD0.out.trans (if_pos h6);clear h6;(have hc_75:=fun o=>HBr.out.cell o);go_wp2_with fail;clear hc_75;go_ret;exact ⟨qAa HD.out.symm,HXw.out⟩
  (have h6i:¬ (64:Int)<(nc:Int):=by omega);have HD:Hid (d.err=qCu d.last d.evs none d.coms):=HD0.out.trans (if_neg h6);clear h6 HD0;(have hc_76:=fun o=>HBr.out.cell o);go_wp2_with fail;clear hc_76;generalize hwr:wr=w2 at *;clear hwr
  go_loopw [72] (fun i wr=>ComRel w2 nc d.last d.evs d.coms i wr) (fun i _=>nc-(intOf i).toNat)
  case atStart=>exact ⟨0,Nat.zero_le _,rfl,Ext.refl _,by simp [qCb]⟩
  case round =>
   obtain ⟨m,hm,rfl,hx,hQ⟩:=hrel;have HQ:=gH hQ;have HX2:=gH (HXw.out.trans hx);have HB2:=gH (HBr.out.ext hx);have HX2r:=gH hx;clear hx hQ
   by_cases hlt2:m<nc
   · obtain ⟨c,hc⟩:∃ c,d.coms[m]?=some c:=⟨_,List.getElem?_eq_getElem (by rw [HCl.out];exact hlt2)⟩
     have HSt:=gH (coms_step hc HQ.out);have HCc:=gH (fun w' hx=>HCo.out w' hx m c hc);clear hc;have HX9:=gH (Ext.refl wr);go_wp2_with (refine qAc rfl 52 (.tmp 1) rfl w.heap.size 52 _ _ (by exact rfl) (by exact HB2.out) Tryz.underlying52 rfl (by exact qEa) ?_);refine (HCc.out _ HX2.out).mono ?_;rintro en w_77 ⟨rfl,hx_78⟩;have HLast:=gH hx_78;have HX_79:=gH (HX2.out.trans hx_78);have HB_80:=gH (HB2.out.ext hx_78);clear hx_78 HX2 HB2
     by_cases he:c.err d.last d.evs (qCb d.coms m)=0
     case neg =>
      (have hne:(c.err d.last d.evs (qCb d.coms m) != 0)=true:=by simpa using he);have HD9:Hid (d.err=c.err d.last d.evs (qCb d.coms m)):=HD.out.trans (HSt.out.1 he);clear he;go_wp2_with fail;go_ret;exact ⟨qAa HD9.out.symm,HX_79.out⟩
     have HOn:=gH (HSt.out.2 he);rw [he];clear he;go_wp2_with fail;exact ⟨⟨m+1,by omega,by go_num,HX2r.out.trans HLast.out,HOn.out⟩,by simp [intOf];omega⟩
   (have hmn:m=nc:=by omega);subst hmn;have HD9:Hid (d.err=0):=HD.out.trans (HQ.out.trans (by rw [List.drop_eq_nil_of_le (by rw [HCl.out];omega)];rfl));go_wp2_with fail;go_ret;exact ⟨qAa HD9.out.symm,HX2.out⟩
end
end Go.Proofs.YtablhmobekmflaaGreatDoor