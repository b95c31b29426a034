/- Texts laid together. -/
import Derived.Test.YtablhmobekmflaaGreatDoorCm14
import Derived.Test.YtablhmobekmflaaGreatDoorCm27
import Derived.Test.YtablhmobekmflaaGreatDoorCm28
import Derived.Test.YtablhmobekmflaaGreatDoorCm25
import Derived.Test.YtablhmobekmflaaGreatDoorCm24
import Derived.Test.YtablhmobekmflaaGreatDoorCm22
set_option linter.unusedVariables false
set_option linter.unusedSimpArgs false
set_option maxRecDepth 100000
namespace Go.Proofs.YtablhmobekmflaaGreatDoor
section
open Go.RowKit
set_option maxHeartbeats 4000000 in
theorem R45Pieces_any (e:Edl) (A:Option Addr) (n c:Nat) (s:ByteArray) (w:World) (hE:Env w) (hl:qBd w A n e.cuts) (hn:n≤1000000) (hok:qJr e) :
 Calls Tryz.prog 15 #[.agg (e.cells A n c),.string s] w (LPost Pc.vals 5 (pcsE e s) (qAn e) w):=by
 have HL:=gH hl;have HLn:=gH hl.len;have HX:=gH ((Ext.refl w).alloc (.cells (e.cells A n c) 25));have HB0:=gH (Blk.new w 25 (e.cells A n c));have HCk:=gH (fun w' (hx:Ext w w')=>qGl e A n c w' (hl.ext hx) hn hok.r0 hok.r1 hok.title hok.fits);have HSn:=gH (fun (h:qAn e=0) (c:Cut) (hc:c∈e.cuts)=>qFl h hc);(have HEr:Hid (qAn e≠0→pcsE e s=[]):=fun h=>by unfold pcsE;rw [if_neg h]);(have HOk:Hid (qAn e=0→pcsE e s=pcsC e.cuts s):=fun h=>by unfold pcsE;rw [if_pos h]);(have HFew:Hid (qAn e=0→¬ 64<e.cuts.length):=fun h=>(qEm h).2.2.2.1);clear hl hok hE;unfold LPost;unfold Edl.cells at *;go_enter Tryz.func15,Tryz.ntmps15;go_wp2_with (refine qAc rfl 25 (.tmp 2) rfl w.heap.size 25 _ _ (by exact rfl) (by exact HB0.out) Tryz.underlying25 rfl (by exact qBl) ?_);refine (HCk.out _ HX.out).mono ?_;rintro en w1 ⟨rfl,hx1⟩;have HX1:=gH (HX.out.trans hx1);have HBl:=gH (HB0.out.ext hx1);clear hx1 HB0 HX HCk
 by_cases hee:qAn e=0
 case neg =>
  (have hne:(qAn e != 0)=true:=by simpa using hee);have HZ:=gH (HEr.out hee);clear hee;go_wp2_with fail;go_ret2;exact ⟨none,0,by rw [HZ.out];rfl,by rw [HZ.out];exact Sl.nil,by rw [HZ.out];exact Nat.le_refl _,HX1.out,fun ad h=>by cases h⟩
 have HSn:=gH (HSn.out hee);have hfew:=HFew.out hee;have HZ:=gH (HOk.out hee);rw [hee];have HE0:=gH hee;clear hee HEr HOk HFew;(have hn64:n≤64:=by have:=HLn.out;omega);clear hfew;(have hcell1:=fun o=>HBl.out.cell o);have hz1:=HX1.out.size;go_wp2_with fail;clear hcell1
 go_loopw [7,18] (fun v i wr=>LRel Pc.vals 5 95 w1 n (fun k=>pcsC (e.cuts.take k) s) v i wr) (fun _ i _=>n-(intOf i).toNat)
 case atStart=>exact ⟨0,Nat.zero_le _,rfl,Ext.refl _,⟨rfl,.inl ⟨rfl,rfl⟩⟩⟩
 case round =>
  obtain ⟨k,hk,rfl,hx,hown⟩:=hrel;have HXr:=gH hx;have HO:=gH hown;have hjl:=pcsC_len e.cuts s k;have hzr:=hx.size;dsimp only at HO;clear hx hown
  by_cases hlt:k<n
  · obtain ⟨b,off,r,rfl,hr,c0,c1,c2,c3,c4,c5,c6⟩:=(HL.out.ext (HX1.out.trans HXr.out)).at7 hlt
    have HBc:=gH (Blk.new wr 91 r.cells);have HXc:=gH ((Ext.refl wr).alloc (.cells r.cells 91));have HSr:=gH (HSn.out r (List.mem_of_getElem? hr));unfold Cut.cells at HBc HXc
    by_cases he:r.reel=s
    · skip
      (have he':(r.reel.toList == s.toList)=true:=by rw [qHu];simpa using he);have HT:=gH (pcsC_yes hr he);clear hr he;generalize pcsC (e.cuts.take k) s=os at *;unfold Cut.pc at HT;go_upto_region 9 with fail;have HO2:=gH (qAh HO.out HXc.out);have hz2:=HXc.out.size;obtain ⟨W2,hW2⟩:∃ W2,W2=wr.alloc (.cells #[.int .i64 r.num,.string r.reel,.int .i64 r.src,.int .i64 r.inn,.int .i64 r.out,.int .i64 r.n,.int .i64 r.d] 91):=⟨_,rfl⟩;rw [← hW2] at HBc HXc HO2 hz2 ⊢;clear hW2;(have hcl:=fun o=>HBc.out.cell o);go_wp2_with (at_builtin;refine qAf rfl (.tmp 26) (.tmp 38) 30 rfl info_pc Tryz.underlying30 rfl (by decide) (HO2.out.alloc _) (by exact rfl) W2.heap.size _ (by exact rfl) (by exact Blk.new' rfl) (by exact rfl) (by simp [Value.oneCell']) (by omega) (by simp [maxLen]<;>omega) (by first | omega | (simp;omega) | simp) ?_;intro v5 w5 hown5 hgr;have HO5:=gH hown5;have HX5:=gH (Ext.grown ((HXr.out.trans HXc.out).alloc _) hgr (fun q hq=>qAp HO.out q hq));clear hown5 hgr);exact ⟨⟨k+1,by omega,by go_num,HX5.out,by dsimp only;rw [HT.out,List.length_append,List.flatMap_append];exact HO5.out⟩,by simp [intOf];omega⟩
    · have he':(r.reel.toList == s.toList)=false:=by rw [qHu];simpa using he
      have HT:=gH (pcsC_no hr he);clear hr he;go_wp2_with fail;exact ⟨⟨k+1,by omega,by go_num,HXr.out.trans HXc.out,by dsimp only;rw [HT.out];exact qAh HO.out HXc.out⟩,by simp [intOf];omega⟩
  · have hkn:k=n:=by omega
    subst hkn;(have HTk:Hid ((pcsC (e.cuts.take k) s)=pcsC e.cuts s):=by show _=_;rw [List.take_of_length_le (by have:=HLn.out;omega)]);rw [HTk.out] at HO hjl;obtain ⟨A',c',rfl,hc,_,hS,hfr⟩:=qBg (f:=Pc.vals) (size:=5) (fun _=>rfl) rfl HO.out;have HR:=gH (And.intro hc (And.intro hS (And.intro hfr (HX1.out.trans HXr.out))));clear hc hS hfr HO;go_wp2_with fail;go_ret2;exact ⟨A',c',by rw [HZ.out,HE0.out];rfl,by rw [HZ.out];exact HR.out.2.1,by rw [HZ.out];exact HR.out.1,HR.out.2.2.2,fun ad h=>Nat.le_trans hz1 (HR.out.2.2.1 ad h)⟩
set_option maxHeartbeats 4000000 in
theorem R45Played_any (e:Edl) (A:Option Addr) (n c:Nat) (s:ByteArray) (w:World) (hE:Env w) (hl:qBd w A n e.cuts) (hn:n≤1000000) (hok:qJr e) :
 Calls Tryz.prog 19 #[.agg (e.cells A n c),.string s] w (LPost Spn.vals 2 (plE e s) (qAn e) w):=by
 have HL:=gH hl;have HLn:=gH hl.len;have HX:=gH ((Ext.refl w).alloc (.cells (e.cells A n c) 25));have HB0:=gH (Blk.new w 25 (e.cells A n c));have HCk:=gH (fun w' (hx:Ext w w')=>qGl e A n c w' (hl.ext hx) hn hok.r0 hok.r1 hok.title hok.fits);have HSn:=gH (fun (h:qAn e=0) (c:Cut) (hc:c∈e.cuts)=>qFl h hc);(have HEr:Hid (qAn e≠0→plE e s=[]):=fun h=>by unfold plE;rw [if_neg h]);(have HOk:Hid (qAn e=0→plE e s=qDf (plC e.cuts s)):=fun h=>by unfold plE;rw [if_pos h]);(have HFew:Hid (qAn e=0→¬ 64<e.cuts.length):=fun h=>(qEm h).2.2.2.1);clear hl hok hE;unfold LPost;unfold Edl.cells at *;go_enter Tryz.func19,Tryz.ntmps19;go_wp2_with (refine qAc rfl 25 (.tmp 2) rfl w.heap.size 25 _ _ (by exact rfl) (by exact HB0.out) Tryz.underlying25 rfl (by exact qBl) ?_);refine (HCk.out _ HX.out).mono ?_;rintro en w1 ⟨rfl,hx1⟩;have HX1:=gH (HX.out.trans hx1);have HBl:=gH (HB0.out.ext hx1);clear hx1 HB0 HX HCk
 by_cases hee:qAn e=0
 case neg =>
  (have hne:(qAn e != 0)=true:=by simpa using hee);have HZ:=gH (HEr.out hee);clear hee;go_wp2_with fail;go_ret2;exact ⟨none,0,by rw [HZ.out];rfl,by rw [HZ.out];exact Sl.nil,by rw [HZ.out];exact Nat.le_refl _,HX1.out,fun ad h=>by cases h⟩
 have HSn:=gH (HSn.out hee);have hfew:=HFew.out hee;have HZ:=gH (HOk.out hee);rw [hee];have HE0:=gH hee;clear hee HEr HOk HFew;(have hn64:n≤64:=by have:=HLn.out;omega);clear hfew;(have hcell1:=fun o=>HBl.out.cell o);have hz1:=HX1.out.size;go_wp2_with fail;clear hcell1
 go_loopw [7,18] (fun v i wr=>LRel Spn.vals 2 60 w1 n (fun k=>plC (e.cuts.take k) s) v i wr) (fun _ i _=>n-(intOf i).toNat)
 case atStart=>exact ⟨0,Nat.zero_le _,rfl,Ext.refl _,⟨rfl,.inl ⟨rfl,rfl⟩⟩⟩
 case round =>
  obtain ⟨k,hk,rfl,hx,hown⟩:=hrel;have HXr:=gH hx;have HO:=gH hown;have hjl:=plC_len e.cuts s k;have hzr:=hx.size;dsimp only at HO;clear hx hown
  by_cases hlt:k<n
  · obtain ⟨b,off,r,rfl,hr,c0,c1,c2,c3,c4,c5,c6⟩:=(HL.out.ext (HX1.out.trans HXr.out)).at7 hlt
    have HBc:=gH (Blk.new wr 91 r.cells);have HXc:=gH ((Ext.refl wr).alloc (.cells r.cells 91));have HSr:=gH (HSn.out r (List.mem_of_getElem? hr));unfold Cut.cells at HBc HXc
    by_cases he:r.reel=s
    · skip
      (have he':(r.reel.toList == s.toList)=true:=by rw [qHu];simpa using he);have HT:=gH (plC_yes hr he);clear hr he;generalize plC (e.cuts.take k) s=os at *;have HSo:=gH (fun w'=>Played_any r (r.out-1) w' HSr.out (by have:=HSr.out.2.1;omega) (by omega));have hsb:=srcAt_bd HSr.out (t:=r.out-1) (by have:=HSr.out.2.1;omega) (by omega);have hob:=HSr.out.2.2.1;have hob2:=HSr.out.2.1;have hob3:=HSr.out.1;unfold Cut.pl at HT;unfold Cut.cells at HSo;go_upto_region 9 with fail;generalize hsa:qFr r (r.out-1)=sa at *;clear hsa;have HO2:=gH (qAh HO.out HXc.out);have hz2:=HXc.out.size;obtain ⟨W2,hW2⟩:∃ W2,W2=wr.alloc (.cells #[.int .i64 r.num,.string r.reel,.int .i64 r.src,.int .i64 r.inn,.int .i64 r.out,.int .i64 r.n,.int .i64 r.d] 91):=⟨_,rfl⟩;rw [← hW2] at HBc HXc HO2 hz2 ⊢;clear hW2
      refine qAy [some 26,some 27,some 28,some 29,some 30,some 31,some 32,some 33,some 34,some 35,some 36,some 37,some 38,some 7] [[],[],[1],[],[],[4],[5],[6],[3,7],[8],[2,9],[10],[0,11,8],[12,12,0,1,2,3,4,5,6,7,8,9,10,11,12]] [8,11,12,13] [u7,.pointer (some ⟨wr.heap.size,2,none⟩),.int .i64 r.src,.agg #[.int .i64 r.num,.string r.reel,.int .i64 r.src,.int .i64 r.inn,.int .i64 r.out,.int .i64 r.n,.int .i64 r.d],.pointer (some ⟨wr.heap.size,3,none⟩),.pointer (some ⟨wr.heap.size,3+1,none⟩),.int .i64 r.out,.int .i64 (r.out-1),undef,.int .i64 (sa+1),.agg #[.int .i64 r.src,.int .i64 (sa+1)],undef,undef,undef] (PyJ sa #[.int .i64 r.src,.int .i64 (sa+1)] w1.heap.size u7 os.length (os.flatMap Spn.vals) W2) (by kernel_rfl) (by kernel_rfl) (by kernel_rfl) (by kernel_rfl) (by kernel_rfl) (by kernel_rfl) (by kernel_rfl) (by decide) ?_ ?_ ?_ ?_
      · exact PyJ.start W2
      · intro i o ho hc a w' us K' hJ hF hlim hk
        match i,ho with
        | 0,ho =>
         simp only [gA,gB,gC,gD] at ho;subst ho;have e7:=hF.olds 3 13 7 (u7) rfl rfl (hlim 3 13 rfl rfl) rfl;simp only [Act.eval] at e7;clear hF hlim hJ;go_simp;exact hk
        | 1,ho =>
         simp only [gA,gB,gC,gD] at ho;subst ho;have e9:=hF.old 9 (.pointer (some ⟨wr.heap.size,0,none⟩)) rfl rfl;simp only [Act.eval] at e9;clear hF hlim hJ;go_simp;exact hk
        | 2,ho =>
         simp only [gA,gB,gC,gD] at ho;subst ho;have e27:=hF.pure 1 27 (.pointer (some ⟨wr.heap.size,2,none⟩)) rfl rfl rfl rfl;have hcl:=(HBc.out.only hJ.only (by decide)).cell 2;simp only [gA,gB,gC] at hcl;simp only [Act.eval] at e27;clear hF hlim hJ;go_simp;exact hk
        | 3,ho =>
         simp only [gA,gB,gC,gD] at ho;subst ho;have e9:=hF.old 9 (.pointer (some ⟨wr.heap.size,0,none⟩)) rfl rfl;exact qCd 91 (.tmp 9) rfl wr.heap.size 91 _ _ e9 (HBc.out.only hJ.only (by decide)) Tryz.underlying91 rfl (by exact qCk) hk
        | 4,ho =>
         simp only [gA,gB,gC,gD] at ho;subst ho;have e9:=hF.old 9 (.pointer (some ⟨wr.heap.size,0,none⟩)) rfl rfl;simp only [Act.eval] at e9;clear hF hlim hJ;go_simp;exact hk
        | 5,ho =>
         simp only [gA,gB,gC,gD] at ho;subst ho;have e30:=hF.pure 4 30 (.pointer (some ⟨wr.heap.size,3,none⟩)) rfl rfl rfl rfl;simp only [Act.eval] at e30;clear hF hlim hJ;go_simp;exact hk
        | 6,ho =>
         simp only [gA,gB,gC,gD] at ho;subst ho;have e31:=hF.pure 5 31 (.pointer (some ⟨wr.heap.size,3+1,none⟩)) rfl rfl rfl rfl;have hcl:=(HBc.out.only hJ.only (by decide)).cell 4;simp only [gA,gB,gC] at hcl;simp only [Act.eval] at e31;clear hF hlim hJ;go_simp;exact hk
        | 7,ho =>
         simp only [gA,gB,gC,gD] at ho;subst ho;have e32:=hF.pure 6 32 (.int .i64 r.out) rfl rfl rfl rfl;exact qCh rfl e32 rfl (by first | (go_simp;done) | (go_simp;exact qCq (by omega) (by omega))) hk
        | 8,ho=>simp at hc
        | 9,ho =>
         simp only [gA,gB,gC,gD] at ho;subst ho;obtain ⟨v34,hv34⟩:=qBq (hF.did 0 8 rfl rfl);have e34:=hF.link 0 8 34 _ rfl rfl rfl hv34;have hu:=hJ.val v34 hv34;subst hu;exact qCh rfl e34 rfl (by first | (go_simp;done) | (go_simp;exact qCq (by omega) (by omega))) hk
        | 10,ho =>
         simp only [gA,gB,gC,gD] at ho;subst ho;have e28:=hF.pure 2 28 (.int .i64 r.src) rfl rfl rfl rfl;have e35:=hF.pure 9 35 (.int .i64 (sa+1)) rfl rfl rfl rfl;simp [Act.eval] at e28 e35;clear hF hlim hJ;go_simp;exact hk
        | 11,ho | 12,ho | 13,ho=>simp at hc
        | i+14,ho=>simp at ho
      · intro p c' o hp ho a w' us K' hl hJ hF hk
        match p,hp with
        | 0,hp =>
         (obtain rfl:8=c':=by simpa using hp);simp only [gA,gB,gC,gD] at ho;subst ho;obtain rfl:us=[]:=List.eq_nil_of_length_eq_zero hl;have e29:=hF.pure 3 29 (.agg #[.int .i64 r.num,.string r.reel,.int .i64 r.src,.int .i64 r.inn,.int .i64 r.out,.int .i64 r.n,.int .i64 r.d]) rfl rfl rfl rfl;have e33:=hF.pure 7 33 (.int .i64 (r.out-1)) rfl rfl rfl rfl;exact qDc rfl e29 e33 Tryz.call46 (HSo.out _) (fun w5 hx5=>hk _ w5 (hJ.call hx5))
        | 1,hp =>
         (obtain rfl:11=c':=by simpa using hp);simp only [gA,gB,gC,gD] at ho;subst ho;obtain ⟨u0,rfl⟩:=qEq hl;have e36:=hF.pure 10 36 (.agg #[.int .i64 r.src,.int .i64 (sa+1)]) rfl rfl rfl rfl;have HK:=gH (hk (.slice (some ⟨w'.heap.size,0,none⟩) 1 1) (w'.alloc (.cells #[.int .i64 r.src,.int .i64 (sa+1)] 60)) hJ.build);simp [Act.eval] at e36;clear hk hF hJ;go_simp;exact HK.out
        | 2,hp =>
         (obtain rfl:12=c':=by simpa using hp);simp only [gA,gB,gC,gD] at ho;subst ho;obtain ⟨u0,u1,rfl⟩:=qEo hl;obtain ⟨⟨g8,rfl,hB8⟩,hx8⟩:=hJ.st;have e26:=hF.pure 0 26 (u7) rfl rfl rfl rfl;have e37:=hF.link 1 11 37 _ rfl rfl rfl rfl;exact qHw (.tmp 26) (.tmp 37) 35 rfl qBe Tryz.underlying35 rfl (by decide) (qAh HO2.out hx8) e26 g8 _ e37 hB8 rfl (by simp [Value.oneCell']) (by omega) (by simp [maxLen];omega) (by have:=hx8.size;omega) (fun v' w9 ho9 hg9=>hk v' w9 (hJ.app (qAj (qAh HO2.out hx8)) hg9 ho9))
        | 3,hp =>
         (obtain rfl:13=c':=by simpa using hp);simp only [gA,gB,gC,gD] at ho;subst ho;obtain ⟨u0,u1,u2,rfl⟩:=qHg hl;have e38:=hF.link 2 12 38 _ rfl rfl rfl rfl;exact qCi _ _ rfl e38 (hk _ _ hJ.asg)
        | p+4,hp=>simp at hp
      intro us w5 hl hJ;obtain ⟨uu0,uu1,uu2,uu3,rfl⟩:=qLr hl
      first | (rename_i hK;refine hK _ _ ?_;clear hK) | (rename_i hK hK_1;refine hK _ _ ?_;clear hK) | (rename_i hK hK_1 hK_2;refine hK _ _ ?_;clear hK) | (rename_i hK hK_1 hK_2 hK_3;refine hK _ _ ?_;clear hK)
      generalize hL:qDx _ _ _ _=L;obtain rfl:L=[(26,u7),(27,.pointer (some ⟨wr.heap.size,2,none⟩)),(28,.int .i64 r.src),(29,.agg #[.int .i64 r.num,.string r.reel,.int .i64 r.src,.int .i64 r.inn,.int .i64 r.out,.int .i64 r.n,.int .i64 r.d]),(30,.pointer (some ⟨wr.heap.size,3,none⟩)),(31,.pointer (some ⟨wr.heap.size,3+1,none⟩)),(32,.int .i64 r.out),(33,.int .i64 (r.out-1)),(34,uu0),(35,.int .i64 (sa+1)),(36,.agg #[.int .i64 r.src,.int .i64 (sa+1)]),(37,uu1),(38,uu2),(7,uu3)]:=hL.symm.trans (by kernel_rfl);clear hL hl;simp only [Act.put,List.foldl_cons,List.foldl_nil,List.setIfInBounds_toArray,List.set_cons_zero,List.set_cons_succ];obtain ⟨rfl,w6,hx6,hg6,ho6⟩:=hJ.st;have HO5:=gH ho6;have HX5:=gH (Ext.grown ((HXr.out.trans HXc.out).trans hx6) hg6 (fun q hq=>qAp HO.out q hq));clear hx6 hg6 ho6;go_wp2_with fail;exact ⟨⟨k+1,by omega,by go_num,HX5.out,by dsimp only;rw [HT.out,List.length_append,List.flatMap_append];exact HO5.out⟩,by simp [intOf];omega⟩
    · have he':(r.reel.toList == s.toList)=false:=by rw [qHu];simpa using he
      have HT:=gH (plC_no hr he);clear hr he;go_wp2_with fail;exact ⟨⟨k+1,by omega,by go_num,HXr.out.trans HXc.out,by dsimp only;rw [HT.out];exact qAh HO.out HXc.out⟩,by simp [intOf];omega⟩
  · have hkn:k=n:=by omega
    subst hkn;(have HTk:Hid ((plC (e.cuts.take k) s)=plC e.cuts s):=by show _=_;rw [List.take_of_length_le (by have:=HLn.out;omega)]);rw [HTk.out] at HO hjl;obtain ⟨A',c',rfl,hc,_,hS,hfr⟩:=qBg (f:=Spn.vals) (size:=2) (fun _=>rfl) rfl HO.out;have HN:=gH (qMa A' (plC e.cuts s).length c' (plC e.cuts s) wr hS (by omega));unfold qDq at HN;clear hc hS hfr HO;go_wp2_with fail;refine HN.out.mono ?_;rintro en2 w2 ⟨A2,c2,rfl,h1,h2,h3,h4⟩;have HR:=gH (And.intro h2 (And.intro h1 (And.intro h4 ((HX1.out.trans HXr.out).trans h3))));clear h1 h2 h3 h4 HN;go_wp2_with fail;go_ret2;exact ⟨A2,c2,by rw [HZ.out,HE0.out];rfl,by rw [HZ.out];exact HR.out.2.1,by rw [HZ.out];exact HR.out.1,HR.out.2.2.2,fun ad h=>Nat.le_trans (Nat.le_trans hz1 hzr) (HR.out.2.2.1 ad h)⟩
end
section
open Go.RowKit Go.Maps
theorem fold_le {M:Int}:∀ {b:List Spn} {o:Int},(∀ t∈b,t.inn≤M)→o≤M→b.foldl (fun m t=>max m t.inn) o≤M
 | [],_,_,h=>h
 | t :: b,o,hb,h=>by
  rw [List.foldl_cons];exact fold_le (fun x hx=>hb x (List.mem_cons_of_mem _ hx)) (by have:=hb t (by simp);omega)
theorem minus_ok {s:Spn} {p:List Spn} (h0:0≤s.inn) (h1:s.out≤maxT) (hp:qGh p) (hb:InT p):qGh (qDf (minR s.out s.inn p))∧InT (qDf (minR s.out s.inn p))∧(qDf (minR s.out s.inn p)).length≤p.length+1:=by
 obtain ⟨j1,j2,j3,j4⟩:=qNz (minR s.out s.inn p);refine ⟨j1,fun x hx=>j4 0 maxT (fun y hy=>?_) x hx,?_⟩
 · have h:=minR_bd s.out h0 (fun t ht=>⟨(hb t ht).1,by have:=hp.1 t ht;have:=(hb t ht).1;omega⟩) y hy
   have h2:=fold_le (M:=maxT) (b:=p) (o:=s.out) (fun t ht=>by have:=hp.1 t ht;have:=(hb t ht).2;omega) h1;omega
 · have h2:(minR s.out s.inn p).length≤p.length+1:=by rw [minR_T,List.length_append];have:=qOy s.out s.inn p;simp;omega
   omega
structure FtRel (w:World) (lc:Array Value) (F:List Fat) (v:Value) (wr:World):Prop where
 ext:Ext w wr
 fats:∀ L2,qBa wr w.heap.size L2 v F
 list:Blk wr w.heap.size 25 lc
theorem FtRel.step {w wr w2:World} {lc:Array Value} {F:List Fat} {v:Value} (h:FtRel w lc F v wr) (q:Ext wr w2):FtRel w lc F v w2 :=
 ⟨h.ext.trans q,fun L2=>(h.fats L2).ext q,h.list.ext q⟩
theorem FtRel.grown {w wr w5 w2:World} {lc:Array Value} {F:List Fat} {v v':Value} {r:ByteArray} {id lost:Int} {xs:List Value} (h:FtRel w lc F v wr) (h1:wr.ownsRow w.heap.size 67 5 v F.length xs) (q:Ext wr w5) (g:w5.grownBy w2 v.ownBlock)
 (hO:w2.ownsRow w.heap.size 67 5 v' (F.length+1) (xs++[.string r,.int .i64 id,.slice none 0 0,.int .i64 lost,.slice none 0 0])):FtRel w lc (F++[⟨r,id,[],lost,[]⟩]) v' w2:=by
 have hv:∀ b,v.ownBlock=some b→qBf w5 67 b:=qAj (qAh h1 q);have ho:=Only.grown g hv;exact ⟨Ext.grown (h.ext.trans q) g (fun b hb=>qAp h1 b hb),fun L2=>(h.fats L2).app h1 q g hO,(h.list.ext q).only ho (by decide)⟩
def Ft1 (w:World) (docs:List RDoc) (e:Edl) (lc:Array Value) (n:Nat) (v i:Value) (wr:World):Prop:=∃ k:Nat,k≤n∧i = .int .i64 k∧FtRel w lc (qBx e (docs.take k)) v wr
def Ft2 (w:World) (lc:Array Value) (P l:List Fat) (m:Nat) (r:Option Nat) (w1:World) (gx:Nat) (xc:Array Value) (v i:Value) (wr:World):Prop :=
 ∃ j:Nat,j≤m∧i = .int .i64 j∧FtRel w lc (P++l.take j) v wr∧Blk wr gx 58 xc∧Keep (fun q=>r=some q) w1 wr∧(∀ q,v.ownBlock=some q→r=some q∨w1.heap.size≤q)
def FtPost (F:List Fat) (w:World) (en:Ending) (w':World):Prop:=∃ v,en = .returned v∧(∀ L2,qBa w' w.heap.size L2 v F)∧Ext w w'
set_option maxHeartbeats 40000000 in
theorem RFates_any (docs:List RDoc) (A:Option Addr) (n c:Nat) (e:Edl) (B:Option Addr) (m d:Nat) (w:World) (hE:Env w) (hl:qCw w A n docs) (he:qBd w B m e.cuts) (hm:m≤1000000) (hok:qJr e) (hn16:n≤16) (he0:qAn e=0) (hde:∀ x∈docs,x.doc.err=0) :
 Calls Tryz.prog 75 #[.slice A n c,.agg (e.cells B m d)] w (FtPost (qBx e docs) w):=by
 have HL:=gH hl;have HLn:=gH hl.len;have HX:=gH ((Ext.refl w).alloc (.cells (e.cells B m d) 25));have HB:=gH (Blk.new w 25 (e.cells B m d));have HPl:=gH (fun s w' (hx:Ext w w')=>R45Played_any e B m d s w' (hE.ext hx) (he.ext hx) hm hok);have HPo:=gH (fun s=>plE_ok he0 s);have HE0:=gH he0;have HDe:=gH hde;clear hl he hok hE he0 hde;unfold Edl.cells at *;have HRel0:Hid (FtRel w #[.string e.title,.int .u8 e.rate,.bool e.drop,.slice B m d] [] (.slice none 0 0) (w.alloc (.cells #[.string e.title,.int .u8 e.rate,.bool e.drop,.slice B m d] 25))):=⟨HX.out,fun L2=>qBa.nil _ _ _,HB.out⟩;go_enter Tryz.func75,Tryz.ntmps75;go_wp2_with fail
 go_loopw [5,18] (fun v i wr=>Ft1 w docs e #[.string e.title,.int .u8 e.rate,.bool e.drop,.slice B m d] n v i wr) (fun _ i _=>n-(intOf i).toNat)
 case atStart=>exact ⟨0,Nat.zero_le _,rfl,by simpa [qBx] using HRel0.out⟩
 case round =>
  obtain ⟨k,hk,rfl,hR⟩:=hrel;have HR:=gH hR;clear hR
  by_cases hlt:k<n
  · obtain ⟨b,off,x,h,rfl,hxk,hat,hsz,c0,c1,c2,c3,c4,c5,c6,c7,c8⟩:=HL.out.at9 hlt
    replace c0:=HR.out.ext.cell c0;replace c1:=HR.out.ext.cell c1;replace c2:=HR.out.ext.cell c2;replace c3:=HR.out.ext.cell c3;replace c4:=HR.out.ext.cell c4;replace c5:=HR.out.ext.cell c5;replace c6:=HR.out.ext.cell c6;replace c7:=HR.out.ext.cell c7;replace c8:=HR.out.ext.cell c8;obtain ⟨ra,rn,rc,ea,em,ec,ca,cn,cc⟩:=h;have hmem:=List.mem_of_getElem? hxk;have HEv:=gH hat.evs;have hel:=hat.evs.len;have HOk:=gH (qEp (HDe.out x hmem));(have hem:em≤400:=by have:=HOk.out.2.2.1;have:=hel;dsimp only at *;omega);dsimp only at HEv;have HFs:Hid (qBx e (docs.take (k+1))=qBx e (docs.take k)++qFj e x):=fats_take hxk;have HFl:=gH (qNu e docs k);have hoff:=qMv (docs:=docs) (q:=400) (fun d hd=>(qEp (HDe.out d hd)).2.2.1) k;have HBd:=gH (Blk.new wr 58 (x.cells ⟨ra,rn,rc,ea,em,ec,ca,cn,cc⟩));have HR1:=gH (HR.out.step ((Ext.refl wr).alloc (.cells (x.cells ⟨ra,rn,rc,ea,em,ec,ca,cn,cc⟩) 58)));unfold RDoc.cells at HBd HR1;dsimp only at HBd HR1;clear hxk hat hsz hmem;obtain ⟨P,hP⟩:∃ P,P=qBx e (docs.take k):=⟨_,rfl⟩;rw [← hP] at HR1 HFs HFl;clear hP;obtain ⟨Af,cf,hv10,hcf,-,-⟩:=(HR1.out.fats 0).read;subst hv10;(have hPl:P.length≤6400:=by rw [HFl.out];omega);clear hcf hoff;go_upto_region 5 with fail;obtain ⟨gx,hgx⟩:∃ gx,gx=wr.heap.size:=⟨_,rfl⟩
    obtain ⟨w2,hw2⟩:∃ w2,w2=wr.alloc (.cells #[.string x.reel,.string x.doc.title,.string x.doc.lang,.int .u8 x.doc.rate,.bool x.doc.drop,.int .i64 x.doc.last,.slice ra rn rc,.slice ea em ec,.slice ca cn cc] 58):=⟨_,rfl⟩;rw [← hgx] at HBd;rw [← hw2] at HBd HR1 ⊢;rw [← hgx];clear hw2 hgx c0 c1 c2 c3 c4 c5 c6 c7 c8 HR;have b0:=HBd.out.cell 0;simp only [gA,gB,gC] at b0;go_wp2_with (refine qAc rfl 25 (.tmp 3) rfl w.heap.size 25 _ _ (by exact rfl) (by exact HR1.out.list) Tryz.underlying25 rfl (by exact qBl) ?_);refine (HPl.out x.reel _ HR1.out.ext).mono ?_;rintro en4 w4 ⟨Ap,cp,rfl,hsl,-,hx4,hfp⟩;rw [HE0.out];have HR4:=gH (HR1.out.step hx4);have HB4:=gH (HBd.out.ext hx4);have HPk:=gH (HPo.out x.reel);have hzp:=HPk.out.2.2
    have HNr:Hid (∀ ad,Ap=some ad→¬ (Value.slice Af P.length cf).ownBlock=some ad.block):=fun ad had hr=>by
     obtain ⟨xs,hxs⟩:=(HR1.out.fats 0).xs;have h1:=(qAj hxs _ hr).lt;have h2:=hfp ad had;omega
    obtain ⟨pl,hpl⟩:∃ pl,pl=plE e x.reel:=⟨_,rfl⟩;rw [← hpl] at hsl HPk hzp ⊢;have HSl:=gH hsl;have HPe:=gH hpl;obtain ⟨zp,hz⟩:∃ zp,zp=pl.length:=⟨_,rfl⟩;have HZp:=gH hz;rw [← hz] at HSl hzp ⊢;clear hsl hfp hx4 b0 HR1 HBd hpl hz;have b7:=HB4.out.cell 7;simp only [gA,gB,gC] at b7;go_wp2_with fail;clear b7
    go_loopw [5,33] (fun v i wq=>Ft2 w #[.string e.title,.int .u8 e.rate,.bool e.drop,.slice B m d] P (qFj e x) em (Value.slice Af P.length cf).ownBlock w4 gx #[.string x.reel,.string x.doc.title,.string x.doc.lang,.int .u8 x.doc.rate,.bool x.doc.drop,.int .i64 x.doc.last,.slice ra rn rc,.slice ea em ec,.slice ca cn cc] v i wq) (fun _ i _=>em-(intOf i).toNat)
    case atStart=>exact ⟨0,Nat.zero_le _,rfl,by rw [List.take_zero,List.append_nil];exact HR4.out,HB4.out,Keep.refl _,fun q hq=>.inl hq⟩
    case round =>
     obtain ⟨j,hj,rfl,hR,hBx,hK,hV⟩:=hrel;have HRq:=gH hR;have HBq:=gH hBx;have HKq:=gH hK;have HVq:=gH hV;clear hR hBx hK hV
     by_cases hjt:j<em
     · obtain ⟨b2,off2,y,A',n',c',rfl,hyk,-,d0,d1,d2,d3,d4,d5,d6⟩:=HEv.out.at_ev hjt
       replace d0:=HRq.out.ext.cell d0;replace d1:=HRq.out.ext.cell d1;replace d2:=HRq.out.ext.cell d2;replace d3:=HRq.out.ext.cell d3;replace d4:=HRq.out.ext.cell d4;replace d5:=HRq.out.ext.cell d5;replace d6:=HRq.out.ext.cell d6;have hys:=ev_span ((evs_v HOk.out.2.2.2.1).each y (List.mem_of_getElem? hyk)).1;(have hmx:y.out≤maxT:=by unfold maxT;omega);have HSm:=gH (lost_same (s:=⟨y.inn,y.out⟩) hys.1 hmx HPk.out.1 HPk.out.2.1);have HMo:=gH (minus_ok (s:=⟨y.inn,y.out⟩) hys.1 hmx HPk.out.1 HPk.out.2.1)
       have HT:Hid (P++(qFj e x).take (j+1)=(P++(qFj e x).take j)++[⟨x.reel,y.id,[],sumL (qDf (minR y.out y.inn pl)),[]⟩]):=by
        show _=_
        rw [fatsD_take hyk,List.append_assoc,← HPe.out,HSm.out];rfl
       have hPj:(P++(qFj e x).take j).length≤6400+400:=by
        have:=qLh e x;rw [List.length_append,List.length_take];omega
       clear hyk;have HBy:=gH (Blk.new wr 64 #[.int .i64 y.id,.int .i64 y.inn,.int .i64 y.out,.string y.region,.int .u8 y.kind,.string y.speaker,.slice A' n' c']);have HXy:=gH ((Ext.refl wr).alloc (.cells #[.int .i64 y.id,.int .i64 y.inn,.int .i64 y.out,.string y.region,.int .u8 y.kind,.string y.speaker,.slice A' n' c'] 64));obtain ⟨xs,hxs⟩:=(HRq.out.fats 0).xs;have HOr:=gH hxs;have HSw:=gH (HKq.out.cells HSl.out HNr.out);have HMn:=gH (fun w' A c (hx:Ext wr w') (ha:qBj w' A 1 [⟨y.inn,y.out⟩])=>R5Minus_one A c ⟨y.inn,y.out⟩ Ap zp cp pl w' ha (qBj.ext HSw.out hx) (by omega) hys.2.1 hys.1 hmx HPk.out.1 HPk.out.2.1);have HLe:=gH (fun w' A c (ha:qBj w' A (qDf (minR y.out y.inn pl)).length (qDf (minR y.out y.inn pl)))=>R5Len_ok A _ c _ w' ha HMo.out.1 HMo.out.2.1 (by have:=HMo.out.2.2;have:=HZp.out;dsimp only at *;omega));unfold qCf at HMn;dsimp only at HMn;clear hxs hys hmx HSm HMo;go_upto_region 9 with fail;generalize qDf (minR y.out y.inn pl)=mn at *;generalize sumL mn=lv at *;obtain ⟨gy,hgy⟩:∃ gy,gy=wr.heap.size:=⟨_,rfl⟩;have hz2:=HXy.out.size;have hzw:=HRq.out.ext.size;obtain ⟨W2,hW2⟩:∃ W2,W2=wr.alloc (.cells #[.int .i64 y.id,.int .i64 y.inn,.int .i64 y.out,.string y.region,.int .u8 y.kind,.string y.speaker,.slice A' n' c'] 64):=⟨_,rfl⟩;rw [← hgy] at HBy;rw [← hW2] at HBy HXy hz2 ⊢;rw [← hgy];clear hW2 hgy d0 d1 d2 d3 d4 d5 d6;have y1:=HBy.out.cell 1;have y2:=HBy.out.cell 2;simp only [gA,gB,gC] at y1 y2
       obtain ⟨os,hos⟩:∃ os,os=P++(qFj e x).take j:=⟨_,rfl⟩;rw [← hos] at HT hPj HOr HRq;clear hos;have HS1:=gH (Sl.one (s:=⟨y.inn,y.out⟩) (Blk.new W2 60 #[.int .i64 y.inn,.int .i64 y.out]));have HXs:=gH (HXy.out.alloc (.cells #[.int .i64 y.inn,.int .i64 y.out] 60));go_wp2_with fail;clear y1 y2;refine (HMn.out _ _ _ HXs.out HS1.out).mono ?_;rintro e5 w5 ⟨Z,zc,rfl,hz,-,hx5,-⟩;have HX5:=gH (HXs.out.trans hx5);have HZ:=gH hz;have HBy5:=gH ((HBy.out.alloc (.cells #[.int .i64 y.inn,.int .i64 y.out] 60)).ext hx5);clear hz hx5 HMn HS1 HXs HBy;go_wp2_with fail;refine (HLe.out _ _ _ HZ.out).mono ?_;rintro e6 w6 ⟨rfl,hx6⟩;have HX6:=gH (HX5.out.trans hx6);have HBy6:=gH (HBy5.out.ext hx6);have HBx6:=gH (HBq.out.ext HX6.out);have HO6:=gH (qAh HOr.out HX6.out);have hz6:=HX6.out.size;clear hx6 HX5 HBy5 HLe HZ;have x0:=HBx6.out.cell 0;have y0:=HBy6.out.cell 0;simp only [gA,gB,gC] at x0 y0;go_wp2_with (at_builtin;refine qBn rfl (.tmp 50) (.tmp 57) 53 rfl info_fate Tryz.underlying53 rfl (by decide) (HO6.out.alloc _) (by exact rfl) w6.heap.size _ (by exact rfl) (by exact Blk.new' rfl) (by exact rfl) (by simp [Value.oneCell']) (by omega) (by simp [maxLen]<;>omega) (by first | omega | (simp;omega) | simp) ?_;intro v7 w7 hown7 hgr7 hloc7;have HO7:=gH hown7;have HG7:=gH hgr7;have HL7:=gH hloc7;clear hown7 hgr7 hloc7);have HX6a:=gH (HX6.out.alloc (.cells #[.string x.reel,.int .i64 y.id,.slice none 0 0,.int .i64 lv,.slice none 0 0] 67))
       have HR7:=gH (HRq.out.grown HOr.out HX6a.out HG7.out HO7.out);have HB7:=gH ((HBq.out.ext HX6a.out).only (Only.grown HG7.out (qAj (qAh HOr.out HX6a.out))) (by decide));have HK7:=gH ((HKq.out.ext HX6a.out).grown HG7.out HVq.out)
       have HV7:Hid (∀ q,v7.ownBlock=some q→(Value.slice Af P.length cf).ownBlock=some q∨w4.heap.size≤q):=fun q hq=>by
        rcases HL7.out with h | h
        · rw [h] at hq;exact HVq.out q hq
        · rw [h] at hq
          cases hq
          have h1:=HKq.out.size;have h2:=HX6a.out.size;exact .inr (by omega)
       exact ⟨⟨j+1,by omega,by go_num,by rw [HT.out];exact HR7.out,HB7.out,HK7.out,HV7.out⟩,by simp [intOf];omega⟩
     · have hjm:j=em:=by omega
       subst hjm;(have HT:Hid (P++(qFj e x).take j=qBx e (docs.take (k+1))):=by show _=_;rw [HFs.out,List.take_of_length_le (by rw [qLh];first | omega | (dsimp only at hel;omega))]);rw [HT.out] at HRq;clear hel;go_wp2_with fail;exact ⟨⟨k+1,by omega,by go_num,HRq.out⟩,by simp [intOf];omega⟩
  · have hkn:k=n:=by omega
    subst hkn;(have HFa:Hid (qBx e (docs.take k)=qBx e docs):=by show _=_;rw [List.take_of_length_le (by have:=HLn.out;omega)]);rw [HFa.out] at HR;go_wp2_with fail;go_ret;exact ⟨_,rfl,HR.out.fats,HR.out.ext⟩
end
section
open Go.RowKit Go.Maps
def qFd (r:ByteArray) (id pid:Int) (sh:Bool) (k:Nat) (l:List Fat):List Fat:=qDv r id pid sh (l.take k)++l.drop k
theorem noteTo_zero (r:ByteArray) (id pid:Int) (sh:Bool) (l:List Fat):qFd r id pid sh 0 l=l:=by simp [qFd,qDv]
theorem noteTo_end (r:ByteArray) (id pid:Int) (sh:Bool) {k:Nat} {l:List Fat} (h:l.length≤k):qFd r id pid sh k l=qDv r id pid sh l:=by
 unfold qFd;rw [List.take_of_length_le h,List.drop_eq_nil_of_le h,List.append_nil]
theorem noteTo_len (r:ByteArray) (id pid:Int) (sh:Bool) (k:Nat) (l:List Fat):(qFd r id pid sh k l).length=l.length:=by
 simp [qFd,qDv];omega
theorem noteTo_at {r:ByteArray} {id pid:Int} {sh:Bool} {k:Nat} {l:List Fat} {f:Fat} (h:l[k]?=some f):(qFd r id pid sh k l)[k]?=some f:=by
 have hl:=(List.getElem?_eq_some_iff.1 h).1;(have hn:(qDv r id pid sh (l.take k)).length=k:=by simp [qDv];omega);unfold qFd;rw [List.getElem?_append_right (by omega),hn,Nat.sub_self,List.getElem?_drop];simpa using h
theorem modify_app {α:Type}:∀ (a:List α) (b:α) (c:List α) (g:α→α),(a++b :: c).modify a.length g=a++g b :: c
 | [],_,_,_=>rfl
 | x :: a,b,c,g=>by
  show (x :: (a++b :: c)).modify (a.length+1) g=x :: (a++g b :: c)
  rw [← modify_app a b c g];rfl
theorem noteTo_step {r:ByteArray} {id pid:Int} {sh:Bool} {k:Nat} {l:List Fat} {f:Fat} (h:l[k]?=some f) :
 qFd r id pid sh (k+1) l=if f.reel=r∧f.id=id then (qFd r id pid sh k l).modify k fun f=>f.note pid sh else qFd r id pid sh k l:=by
 have hl:=(List.getElem?_eq_some_iff.1 h).1;(have hn:(qDv r id pid sh (l.take k)).length=k:=by simp [qDv];omega);have hd:l.drop k=f :: l.drop (k+1):=qDe l k f h
 have h1:qFd r id pid sh (k+1) l=qDv r id pid sh (l.take k)++(if f.reel=r∧f.id=id then f.note pid sh else f) :: l.drop (k+1):=by
  unfold qFd;rw [take_snoc' _ _ _ h];simp [qDv]
 rw [h1]
 split
 · unfold qFd
   rw [hd];have:=modify_app (qDv r id pid sh (l.take k)) f (l.drop (k+1)) (fun f=>f.note pid sh);rw [hn] at this;exact this.symm
 · unfold qFd
   rw [hd]
def NrRel (w wJ:World) (gDz:Nat) (uF ur:Value) (e:Edl) (lg:ByteArray) (mR:List Reg) (X:Nat→Prop) (vE:Value) (last:Int) (s:qCv) (r:ByteArray) (id pid:Int) (sh:Bool) (w0:World) (n:Nat) (i:Value) (wr:World):Prop :=
 ∃ k:Nat,k≤n∧i = .int .i64 k∧MnF w wJ gDz uF ur e lg mR X vE last ⟨s.evs,qFd r id pid sh k s.fats⟩ wr∧∀ T,T≠2→T≠67→KB T w0 wr
set_option maxHeartbeats 40000000 in
theorem RNote_any {w wJ w0:World} {gDz:Nat} {ur vE:Value} {e:Edl} {lg:ByteArray} {mR:List Reg} {X:Nat→Prop} {last:Int} {s:qCv} (A:Option Addr) (n c:Nat) (r:ByteArray) (id pid:Int) (sh:Bool) (hM:MnF w wJ gDz (.slice A n c) ur e lg mR X vE last s w0) (hJw:w.heap.size≤wJ.heap.size) (hn:s.fats.length=n) (hn2:n≤100000)
 (hP:∀ f∈s.fats,f.parts.length≤100000∧f.short.length≤100000) :
 Calls Tryz.prog 80 #[.slice A n c,.string r,.int .i64 id,.int .i64 pid,.bool sh] w0 fun en w'=>en = .returned (.tuple #[])∧MnF w wJ gDz (.slice A n c) ur e lg mR X vE last ⟨s.evs,qDv r id pid sh s.fats⟩ w'∧∀ T,T≠2→T≠67→KB T w0 w':=by
 have HM:=gH hM;have HP:=gH hP;have HN:=gH hn;clear hM hP hn;go_enter Tryz.func80,Tryz.ntmps80;go_wp2_with fail
 go_loopw [13] (fun i wr=>NrRel w wJ gDz (.slice A n c) ur e lg mR X vE last s r id pid sh w0 n i wr) (fun i _=>n-(intOf i).toNat)
 case atStart=>exact ⟨0,Nat.zero_le _,rfl,by rw [noteTo_zero];exact HM.out,fun T _ _=>KB.refl _⟩
 case round =>
  obtain ⟨k,hk,rfl,hR,hK⟩:=hrel;have HR:=gH hR;have HK:=gH hK;clear hR hK
  by_cases hlt:k<n
  · have hlk:k<s.fats.length:=by rw [HN.out];exact hlt
    obtain ⟨f,hf⟩:=qBq (l:=s.fats) (p:=k) hlk;have HSt:=gH (noteTo_step (r:=r) (id:=id) (pid:=pid) (sh:=sh) hf);have HAt:=gH (noteTo_at (r:=r) (id:=id) (pid:=pid) (sh:=sh) hf);obtain ⟨hpl,hsl⟩:=HP.out f (List.mem_of_getElem? hf);obtain ⟨xs,hxs⟩:=HR.out.fats.xs;obtain ⟨gF,cF',hvF,-,-⟩:=qFn hxs (by dsimp only;rw [noteTo_len];omega);injection hvF with hAF hx1 hx2;subst hAF;obtain ⟨ls,hls⟩:∃ ls,ls=qFd r id pid sh k s.fats:=⟨_,rfl⟩;rw [← hls] at HSt HAt HR;clear hx1 hx2 hxs hf hls hlk;obtain ⟨xh,hG,hLg,hTy,hcs,hcl⟩:=qBa.at_ rfl HR.out.fats HAt.out;have HG:=gH hG;have HTy:=gH hTy;have HCl:=gH hcl;have HOi:=gH (hG.row false);have HSl:Hid (wr.cell? ⟨gF,k*5+2,none⟩=some (xh.slot false)):=hcs 2 _ rfl;(have r0:wr.cell? ⟨gF,k*5,none⟩=some (.string f.reel):=by rw [← hG.reel];exact hcs 0 _ rfl);(have r1:wr.cell? ⟨gF,k*5+1,none⟩=some (.int .i64 f.id):=by rw [← hG.id];exact hcs 1 _ rfl);have r2:=HSl.out;have hwk:=HR.out.keep.size;clear hG hTy hcs hcl
    by_cases h1:f.reel=r
    case neg =>
     (have g1:(f.reel.toList == r.toList)=false:=by rw [qHu];simpa using h1);have HS2:=gH (HSt.out.trans (if_neg (fun h=>h1 h.1)));clear h1;go_wp2_with fail;exact ⟨⟨k+1,by omega,by go_num,by rw [HS2.out];exact HR.out,HK.out⟩,by simp [intOf];omega⟩
    have g1:(f.reel.toList == r.toList)=true:=by rw [h1];simp
    by_cases h2:f.id=id
    case neg =>
     (have g2:(f.id == id)=false:=by simpa using h2);have HS2:=gH (HSt.out.trans (if_neg (fun h=>h2 h.2)));clear h1 h2;go_wp2_with fail;exact ⟨⟨k+1,by omega,by go_num,by rw [HS2.out];exact HR.out,HK.out⟩,by simp [intOf];omega⟩
    (have g2:(f.id == id)=true:=by simpa using h2);have HS2:=gH (HSt.out.trans (if_pos ⟨h1,h2⟩));have hpl':(f.slot false).length≤100000:=hpl;clear h1 h2 HSt;go_upto_region 5 with (at_builtin;refine qBn rfl (.tmp 38) (.tmp 40) 65 rfl qLq Tryz.underlying65 rfl (by decide) (HOi.out.alloc _) (by exact rfl) wr.heap.size _ (by exact rfl) (by exact Blk.new' rfl) (by exact rfl) (by simp [Value.oneCell']) (by omega) (by simp [maxLen]<;>omega) (by first | omega | (simp;omega) | simp) ?_;intro v5 w5 hown5 hgr5 hloc5;obtain ⟨A5,c5,rfl⟩:=qFb hown5;have hxa:Ext wr (wr.alloc (.cells #[.int .i64 pid] 2)):=(Ext.refl wr).alloc _;have hon:Only 2 (wr.alloc (.cells #[.int .i64 pid] 2)) w5:=Only.grown hgr5 (qAj (qAh HOi.out hxa));have hT5:=(HTy.out.ext hxa).kb (hon.kb _ (show 67≠2 by decide));have hcl:=(qBf.cell_kb (HTy.out.ext hxa) (hon.kb _ (show 67≠2 by decide)) (k*5+2)).trans (hxa.cell HSl.out);have hfr:=hT5.frozen (k*5+2));have HM6:=gH (MnF.note (x:=xh) (f:=f) (b:=false) (y:=pid) (i:=k) HR.out hJw rfl HTy.out hLg HG.out hxa hgr5 (HCl.out false _ _ _ pid hxa hgr5 hown5 hloc5));(have HK6:Hid (∀ T,T≠2→T≠67→KB T w0 (w5.setCell ⟨gF,k*5+2,none⟩ (.slice A5 ((f.slot false).length+1) c5))):=fun T h1 h2=>(HK.out T h1 h2).trans ((KB.ext hxa).trans ((hon.kb T h1).trans (KB.set hT5 h2))))
    have hw6:∃ w6,w6=w5.setCell ⟨gF,k*5+2,none⟩ (.slice A5 ((f.slot false).length+1) c5):=⟨_,rfl⟩;obtain ⟨w6,hw6⟩:=hw6;(have hm6:MnF w wJ gDz (.slice (some ⟨gF,0,none⟩) n c) ur e lg mR X vE last ⟨s.evs,ls.modify k fun f=>f.push false pid⟩ w6:=by rw [hw6];exact HM6.out);replace HM6:=gH hm6;rw [← hw6] at HK6 ⊢;clear hw6 hm6 hown5 hgr5 hloc5 hxa hon hT5 hcl hfr HOi HSl HTy HCl HG HR r0 r1 r2 hLg hwk g1 g2 HK
    cases sh with
    | false =>
     (have HMn:Hid ((ls.modify k fun f=>f.note pid false)=ls.modify k fun f=>f.push false pid):=by show _=_;rw [qHp];rfl);go_wp2_with fail;exact ⟨⟨k+1,by omega,by go_num,by rw [HS2.out,HMn.out];exact HM6.out,HK6.out⟩,by simp [intOf];omega⟩
    | true =>
     (have HMn:Hid ((ls.modify k fun f=>f.note pid true)=(ls.modify k fun f=>f.push false pid).modify k fun f=>f.push true pid):=by show _=_;rw [qHp];rfl);(have HAt2:Hid ((ls.modify k fun f=>f.push false pid)[k]?=some (f.push false pid)):=by show _=_;rw [List.getElem?_modify_eq,HAt.out];rfl);obtain ⟨xh2,hG,hLg,hTy,hcs,hcl⟩:=qBa.at_ rfl HM6.out.fats HAt2.out;have HG:=gH hG;have HTy:=gH hTy;have HCl:=gH hcl;have HOi:=gH (hG.row true);have HSl:Hid (w6.cell? ⟨gF,k*5+4,none⟩=some (xh2.slot true)):=hcs 4 _ rfl;have r4:=HSl.out;have hwk:=HM6.out.keep.size;clear hG hTy hcs hcl;have hsl':((f.push false pid).slot true).length≤100000:=hsl
     go_upto_region 7 with (at_builtin;refine qBn rfl (.tmp 51) (.tmp 53) 65 rfl qLq Tryz.underlying65 rfl (by decide) (HOi.out.alloc _) (by exact rfl) w6.heap.size _ (by exact rfl) (by exact Blk.new' rfl) (by exact rfl) (by simp [Value.oneCell']) (by omega) (by simp [maxLen]<;>omega) (by first | omega | (simp;omega) | simp) ?_;intro v7 w7 hown7 hgr7 hloc7;obtain ⟨A7,c7,rfl⟩:=qFb hown7;have hxa:Ext w6 (w6.alloc (.cells #[.int .i64 pid] 2)):=(Ext.refl w6).alloc _;have hon:Only 2 (w6.alloc (.cells #[.int .i64 pid] 2)) w7:=Only.grown hgr7 (qAj (qAh HOi.out hxa));have hT7:=(HTy.out.ext hxa).kb (hon.kb _ (show 67≠2 by decide));have hcl:=(qBf.cell_kb (HTy.out.ext hxa) (hon.kb _ (show 67≠2 by decide)) (k*5+4)).trans (hxa.cell HSl.out);have hfr:=hT7.frozen (k*5+4));have HM8:=gH (MnF.note (x:=xh2) (f:=f.push false pid) (b:=true) (y:=pid) (i:=k) HM6.out hJw rfl HTy.out hLg HG.out hxa hgr7 (HCl.out true _ _ _ pid hxa hgr7 hown7 hloc7));(have HK8:Hid (∀ T,T≠2→T≠67→KB T w0 (w7.setCell ⟨gF,k*5+4,none⟩ (.slice A7 (((f.push false pid).slot true).length+1) c7))):=fun T h1 h2=>(HK6.out T h1 h2).trans ((KB.ext hxa).trans ((hon.kb T h1).trans (KB.set hT7 h2))));go_wp2_with fail;exact ⟨⟨k+1,by omega,by go_num,by rw [HS2.out,HMn.out];exact HM8.out,HK8.out⟩,by simp [intOf];omega⟩
  · have hkn:k=n:=by omega
    subst hkn;have HE:=gH (noteTo_end r id pid sh (k:=k) (l:=s.fats) (by rw [HN.out];exact Nat.le_refl _));rw [HE.out] at HR;go_wp2_with fail;go_end0;exact ⟨rfl,HR.out,HK.out⟩
end
section
open Go.RowKit
set_option maxHeartbeats 1000000 in
theorem Led_any (p:Pc) (t:Int) (w:World) (hp:p.Ok) (h1:p.inn≤t) (h2:t<p.out) :
 Calls Tryz.prog 242 #[.agg #[.int .i64 p.inn,.int .i64 p.out,.int .i64 p.dst,.int .i64 p.n,.int .i64 p.d],.int .i64 t] w fun e w'=>e = .returned (.int .i64 (toP p t))∧Ext w w':=by
 obtain ⟨inn,out,dst,n,d⟩:=p;obtain ⟨a1,a2,a3,a4,a5,a6,a7,a8,a9,-,-⟩:=hp;dsimp only at *;have hm:=qLv (a:=t-inn) (n:=n) (by omega) (by omega) a4 a5;have hq:=div_bd hm.1 hm.2 a6;(have hd0:(d == 0)=false:=by simp;omega);(have hdz:¬ d=0:=by omega);have HF:Hid (toP ⟨inn,out,dst,n,d⟩ t=dst+(t-inn) * n / d):=rfl;have HX:=gH ((Ext.refl w).alloc (.cells #[.int .i64 inn,.int .i64 out,.int .i64 dst,.int .i64 n,.int .i64 d] 95));go_enter Tryz.func242,Tryz.ntmps242;go_wp2_with fail;go_quiet (fail);go_wp2_with fail;go_ret;exact ⟨qAa HF.out.symm,HX.out.drewN _⟩
set_option maxHeartbeats 2000000 in
theorem R6Single_ok (x:Pc) (w:World) (hxo:x.Ok) :
 Calls Tryz.prog 202 #[.agg #[.int .i64 x.inn,.int .i64 x.out,.int .i64 x.dst,.int .i64 x.n,.int .i64 x.d]] w fun e w'=>e = .returned (.int .i64 0)∧Ext w w':=by
 have HSp:=gH (fun w'=>qKr x.n x.d w');rw [hxo.rat] at HSp;have HTo:=gH (fun w'=>Led_any x (x.out-1) w' hxo (by have:=hxo.io;omega) (by omega));have hlast:=hxo.last;(have g1:decide (x.inn≥x.out)=false:=by have:=hxo.io;simp;omega);(have g1':decide (x.out≤x.inn)=false:=by have:=hxo.io;simp;omega);(have g2:decide (x.inn<0)=false:=by have:=hxo.i0;simp;omega);(have g3:decide (x.out > 5184000)=false:=by have:=hxo.o1;simp;omega);(have g3':decide (5184000<x.out)=false:=by have:=hxo.o1;simp;omega);(have g4:decide (x.dst<0)=false:=by have:=hxo.t0;simp;omega);(have g5:decide (x.dst≥5184000)=false:=by have:=hxo.t1;simp;omega);(have g5':decide (5184000≤x.dst)=false:=by have:=hxo.t1;simp;omega);(have g7:decide (x.n<0)=false:=by have:=hxo.n0;simp;omega);(have g8:decide (x.n > 8)=false:=by have:=hxo.n8;simp;omega);(have g8':decide (8<x.n)=false:=by have:=hxo.n8;simp;omega);(have g9:decide (x.d > 8)=false:=by have:=hxo.d8;simp;omega);(have g9':decide (8<x.d)=false:=by have:=hxo.d8;simp;omega);have hob:=hxo.o1;have hob2:=hxo.io;have hob3:=hxo.i0;generalize toP x (x.out-1)=tl at *;(have g6:decide (tl≥5184000)=false:=by simp;omega);(have g6':decide (5184000≤tl)=false:=by simp;omega);have HBx:=gH (Blk.new w 95 #[.int .i64 x.inn,.int .i64 x.out,.int .i64 x.dst,.int .i64 x.n,.int .i64 x.d])
 have HXx:=gH ((Ext.refl w).alloc (.cells #[.int .i64 x.inn,.int .i64 x.out,.int .i64 x.dst,.int .i64 x.n,.int .i64 x.d] 95));clear hxo hlast;go_enter Tryz.func202,Tryz.ntmps202;go_wp2_with fail;refine (HSp.out _).mono ?_;rintro e w1 ⟨rfl,hx1⟩;have HX1:=gH (HXx.out.trans hx1);have HB1:=gH (HBx.out.ext hx1);(have hcl:=fun o=>HB1.out.cell o);clear hx1 HSp;go_wp2_with (refine qAc rfl 95 (.tmp 1) rfl w.heap.size 95 _ _ (by exact rfl) (by exact HB1.out) Tryz.underlying95 rfl (by exact qJt) ?_);refine (HTo.out _).mono ?_;rintro e w2 ⟨rfl,hx2⟩;have HX2:=gH (HX1.out.trans hx2);clear hx2 HTo;go_wp2_with fail;go_ret;exact ⟨rfl,HX2.out⟩
set_option maxHeartbeats 4000000 in
theorem R6Check_ok (A:Option Addr) (n c:Nat) (l:List Pc) (w:World) (hl:PcsAt w A n l) (hok:MapOk l) :
 Calls Tryz.prog 139 #[.slice A n c] w fun e w'=>e = .returned (.int .i64 0)∧Ext w w':=by
 have HL:=gH hl;have HLn:=gH hl.len;have HOk:=gH hok;(have hn:n≤64:=by rw [← hl.len];exact hok.few);(have hb:decide ((n:Int) > 64)=false:=by simp;omega);(have hb2:decide ((64:Int)<n)=false:=by simp;omega);clear hl hok;go_enter Tryz.func139,Tryz.ntmps139;go_wp2_with fail;clear hb hb2
 go_loopw [11] (fun i wr=>TmRel w n i wr) (fun i _=>n-(intOf i).toNat)
 case atStart=>exact ⟨0,Nat.zero_le _,rfl,Ext.refl _⟩
 case round =>
  obtain ⟨k,hk,rfl,hx⟩:=hrel;have HX:=gH hx;clear hx
  by_cases hlt:k<n
  case neg =>
   (have hkn:k=n:=by omega);subst hkn;go_wp2_with fail;go_ret;exact ⟨rfl,HX.out⟩
  obtain ⟨b,off,x,rfl,hxk,hC⟩:=(HL.out.ext HX.out).at_ hlt;have c0:=hC 0 _ rfl;have c1:=hC 1 _ rfl;have c2:=hC 2 _ rfl;have c3:=hC 3 _ rfl;have c4:=hC 4 _ rfl;simp only [Nat.add_zero] at c0;have hxo:=HOk.out.each x (List.mem_of_getElem? hxk)
  have HPr:Hid (∀ j y,k=j+1→l[j]?=some y→¬ x.inn<y.out):=fun j y hj hy=>by
   subst hj;have h1:=List.pairwise_iff_getElem.1 HOk.out.asc j (j+1) (List.getElem?_eq_some_iff.1 hy).1 (List.getElem?_eq_some_iff.1 hxk).1 (by omega);rw [(List.getElem?_eq_some_iff.1 hy).2,(List.getElem?_eq_some_iff.1 hxk).2] at h1;omega
  have HSg:=gH (fun w'=>R6Single_ok x w' hxo);have HBx:=gH (Blk.new wr 95 #[.int .i64 x.inn,.int .i64 x.out,.int .i64 x.dst,.int .i64 x.n,.int .i64 x.d]);have HXx:=gH ((Ext.refl wr).alloc (.cells #[.int .i64 x.inn,.int .i64 x.out,.int .i64 x.dst,.int .i64 x.n,.int .i64 x.d] 95));clear hC hxk hxo;go_wp2_with (refine qAc rfl 95 (.tmp 4) rfl wr.heap.size 95 _ _ (by exact rfl) (by exact HBx.out) Tryz.underlying95 rfl (by exact qJt) ?_);refine (HSg.out _).mono ?_;rintro e w2 ⟨rfl,hx2⟩;have HX2:=gH (HXx.out.trans hx2);have HB2:=gH (HBx.out.ext hx2);(have hcl2:=fun o=>HB2.out.cell o);clear hx2 HSg
  by_cases hk0:0<k
  · obtain ⟨b',off',y,hA,hyk,hD⟩:=(HL.out.ext (HX.out.trans HX2.out)).at_ (i:=k-1) (by omega)
    cases hA
    have d1:=hD 1 _ rfl;have hny:=HPr.out (k-1) y (by omega) hyk;(have g7:decide (x.inn<y.out)=false:=by simpa using hny);(have g8:decide ((k:Int) > 0)=true:=by simp;omega);(have g8':decide ((0:Int)<k)=true:=by simp;omega);obtain ⟨j,rfl⟩:∃ j,k=j+1:=⟨k-1,by omega⟩;simp only [Nat.add_sub_cancel] at d1;clear hD hyk hny;go_wp2_with fail;go_quiet (fail);go_wp2_with fail;exact ⟨⟨j+1+1,by omega,by go_num,(HX.out.trans HX2.out).drewN _⟩,by simp [intOf];omega⟩
  · have hk00:k=0:=by omega
    subst hk00;go_wp2_with fail;go_quiet (fail);go_wp2_with fail;exact ⟨⟨0+1,by omega,by go_num,(HX.out.trans HX2.out).drewN _⟩,by simp [intOf];omega⟩
end
section
open Go.RowKit
set_option maxHeartbeats 1000000 in
theorem R1Mode3_any (w:World):Calls Tryz.prog 243 #[.int .u8 3] w fun e w'=>e = .returned (.bool true)∧Ext w w':=by
 go_enter Tryz.func243,Tryz.ntmps243;go_wp2_with fail;go_ret;exact ⟨rfl,Ext.refl _⟩
set_option maxHeartbeats 2000000 in
theorem RQuot3_any (n d:Int) (w:World) (hn0:0≤n) (hn9:n≤4611686018427387904) (hd1:1≤d) (hd9:d≤4611686018427387904) :
 Calls Tryz.prog 203 #[.int .i64 n,.int .i64 d,.int .u8 3] w fun e w'=>e = .returned (.tuple #[.int .i64 (quoI n d 3),.int .i64 0])∧Ext w w':=by
 have hq0:0≤n / d:=Int.ediv_nonneg hn0 (by omega);have hq1:n / d≤n:=Int.ediv_le_self _ hn0;have hr0:0≤n % d:=Int.emod_nonneg _ (by omega);have hr1:n % d<d:=Int.emod_lt_of_pos _ (by omega);(have hd0:(d == 0)=false:=by simp;omega);(have hz:¬ d=0:=by omega);(have hne:(n == -9223372036854775808)=false:=by simp;omega);have e1:n.tdiv d=n / d:=Int.tdiv_eq_ediv_of_nonneg hn0;have e2:n.tmod d=n % d:=Int.tmod_eq_emod_of_nonneg hn0;generalize hQ:n / d=q at *;generalize hR:n % d=r at *;(have HQ:Hid (quoI n d 3=if qKu r d 3=true then q+1 else q):=by show _=_;unfold quoI;rw [hQ,hR]);clear hQ hR;go_enter Tryz.func203,Tryz.ntmps203;go_wp2_with fail;refine (R1Mode3_any _).mono ?_;rintro en w1 ⟨rfl,hx1⟩;go_wp2_with fail;go_quiet (fail)
 by_cases hr:r=0
 · subst hr
   (have HF:Hid (quoI n d 3=q):=by show _=_;rw [HQ.out];rfl);go_wp2_with fail;go_ret2;exact ⟨by rw [HF.out]<;>rfl,hx1.drewN _⟩
 · have hr':(r == 0)=false:=by simpa using hr
   (have hrn:(r != 0)=true:=by simpa using hr);(have hr2:¬ r<0:=by omega);(have hd2:¬ d<0:=by omega);(have HF:Hid (quoI n d 3=q+1):=by show _=_;rw [HQ.out];unfold qKu;rw [if_neg hr];rfl);go_wp2_with fail;go_ret2;exact ⟨by rw [HF.out]<;>rfl,hx1.drewN _⟩
set_option maxHeartbeats 4000000 in
theorem R6From_any (p:Pc) (v:Int) (w:World) (hp:p.Ok) (hv:v≤maxT) :
 Calls Tryz.prog 141 #[.agg #[.int .i64 p.inn,.int .i64 p.out,.int .i64 p.dst,.int .i64 p.n,.int .i64 p.d],.int .i64 v] w fun e w'=>e = .returned (.int .i64 (qAs p v))∧Ext w w':=by
 have HX:=gH ((Ext.refl w).alloc (.cells #[.int .i64 p.inn,.int .i64 p.out,.int .i64 p.dst,.int .i64 p.n,.int .i64 p.d] 95));have HB:=gH (Blk.new w 95 #[.int .i64 p.inn,.int .i64 p.out,.int .i64 p.dst,.int .i64 p.n,.int .i64 p.d]);have hp0:=hp.i0;have hp1:=hp.o1;have hp2:=hp.io;have hp3:=hp.t0;have hp4:=hp.t1;have hp5:=hp.n0;have hp6:=hp.n8;have hp7:=hp.d1;have hp8:=hp.d8;unfold maxT at hv;clear hp
 by_cases h1:v≤p.dst
 · have e1:decide (v≤p.dst)=true:=by simpa using h1
   (have HF:Hid (qAs p v=p.inn):=by show _=_;unfold qAs;rw [if_pos h1]);clear h1;go_enter Tryz.func141,Tryz.ntmps141;go_wp2_with fail;go_ret;exact ⟨qAa HF.out.symm,HX.out⟩
 · have e1:decide (v≤p.dst)=false:=by simpa using h1
   by_cases h2:p.n=0
   · have e2:(p.n == 0)=true:=by simpa using h2
     (have HF:Hid (qAs p v=p.out):=by show _=_;unfold qAs;rw [if_neg h1,if_pos h2]);clear h1 h2;go_enter Tryz.func141,Tryz.ntmps141;go_wp2_with fail;go_ret;exact ⟨qAa HF.out.symm,HX.out⟩
   · have e2:(p.n == 0)=false:=by simpa using h2
     have HF:Hid (qAs p v=min (p.inn+quoI ((v-p.dst)*p.d) p.n 3) p.out):=by show _=_;unfold qAs;rw [if_neg h1,if_neg h2]
     have hm:0≤(v-p.dst)*p.d∧(v-p.dst)*p.d≤10378368000*8:=by
      refine ⟨Int.mul_nonneg (by omega) (by omega),?_⟩;have h3:(v-p.dst)*p.d≤10378368000*p.d:=Int.mul_le_mul_of_nonneg_right (by omega) (by omega);have h4:10378368000*p.d≤10378368000*8:=Int.mul_le_mul_of_nonneg_left hp8 (by omega);omega
     have hq:=quoI_bd ((v-p.dst) * p.d) p.n 3 hm.1 (by omega);have HQ:=gH (fun w'=>RQuot3_any ((v-p.dst) * p.d) p.n w' hm.1 (by omega) (by omega) (by omega));(have hvd:0<v-p.dst:=by omega);obtain ⟨hm1,hm2⟩:=hm;clear h1 h2;go_enter Tryz.func141,Tryz.ntmps141;go_wp2_with fail;refine (HQ.out _).mono ?_;rintro e w1 ⟨rfl,hx⟩;have HX1:=gH (HX.out.trans hx);have HB1:=gH (HB.out.ext hx);(have hcl:=fun o=>HB1.out.cell o);clear hx HQ;generalize quoI ((v-p.dst) * p.d) p.n 3=q at *;go_wp2_with fail;go_ret;exact ⟨qAa HF.out.symm,HX1.out⟩
end
end Go.Proofs.YtablhmobekmflaaGreatDoor