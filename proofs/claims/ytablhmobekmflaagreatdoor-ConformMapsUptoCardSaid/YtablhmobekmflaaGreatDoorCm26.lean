/- Texts laid together. -/
import Derived.Test.YtablhmobekmflaaGreatDoorCm25
import Derived.Test.YtablhmobekmflaaGreatDoorCm23
set_option linter.unusedVariables false
set_option linter.unusedSimpArgs false
set_option maxRecDepth 100000
namespace Go.Proofs.YtablhmobekmflaaGreatDoor
section
open Go.RowKit
def qKo (e:Edl) (w:World) (en:Ending) (w':World):Prop:=∃ A' n' c',en = .returned (.tuple #[.agg ((joinE e).cells A' n' c'),.int .i64 (qAn e)])∧qBd w' A' n' (joinE e).cuts∧n'≤c'∧Ext w w'∧∀ ad,A'=some ad→w.heap.size≤ad.block
set_option maxHeartbeats 8000000 in
theorem JoinF_any (e:Edl) (A:Option Addr) (n c:Nat) (w:World) (hE:Env w) (hl:qBd w A n e.cuts) (hn:n≤1000000) (hok:qJr e) :
 Calls Tryz.prog 55 #[.agg (e.cells A n c)] w (qKo e w):=by
 have HL:=gH hl;have HLn:=gH hl.len;have HX:=gH (((Ext.refl w).alloc (.cells (e.cells A n c) 28)).alloc (.cells qGc 28));have HB0:=gH ((Blk.new w 28 (e.cells A n c)).alloc (.cells qGc 28));have HB1:=gH (Blk.new' (w:=w.alloc (.cells (e.cells A n c) 28)) (g:=w.heap.size+1) (t:=28) (cs:=qGc) (by simp));have HCk:=gH (fun w' (hx:Ext w w')=>qKj e A n c w' (hE.ext hx) (hl.ext hx) hn hok.r0 hok.r1 hok.title hok.fits);have HSn:=gH (fun (h:qAn e=0) (c:Cut) (hc:c∈e.cuts)=>qFl h hc);have HJs:=gH (fun (h:qAn e=0) (k:Nat) (hk:k≤n)=>joinC_sane (l:=e.cuts) (fun c hc=>qFl h hc) k (by rw [hl.len];exact hk));have HJl:=gH (fun (k:Nat) (hk:k≤n)=>qPg e.cuts k (by rw [hl.len];exact hk));have HJe:=gH (@joinE_err e);have HJo:=gH (@qIv e);clear hl hok hE;unfold qKo;unfold Edl.cells qGc at *;go_enter Tryz.func55,Tryz.ntmps55;go_wp2_with (refine qAc rfl 28 (.tmp 1) rfl w.heap.size 28 _ _ (by exact rfl) (by exact HB0.out) Tryz.underlying28 rfl (by exact qBy) ?_);refine (HCk.out _ HX.out).mono ?_;rintro en w1 ⟨rfl,hx1⟩;have HX1:=gH (HX.out.trans hx1);have HBl:=gH (HB0.out.ext hx1);have HBr:=gH (HB1.out.ext hx1);clear hx1 HB0 HB1 HX
 by_cases hee:qAn e=0
 case neg =>
  (have hne:(qAn e != 0)=true:=by simpa using hee);have HEr:=gH hee;clear hee;go_wp2_with (refine qAi rfl 28 (.tmp 2) (.tmp 13) rfl (w.heap.size+1) 28 _ _ (by exact rfl) (by exact rfl) (by exact HBr.out) (by exact rfl) (by exact qBy) (by simp [Value.oneCell']) ?_);refine bodyPost_ret (v:=.tuple #[.agg #[.string ⟨#[]⟩,.int .u8 0,.bool false,.slice none 0 0],.int .i64 (qAn e)]) ?_ rfl ⟨none,0,0,by rw [HJe.out HEr.out],by rw [HJe.out HEr.out];exact Sl.nil,Nat.le_refl _,?_,fun ad h=>by cases h⟩
  · exact qDb (P:=Tryz.prog) Tryz.results55 (g:=w.heap.size+1) rfl (by exact HBr.out.put _) Tryz.underlying28 rfl qBy
  · exact HX1.out.put (by omega) _ _
 case pos =>
  rw [hee];have HZ:=gH hee;have HJ:=gH (HJo.out hee);clear hee HJe HJo;(have hcell1:=fun o=>HBl.out.cell o);go_wp2_with fail;clear hcell1
  go_loopw [5,18] (fun v i wr=>JoinRel w1 n e.cuts v i wr) (fun _ i _=>n-(intOf i).toNat)
  case atStart=>exact ⟨0,Nat.zero_le _,rfl,Ext.refl _,⟨rfl,.inl ⟨rfl,rfl⟩⟩⟩
  case round =>
   obtain ⟨k,hk,rfl,hx,hown⟩:=hrel;have HXr:=gH (HX1.out.trans hx);have HBlr:=gH (HBl.out.ext hx);have HBrr:=gH (HBr.out.ext hx);have hb1:=HBr.out.lt;have hb2:=hx.size;have hjl:=HJl.out k hk;have HO:=gH hown;clear hown
   by_cases hlt:k<n
   · obtain ⟨b,off,r,rfl,hr,c0,c1,c2,c3,c4,c5,c6⟩:=(HL.out.ext HXr.out).at7 hlt
     have HT:=gH (show qAx (e.cuts.take (k+1))=qFm (qAx (e.cuts.take k)) r by rw [take_snoc' e.cuts k r hr,qMb]);have hsr:=HSn.out HZ.out r (List.mem_of_getElem? hr);have HSr:=gH hsr;have HSj:=gH (HJs.out HZ.out k hk);clear hr hsr;generalize qAx (e.cuts.take k)=os at *;obtain ⟨num,rl,src,inn,out,nn,dd⟩:=r;have HBc:=gH (Blk.new wr 91 (Cut.cells ⟨num,rl,src,inn,out,nn,dd⟩));have HXc:=gH ((Ext.refl wr).alloc (.cells (Cut.cells ⟨num,rl,src,inn,out,nn,dd⟩) 91));unfold Cut.cells at HBc HXc;dsimp only at *
     rcases Classical.em (os=[]) with hos | hos
     · subst hos
       obtain ⟨A',cap',rfl,hcap,hcm,_,_⟩:=qBg (f:=Cut.vals) (size:=7) (l:=[]) (fun _=>rfl) rfl HO.out;have HT2:=gH (HT.out.trans (qIk _));simp only [List.length_nil] at *;go_wp2_with fail;go_quiet (fail);go_upto_region 11 with fail;refine qBs ?_;intro w3 hx3 hs3;clear hs3;have HXw3:=gH (HXc.out.trans hx3);have HO3:=gH (qAh HO.out HXw3.out);have HBc3:=gH (HBc.out.ext hx3);have hb3:=HXw3.out.size;clear hx3;go_wp2_with (first | (refine qAc rfl 91 (.tmp 7) rfl wr.heap.size 91 _ _ (by exact rfl) (by exact HBc3.out) Tryz.underlying91 rfl (by exact qCk) ?_) | (at_builtin;refine qAf rfl (.tmp 43) (.tmp 45) 23 rfl qNx Tryz.underlying23 rfl (by decide) (HO3.out.alloc _) (by exact rfl) w3.heap.size _ (by exact rfl) (by exact Blk.new' rfl) (by exact rfl) (by simp [Value.oneCell']) (by omega) (by simp [maxLen]<;>omega) (by simp<;>omega) ?_;intro v5 w5 hown5 hgr5;have HO5:=gH hown5;have HX5:=gH (Ext.grown ((hx.trans HXw3.out).alloc _) hgr5 (fun q hq=>qAp HO3.out q hq));clear hown5 hgr5));exact ⟨⟨k+1,by omega,by go_num,HX5.out,by rw [HT2.out];exact HO5.out⟩,by simp [intOf];omega⟩
     · obtain ⟨ps,p,rfl⟩:=snoc_of hos
       clear hos;(have hlen:(ps++[p]).length=ps.length+1:=by simp);rw [hlen] at HO hjl;clear hlen;obtain ⟨g,cap,rfl,hg1,hg2,hCp⟩:=own_cell HO.out;have HCp:=gH hCp;have hsp:=HSj.out p (by simp);have HGo:=gH (fun w'=>goesOn_any p ⟨num,rl,src,inn,out,nn,dd⟩ w' hsp HSr.out);have HUp:Hid ((p.upto ⟨num,rl,src,inn,out,nn,dd⟩)={ p with out:=out }):=rfl;clear hCp hsp
       cases hgo:qEr p ⟨num,rl,src,inn,out,nn,dd⟩
       · have HT2:=gH (HT.out.trans (qJn hgo))
         rw [hgo] at HGo;clear hgo;unfold Cut.cells at HGo;dsimp only at HGo;go_wp2_with fail;refine qAt [.int .i64 (ps.length:Int),.bool true,.bool true,.slice (some ⟨g,0,none⟩) (ps.length+1) cap,.int .i64 (ps.length:Int),.pointer (some ⟨g,0+ps.length*7,none⟩),.agg #[.int .i64 p.num,.string p.reel,.int .i64 p.src,.int .i64 p.inn,.int .i64 p.out,.int .i64 p.n,.int .i64 p.d],.agg #[.int .i64 num,.string rl,.int .i64 src,.int .i64 inn,.int .i64 out,.int .i64 nn,.int .i64 dd],.bool false,.bool false] [(25,.int .i64 (ps.length:Int)),(26,.bool true),(27,.bool true),(28,.slice (some ⟨g,0,none⟩) (ps.length+1) cap),(29,.int .i64 (ps.length:Int)),(30,.pointer (some ⟨g,0+ps.length*7,none⟩)),(31,.agg #[.int .i64 p.num,.string p.reel,.int .i64 p.src,.int .i64 p.inn,.int .i64 p.out,.int .i64 p.n,.int .i64 p.d]),(32,.agg #[.int .i64 num,.string rl,.int .i64 src,.int .i64 inn,.int .i64 out,.int .i64 nn,.int .i64 dd]),(33,.bool false),(34,.bool false)] (by kernel_rfl) (by kernel_rfl) (by kernel_rfl) rfl rfl ?_ ?_
         · intro i o ho a w' K' hx hn hd hk
           match i,ho with
           | 0,ho =>
            simp only [gA,gB,gC,gD] at ho;subst ho;refine qAd rfl ?_;exact qAv _ _ rfl ((hn 8 rfl).trans (show _ = .int .i64 (ps.length:Int) from rfl)) (hk _ rfl w' (Ext.refl _))
           | 1,ho =>
            simp only [gA,gB,gC,gD] at ho;subst ho;refine qAd rfl ?_;exact qCh rfl (qAb (hd 0 25 (.int .i64 (ps.length:Int)) rfl rfl rfl)) rfl (by first | (go_simp;done) | (go_simp;exact qCq (by omega) (by omega)) | (go_simp;omega)) (hk _ rfl w' (Ext.refl _))
           | 2,ho =>
            simp only [gA,gB,gC,gD] at ho;subst ho;refine qAd rfl ?_;exact qAv _ _ rfl (qAb (hd 1 26 (.bool true) rfl rfl rfl)) (hk _ rfl w' (Ext.refl _))
           | 3,ho =>
            simp only [gA,gB,gC,gD] at ho;subst ho;refine qAe rfl rfl (hd 2 27 (.bool true) rfl rfl rfl) rfl ?_;exact qAv _ _ rfl ((hn 5 rfl).trans (show _ = .slice (some ⟨g,0,none⟩) (ps.length+1) cap from rfl)) (hk _ rfl w' (Ext.refl _))
           | 4,ho =>
            simp only [gA,gB,gC,gD] at ho;subst ho;refine qAe rfl rfl (hd 2 27 (.bool true) rfl rfl rfl) rfl ?_;exact qAv _ _ rfl ((hn 8 rfl).trans (show _ = .int .i64 (ps.length:Int) from rfl)) (hk _ rfl w' (Ext.refl _))
           | 5,ho =>
            simp only [gA,gB,gC,gD] at ho;subst ho;refine qAe rfl rfl (hd 2 27 (.bool true) rfl rfl rfl) rfl ?_;exact qLg rfl (qAb (hd 3 28 (.slice (some ⟨g,0,none⟩) (ps.length+1) cap) rfl rfl rfl)) (qAb (hd 4 29 (.int .i64 (ps.length:Int)) rfl rfl rfl)) (by omega) (hk _ rfl w' (Ext.refl _))
           | 6,ho =>
            simp only [gA,gB,gC,gD] at ho;subst ho;refine qAe rfl rfl (hd 2 27 (.bool true) rfl rfl rfl) rfl ?_;exact qHt rfl g _ p (qAb (hd 5 30 (.pointer (some ⟨g,0+ps.length*7,none⟩)) rfl rfl rfl)) (by rw [Nat.zero_add];exact Cells.stays _ _ _ _ _ _ hx (Cells.stays _ _ _ _ _ _ HXc.out HCp.out)) (hk _ rfl w' (Ext.refl _))
           | 7,ho =>
            simp only [gA,gB,gC,gD] at ho;subst ho;refine qAe rfl rfl (hd 2 27 (.bool true) rfl rfl rfl) rfl ?_;exact qCd 91 (.tmp 7) rfl _ 91 _ _ ((hn 7 rfl).trans (show _=Value.pointer (some ⟨wr.heap.size,0,none⟩) from rfl)) (HBc.out.ext hx) Tryz.underlying91 rfl (by exact qCk) (hk _ rfl w' (Ext.refl _))
           | 8,ho =>
            simp only [gA,gB,gC,gD] at ho;subst ho;refine qAe rfl rfl (hd 2 27 (.bool true) rfl rfl rfl) rfl ?_;exact qDc rfl (qAb (hd 6 31 (.agg #[.int .i64 p.num,.string p.reel,.int .i64 p.src,.int .i64 p.inn,.int .i64 p.out,.int .i64 p.n,.int .i64 p.d]) rfl rfl rfl)) (qAb (hd 7 32 (.agg #[.int .i64 num,.string rl,.int .i64 src,.int .i64 inn,.int .i64 out,.int .i64 nn,.int .i64 dd]) rfl rfl rfl)) Tryz.call115 (HGo.out _) (hk _ rfl)
           | 9,ho =>
            simp only [gA,gB,gC,gD] at ho;subst ho;refine qAd rfl ?_;exact qDg _ _ _ true _ rfl (qAb (hd 2 27 (.bool true) rfl rfl rfl)) (by exact (qAb (hd 8 33 (.bool false) rfl rfl rfl))) (hk _ rfl w' (Ext.refl _))
           | i+10,ho=>simp at ho
         intro w3 hx3;simp only [Act.put,List.foldl_cons,List.foldl_nil,List.setIfInBounds_toArray,List.set_cons_zero,List.set_cons_succ];have HXw3:=gH (HXc.out.trans hx3);have HO3:=gH (qAh HO.out HXw3.out);have HBc3:=gH (HBc.out.ext hx3);have hb3:=HXw3.out.size;clear hx3;go_wp2_with (first | (refine qAc rfl 91 (.tmp 7) rfl wr.heap.size 91 _ _ (by exact rfl) (by exact HBc3.out) Tryz.underlying91 rfl (by exact qCk) ?_) | (at_builtin;refine qAf rfl (.tmp 43) (.tmp 45) 23 rfl qNx Tryz.underlying23 rfl (by decide) (HO3.out.alloc _) (by exact rfl) w3.heap.size _ (by exact rfl) (by exact Blk.new' rfl) (by exact rfl) (by simp [Value.oneCell']) (by omega) (by simp [maxLen]<;>omega) (by simp<;>omega) ?_;intro v5 w5 hown5 hgr5;have HO5:=gH hown5;have HX5:=gH (Ext.grown ((hx.trans HXw3.out).alloc _) hgr5 (fun q hq=>qAp HO3.out q hq));clear hown5 hgr5));exact ⟨⟨k+1,by omega,by go_num,HX5.out,by rw [HT2.out];rw [show (ps++[p]++[(⟨num,rl,src,inn,out,nn,dd⟩:Cut)]).length=ps.length+1+1 by simp,List.flatMap_append];exact HO5.out⟩,by simp [intOf];omega⟩
       · have HT2:=gH (HT.out.trans (qJu hgo))
         rw [hgo] at HGo;clear hgo;unfold Cut.cells at HGo;dsimp only at HGo;go_wp2_with fail;refine qAt [.int .i64 (ps.length:Int),.bool true,.bool true,.slice (some ⟨g,0,none⟩) (ps.length+1) cap,.int .i64 (ps.length:Int),.pointer (some ⟨g,0+ps.length*7,none⟩),.agg #[.int .i64 p.num,.string p.reel,.int .i64 p.src,.int .i64 p.inn,.int .i64 p.out,.int .i64 p.n,.int .i64 p.d],.agg #[.int .i64 num,.string rl,.int .i64 src,.int .i64 inn,.int .i64 out,.int .i64 nn,.int .i64 dd],.bool true,.bool true] [(25,.int .i64 (ps.length:Int)),(26,.bool true),(27,.bool true),(28,.slice (some ⟨g,0,none⟩) (ps.length+1) cap),(29,.int .i64 (ps.length:Int)),(30,.pointer (some ⟨g,0+ps.length*7,none⟩)),(31,.agg #[.int .i64 p.num,.string p.reel,.int .i64 p.src,.int .i64 p.inn,.int .i64 p.out,.int .i64 p.n,.int .i64 p.d]),(32,.agg #[.int .i64 num,.string rl,.int .i64 src,.int .i64 inn,.int .i64 out,.int .i64 nn,.int .i64 dd]),(33,.bool true),(34,.bool true)] (by kernel_rfl) (by kernel_rfl) (by kernel_rfl) rfl rfl ?_ ?_
         · intro i o ho a w' K' hx hn hd hk
           match i,ho with
           | 0,ho =>
            simp only [gA,gB,gC,gD] at ho;subst ho;refine qAd rfl ?_;exact qAv _ _ rfl ((hn 8 rfl).trans (show _ = .int .i64 (ps.length:Int) from rfl)) (hk _ rfl w' (Ext.refl _))
           | 1,ho =>
            simp only [gA,gB,gC,gD] at ho;subst ho;refine qAd rfl ?_;exact qCh rfl (qAb (hd 0 25 (.int .i64 (ps.length:Int)) rfl rfl rfl)) rfl (by first | (go_simp;done) | (go_simp;exact qCq (by omega) (by omega)) | (go_simp;omega)) (hk _ rfl w' (Ext.refl _))
           | 2,ho =>
            simp only [gA,gB,gC,gD] at ho;subst ho;refine qAd rfl ?_;exact qAv _ _ rfl (qAb (hd 1 26 (.bool true) rfl rfl rfl)) (hk _ rfl w' (Ext.refl _))
           | 3,ho =>
            simp only [gA,gB,gC,gD] at ho;subst ho;refine qAe rfl rfl (hd 2 27 (.bool true) rfl rfl rfl) rfl ?_;exact qAv _ _ rfl ((hn 5 rfl).trans (show _ = .slice (some ⟨g,0,none⟩) (ps.length+1) cap from rfl)) (hk _ rfl w' (Ext.refl _))
           | 4,ho =>
            simp only [gA,gB,gC,gD] at ho;subst ho;refine qAe rfl rfl (hd 2 27 (.bool true) rfl rfl rfl) rfl ?_;exact qAv _ _ rfl ((hn 8 rfl).trans (show _ = .int .i64 (ps.length:Int) from rfl)) (hk _ rfl w' (Ext.refl _))
           | 5,ho =>
            simp only [gA,gB,gC,gD] at ho;subst ho;refine qAe rfl rfl (hd 2 27 (.bool true) rfl rfl rfl) rfl ?_;exact qLg rfl (qAb (hd 3 28 (.slice (some ⟨g,0,none⟩) (ps.length+1) cap) rfl rfl rfl)) (qAb (hd 4 29 (.int .i64 (ps.length:Int)) rfl rfl rfl)) (by omega) (hk _ rfl w' (Ext.refl _))
           | 6,ho =>
            simp only [gA,gB,gC,gD] at ho;subst ho;refine qAe rfl rfl (hd 2 27 (.bool true) rfl rfl rfl) rfl ?_;exact qHt rfl g _ p (qAb (hd 5 30 (.pointer (some ⟨g,0+ps.length*7,none⟩)) rfl rfl rfl)) (by rw [Nat.zero_add];exact Cells.stays _ _ _ _ _ _ hx (Cells.stays _ _ _ _ _ _ HXc.out HCp.out)) (hk _ rfl w' (Ext.refl _))
           | 7,ho =>
            simp only [gA,gB,gC,gD] at ho;subst ho;refine qAe rfl rfl (hd 2 27 (.bool true) rfl rfl rfl) rfl ?_;exact qCd 91 (.tmp 7) rfl _ 91 _ _ ((hn 7 rfl).trans (show _=Value.pointer (some ⟨wr.heap.size,0,none⟩) from rfl)) (HBc.out.ext hx) Tryz.underlying91 rfl (by exact qCk) (hk _ rfl w' (Ext.refl _))
           | 8,ho =>
            simp only [gA,gB,gC,gD] at ho;subst ho;refine qAe rfl rfl (hd 2 27 (.bool true) rfl rfl rfl) rfl ?_;exact qDc rfl (qAb (hd 6 31 (.agg #[.int .i64 p.num,.string p.reel,.int .i64 p.src,.int .i64 p.inn,.int .i64 p.out,.int .i64 p.n,.int .i64 p.d]) rfl rfl rfl)) (qAb (hd 7 32 (.agg #[.int .i64 num,.string rl,.int .i64 src,.int .i64 inn,.int .i64 out,.int .i64 nn,.int .i64 dd]) rfl rfl rfl)) Tryz.call115 (HGo.out _) (hk _ rfl)
           | 9,ho =>
            simp only [gA,gB,gC,gD] at ho;subst ho;refine qAd rfl ?_;exact qDg _ _ _ true _ rfl (qAb (hd 2 27 (.bool true) rfl rfl rfl)) (by exact (qAb (hd 8 33 (.bool true) rfl rfl rfl))) (hk _ rfl w' (Ext.refl _))
           | i+10,ho=>simp at ho
         intro w3 hx3;simp only [Act.put,List.foldl_cons,List.foldl_nil,List.setIfInBounds_toArray,List.set_cons_zero,List.set_cons_succ];have HXw3:=gH (HXc.out.trans hx3);have HO3:=gH (qAh HO.out HXw3.out);have HBc3:=gH (HBc.out.ext hx3);(have hcc3:=fun o=>HBc3.out.cell o);have hcg:=hx3.cell (HXc.out.cell (HCp.out 4 _ rfl));have hfg:=World.ownsRow.frozenAt HO3.out (ps.length*7+4);obtain ⟨hst,hgr⟩:=World.ownsRow.stored HO3.out (ps.length*7+4) (.int .i64 out);have HO5:=gH hst;have HX5:=gH (Ext.grown (hx.trans HXw3.out) hgr (fun q hq=>by cases hq;exact hg1));have HSO:=gH (set_out (ps:=ps) (p:=p) (c:=⟨num,rl,src,inn,out,nn,dd⟩));clear hst hgr hx3;go_wp2_with fail;exact ⟨⟨k+1,by omega,by go_num,HX5.out,by rw [HT2.out,show (ps++[p.upto ⟨num,rl,src,inn,out,nn,dd⟩]).length=ps.length+1 by simp,← HSO.out];exact HO5.out⟩,by simp [intOf];omega⟩
   · have hkn:k=n:=by omega
     subst hkn;have HTk:=gH (show e.cuts.take k=e.cuts from List.take_of_length_le (by have:=HLn.out;omega));obtain ⟨A',cap',rfl,hcap,hcm,hS,hfr⟩:=qBg (f:=Cut.vals) (size:=7) (fun _=>rfl) rfl HO.out;have HS:=gH hS;(have hcl:=fun o=>HBlr.out.cell o);(have hfl:=fun o=>HBlr.out.frozen o);have hset:=qBb HBlr.out 3 (.slice A' (qAx (e.cuts.take k)).length cap');have HB6:=gH (HBlr.out.put (#[.string e.title,.int .u8 e.rate,.bool e.drop,.slice A k c].setIfInBounds 3 (.slice A' (qAx (e.cuts.take k)).length cap')));have HB7:=gH (HBrr.out.put_other (g':=w.heap.size) (t':=28) (by omega) (#[.string e.title,.int .u8 e.rate,.bool e.drop,.slice A k c].setIfInBounds 3 (.slice A' (qAx (e.cuts.take k)).length cap')));have HX6:=gH (HXr.out.put (g:=w.heap.size) (Nat.le_refl _) 28 (#[.string e.title,.int .u8 e.rate,.bool e.drop,.slice A k c].setIfInBounds 3 (.slice A' (qAx (e.cuts.take k)).length cap')));have HO6:Hid (∀ ad,A'=some ad→w1.heap.size≤ad.block):=hfr;clear hS hfr;have HB8:=gH (show Blk (wr.setCell ⟨w.heap.size,3,none⟩ (.slice A' (qAx (e.cuts.take k)).length cap')) w.heap.size 28 #[.string e.title,.int .u8 e.rate,.bool e.drop,.slice A' (qAx (e.cuts.take k)).length cap'] by rw [hset];exact HB6.out);have HB9:=gH (show Blk (wr.setCell ⟨w.heap.size,3,none⟩ (.slice A' (qAx (e.cuts.take k)).length cap')) (w.heap.size+1) 28 #[.string ⟨#[]⟩,.int .u8 0,.bool false,.slice none 0 0] by rw [hset];exact HB7.out)
     have HX8:=gH (show Ext w (wr.setCell ⟨w.heap.size,3,none⟩ (.slice A' (qAx (e.cuts.take k)).length cap')) by rw [hset];exact HX6.out);have HX9:=gH (show Ext w1 wr from hx);(have HC8:Hid (∀ p:Addr,p.block≠w.heap.size→(wr.setCell ⟨w.heap.size,3,none⟩ (.slice A' (qAx (e.cuts.take k)).length cap')).cell? p=wr.cell? p):=fun p hp=>by rw [hset];exact qDo hp);clear hset HB6 HB7 HX6;go_wp2_with (first | (refine qAc rfl 28 (.tmp 1) rfl w.heap.size 28 _ _ (by exact rfl) (by exact HB8.out) Tryz.underlying28 rfl (by exact qBy) ?_) | (refine qAi rfl 28 (.tmp 2) (.tmp 50) rfl (w.heap.size+1) 28 _ _ (by exact rfl) (by exact rfl) (by exact HB9.out) (by exact rfl) (by exact qBy) (by simp [Value.oneCell']) ?_));(have hjc:qAx (e.cuts.take k)=qAx e.cuts:=by rw [HTk.out]);refine bodyPost_ret (v:=.tuple #[.agg #[.string e.title,.int .u8 e.rate,.bool e.drop,.slice A' (qAx (e.cuts.take k)).length cap'],.int .i64 0]) ?_ rfl ⟨A',(qAx (e.cuts.take k)).length,cap',by rw [HJ.out,HZ.out],?_,hcap,?_,?_⟩
     · exact qDb (P:=Tryz.prog) Tryz.results55 (g:=w.heap.size+1) rfl (by exact HB9.out.put _) Tryz.underlying28 rfl qBy
     · rw [HJ.out]
       show qBd _ A' (qAx (e.cuts.take k)).length (qAx e.cuts)
       rw [← hjc];(refine qBd.same HS.out fun ad had o=>?_);have hge:=HO6.out ad had;rw [qDo (by show ad.block≠_;omega)];exact HC8.out _ (by show ad.block≠_;omega)
     · exact HX8.out.put (by omega) _ _
     · exact fun ad had=>Nat.le_trans HX1.out.size (HO6.out ad had)
set_option maxHeartbeats 8000000 in
theorem RJoinF_any (e:Edl) (A:Option Addr) (n c:Nat) (w:World) (hl:qBd w A n e.cuts) (hn:n≤1000000) (hok:qJr e) :
 Calls Tryz.prog 74 #[.agg (e.cells A n c)] w (qKo e w):=by
 have HL:=gH hl;have HLn:=gH hl.len;have HX:=gH (((Ext.refl w).alloc (.cells (e.cells A n c) 25)).alloc (.cells qGc 25));have HB0:=gH ((Blk.new w 25 (e.cells A n c)).alloc (.cells qGc 25));have HB1:=gH (Blk.new' (w:=w.alloc (.cells (e.cells A n c) 25)) (g:=w.heap.size+1) (t:=25) (cs:=qGc) (by simp));have HCk:=gH (fun w' (hx:Ext w w')=>qGl e A n c w' (hl.ext hx) hn hok.r0 hok.r1 hok.title hok.fits);have HSn:=gH (fun (h:qAn e=0) (c:Cut) (hc:c∈e.cuts)=>qFl h hc);have HJs:=gH (fun (h:qAn e=0) (k:Nat) (hk:k≤n)=>joinC_sane (l:=e.cuts) (fun c hc=>qFl h hc) k (by rw [hl.len];exact hk));have HJl:=gH (fun (k:Nat) (hk:k≤n)=>qPg e.cuts k (by rw [hl.len];exact hk));have HJe:=gH (@joinE_err e);have HJo:=gH (@qIv e);clear hl hok;unfold qKo;unfold Edl.cells qGc at *;go_enter Tryz.func74,Tryz.ntmps74;go_wp2_with (refine qAc rfl 25 (.tmp 1) rfl w.heap.size 25 _ _ (by exact rfl) (by exact HB0.out) Tryz.underlying25 rfl (by exact qBl) ?_);refine (HCk.out _ HX.out).mono ?_;rintro en w1 ⟨rfl,hx1⟩;have HX1:=gH (HX.out.trans hx1);have HBl:=gH (HB0.out.ext hx1);have HBr:=gH (HB1.out.ext hx1);clear hx1 HB0 HB1 HX
 by_cases hee:qAn e=0
 case neg =>
  (have hne:(qAn e != 0)=true:=by simpa using hee);have HEr:=gH hee;clear hee;go_wp2_with (refine qAi rfl 25 (.tmp 2) (.tmp 13) rfl (w.heap.size+1) 25 _ _ (by exact rfl) (by exact rfl) (by exact HBr.out) (by exact rfl) (by exact qBl) (by simp [Value.oneCell']) ?_);refine bodyPost_ret (v:=.tuple #[.agg #[.string ⟨#[]⟩,.int .u8 0,.bool false,.slice none 0 0],.int .i64 (qAn e)]) ?_ rfl ⟨none,0,0,by rw [HJe.out HEr.out],by rw [HJe.out HEr.out];exact Sl.nil,Nat.le_refl _,?_,fun ad h=>by cases h⟩
  · exact qDb (P:=Tryz.prog) Tryz.results74 (g:=w.heap.size+1) rfl (by exact HBr.out.put _) Tryz.underlying25 rfl qBl
  · exact HX1.out.put (by omega) _ _
 case pos =>
  rw [hee];have HZ:=gH hee;have HJ:=gH (HJo.out hee);clear hee HJe HJo;(have hcell1:=fun o=>HBl.out.cell o);go_wp2_with fail;clear hcell1
  go_loopw [5,18] (fun v i wr=>JoinRel w1 n e.cuts v i wr) (fun _ i _=>n-(intOf i).toNat)
  case atStart=>exact ⟨0,Nat.zero_le _,rfl,Ext.refl _,⟨rfl,.inl ⟨rfl,rfl⟩⟩⟩
  case round =>
   obtain ⟨k,hk,rfl,hx,hown⟩:=hrel;have HXr:=gH (HX1.out.trans hx);have HBlr:=gH (HBl.out.ext hx);have HBrr:=gH (HBr.out.ext hx);have hb1:=HBr.out.lt;have hb2:=hx.size;have hjl:=HJl.out k hk;have HO:=gH hown;clear hown
   by_cases hlt:k<n
   · obtain ⟨b,off,r,rfl,hr,c0,c1,c2,c3,c4,c5,c6⟩:=(HL.out.ext HXr.out).at7 hlt
     have HT:=gH (show qAx (e.cuts.take (k+1))=qFm (qAx (e.cuts.take k)) r by rw [take_snoc' e.cuts k r hr,qMb]);have hsr:=HSn.out HZ.out r (List.mem_of_getElem? hr);have HSr:=gH hsr;have HSj:=gH (HJs.out HZ.out k hk);clear hr hsr;generalize qAx (e.cuts.take k)=os at *;obtain ⟨num,rl,src,inn,out,nn,dd⟩:=r;have HBc:=gH (Blk.new wr 91 (Cut.cells ⟨num,rl,src,inn,out,nn,dd⟩));have HXc:=gH ((Ext.refl wr).alloc (.cells (Cut.cells ⟨num,rl,src,inn,out,nn,dd⟩) 91));unfold Cut.cells at HBc HXc;dsimp only at *
     rcases Classical.em (os=[]) with hos | hos
     · subst hos
       obtain ⟨A',cap',rfl,hcap,hcm,_,_⟩:=qBg (f:=Cut.vals) (size:=7) (l:=[]) (fun _=>rfl) rfl HO.out;have HT2:=gH (HT.out.trans (qIk _));simp only [List.length_nil] at *;go_wp2_with fail;go_quiet (fail);go_upto_region 11 with fail;refine qBs ?_;intro w3 hx3 hs3;clear hs3;have HXw3:=gH (HXc.out.trans hx3);have HO3:=gH (qAh HO.out HXw3.out);have HBc3:=gH (HBc.out.ext hx3);have hb3:=HXw3.out.size;clear hx3;go_wp2_with (first | (refine qAc rfl 91 (.tmp 7) rfl wr.heap.size 91 _ _ (by exact rfl) (by exact HBc3.out) Tryz.underlying91 rfl (by exact qCk) ?_) | (at_builtin;refine qAf rfl (.tmp 44) (.tmp 46) 23 rfl qNx Tryz.underlying23 rfl (by decide) (HO3.out.alloc _) (by exact rfl) w3.heap.size _ (by exact rfl) (by exact Blk.new' rfl) (by exact rfl) (by simp [Value.oneCell']) (by omega) (by simp [maxLen]<;>omega) (by simp<;>omega) ?_;intro v5 w5 hown5 hgr5;have HO5:=gH hown5;have HX5:=gH (Ext.grown ((hx.trans HXw3.out).alloc _) hgr5 (fun q hq=>qAp HO3.out q hq));clear hown5 hgr5));exact ⟨⟨k+1,by omega,by go_num,HX5.out,by rw [HT2.out];exact HO5.out⟩,by simp [intOf];omega⟩
     · obtain ⟨ps,p,rfl⟩:=snoc_of hos
       clear hos;(have hlen:(ps++[p]).length=ps.length+1:=by simp);rw [hlen] at HO hjl;clear hlen;obtain ⟨g,cap,rfl,hg1,hg2,hCp⟩:=own_cell HO.out;have HCp:=gH hCp;have hsp:=HSj.out p (by simp);have HGo:=gH (fun w'=>goes_any p ⟨num,rl,src,inn,out,nn,dd⟩ w' hsp HSr.out);have HUp:Hid ((p.upto ⟨num,rl,src,inn,out,nn,dd⟩)={ p with out:=out }):=rfl;clear hCp hsp
       cases hgo:qEr p ⟨num,rl,src,inn,out,nn,dd⟩
       · have HT2:=gH (HT.out.trans (qJn hgo))
         rw [hgo] at HGo;clear hgo;unfold Cut.cells at HGo;dsimp only at HGo;go_wp2_with fail;refine qAt [.int .i64 ((ps.length:Int)+1),.bool true,.bool true,.slice (some ⟨g,0,none⟩) (ps.length+1) cap,.int .i64 ((ps.length:Int)+1),.int .i64 (ps.length:Int),.pointer (some ⟨g,0+ps.length*7,none⟩),.agg #[.int .i64 p.num,.string p.reel,.int .i64 p.src,.int .i64 p.inn,.int .i64 p.out,.int .i64 p.n,.int .i64 p.d],.agg #[.int .i64 num,.string rl,.int .i64 src,.int .i64 inn,.int .i64 out,.int .i64 nn,.int .i64 dd],.bool false,.bool false] [(24,.int .i64 ((ps.length:Int)+1)),(25,.bool true),(26,.bool true),(27,.slice (some ⟨g,0,none⟩) (ps.length+1) cap),(28,.int .i64 ((ps.length:Int)+1)),(29,.int .i64 (ps.length:Int)),(30,.pointer (some ⟨g,0+ps.length*7,none⟩)),(31,.agg #[.int .i64 p.num,.string p.reel,.int .i64 p.src,.int .i64 p.inn,.int .i64 p.out,.int .i64 p.n,.int .i64 p.d]),(32,.agg #[.int .i64 num,.string rl,.int .i64 src,.int .i64 inn,.int .i64 out,.int .i64 nn,.int .i64 dd]),(33,.bool false),(34,.bool false)] (by kernel_rfl) (by kernel_rfl) (by kernel_rfl) rfl rfl ?_ ?_
         · intro i o ho a w' K' hx hn hd hk
           match i,ho with
           | 0,ho =>
            simp only [gA,gB,gC,gD] at ho;subst ho;refine qAd rfl ?_;exact qAv _ _ rfl ((hn 8 rfl).trans (show _ = .int .i64 ((ps.length:Int)+1) from rfl)) (hk _ rfl w' (Ext.refl _))
           | 1,ho =>
            simp only [gA,gB,gC,gD] at ho;subst ho;refine qAd rfl ?_;exact qCh rfl (qAb (hd 0 24 (.int .i64 ((ps.length:Int)+1)) rfl rfl rfl)) rfl (by first | (go_simp;done) | (go_simp;exact qCq (by omega) (by omega)) | (go_simp;omega)) (hk _ rfl w' (Ext.refl _))
           | 2,ho =>
            simp only [gA,gB,gC,gD] at ho;subst ho;refine qAd rfl ?_;exact qAv _ _ rfl (qAb (hd 1 25 (.bool true) rfl rfl rfl)) (hk _ rfl w' (Ext.refl _))
           | 3,ho =>
            simp only [gA,gB,gC,gD] at ho;subst ho;refine qAe rfl rfl (hd 2 26 (.bool true) rfl rfl rfl) rfl ?_;exact qAv _ _ rfl ((hn 5 rfl).trans (show _ = .slice (some ⟨g,0,none⟩) (ps.length+1) cap from rfl)) (hk _ rfl w' (Ext.refl _))
           | 4,ho =>
            simp only [gA,gB,gC,gD] at ho;subst ho;refine qAe rfl rfl (hd 2 26 (.bool true) rfl rfl rfl) rfl ?_;exact qAv _ _ rfl ((hn 8 rfl).trans (show _ = .int .i64 ((ps.length:Int)+1) from rfl)) (hk _ rfl w' (Ext.refl _))
           | 5,ho =>
            simp only [gA,gB,gC,gD] at ho;subst ho;refine qAe rfl rfl (hd 2 26 (.bool true) rfl rfl rfl) rfl ?_;exact qCh rfl (qAb (hd 4 28 (.int .i64 ((ps.length:Int)+1)) rfl rfl rfl)) rfl (by first | (go_simp;done) | (go_simp;exact qCq (by omega) (by omega)) | (go_simp;omega)) (hk _ rfl w' (Ext.refl _))
           | 6,ho =>
            simp only [gA,gB,gC,gD] at ho;subst ho;refine qAe rfl rfl (hd 2 26 (.bool true) rfl rfl rfl) rfl ?_;exact qLg rfl (qAb (hd 3 27 (.slice (some ⟨g,0,none⟩) (ps.length+1) cap) rfl rfl rfl)) (qAb (hd 5 29 (.int .i64 (ps.length:Int)) rfl rfl rfl)) (by omega) (hk _ rfl w' (Ext.refl _))
           | 7,ho =>
            simp only [gA,gB,gC,gD] at ho;subst ho;refine qAe rfl rfl (hd 2 26 (.bool true) rfl rfl rfl) rfl ?_;exact qHt rfl g _ p (qAb (hd 6 30 (.pointer (some ⟨g,0+ps.length*7,none⟩)) rfl rfl rfl)) (by rw [Nat.zero_add];exact Cells.stays _ _ _ _ _ _ hx (Cells.stays _ _ _ _ _ _ HXc.out HCp.out)) (hk _ rfl w' (Ext.refl _))
           | 8,ho =>
            simp only [gA,gB,gC,gD] at ho;subst ho;refine qAe rfl rfl (hd 2 26 (.bool true) rfl rfl rfl) rfl ?_;exact qCd 91 (.tmp 7) rfl _ 91 _ _ ((hn 7 rfl).trans (show _=Value.pointer (some ⟨wr.heap.size,0,none⟩) from rfl)) (HBc.out.ext hx) Tryz.underlying91 rfl (by exact qCk) (hk _ rfl w' (Ext.refl _))
           | 9,ho =>
            simp only [gA,gB,gC,gD] at ho;subst ho;refine qAe rfl rfl (hd 2 26 (.bool true) rfl rfl rfl) rfl ?_;exact qDc rfl (qAb (hd 7 31 (.agg #[.int .i64 p.num,.string p.reel,.int .i64 p.src,.int .i64 p.inn,.int .i64 p.out,.int .i64 p.n,.int .i64 p.d]) rfl rfl rfl)) (qAb (hd 8 32 (.agg #[.int .i64 num,.string rl,.int .i64 src,.int .i64 inn,.int .i64 out,.int .i64 nn,.int .i64 dd]) rfl rfl rfl)) Tryz.call136 (HGo.out _) (hk _ rfl)
           | 10,ho =>
            simp only [gA,gB,gC,gD] at ho;subst ho;refine qAd rfl ?_;exact qDg _ _ _ true _ rfl (qAb (hd 2 26 (.bool true) rfl rfl rfl)) (by exact (qAb (hd 9 33 (.bool false) rfl rfl rfl))) (hk _ rfl w' (Ext.refl _))
           | i+11,ho=>simp at ho
         intro w3 hx3;simp only [Act.put,List.foldl_cons,List.foldl_nil,List.setIfInBounds_toArray,List.set_cons_zero,List.set_cons_succ];have HXw3:=gH (HXc.out.trans hx3);have HO3:=gH (qAh HO.out HXw3.out);have HBc3:=gH (HBc.out.ext hx3);have hb3:=HXw3.out.size;clear hx3;go_wp2_with (first | (refine qAc rfl 91 (.tmp 7) rfl wr.heap.size 91 _ _ (by exact rfl) (by exact HBc3.out) Tryz.underlying91 rfl (by exact qCk) ?_) | (at_builtin;refine qAf rfl (.tmp 44) (.tmp 46) 23 rfl qNx Tryz.underlying23 rfl (by decide) (HO3.out.alloc _) (by exact rfl) w3.heap.size _ (by exact rfl) (by exact Blk.new' rfl) (by exact rfl) (by simp [Value.oneCell']) (by omega) (by simp [maxLen]<;>omega) (by simp<;>omega) ?_;intro v5 w5 hown5 hgr5;have HO5:=gH hown5;have HX5:=gH (Ext.grown ((hx.trans HXw3.out).alloc _) hgr5 (fun q hq=>qAp HO3.out q hq));clear hown5 hgr5));exact ⟨⟨k+1,by omega,by go_num,HX5.out,by rw [HT2.out];rw [show (ps++[p]++[(⟨num,rl,src,inn,out,nn,dd⟩:Cut)]).length=ps.length+1+1 by simp,List.flatMap_append];exact HO5.out⟩,by simp [intOf];omega⟩
       · have HT2:=gH (HT.out.trans (qJu hgo))
         rw [hgo] at HGo;clear hgo;unfold Cut.cells at HGo;dsimp only at HGo;go_wp2_with fail;refine qAt [.int .i64 ((ps.length:Int)+1),.bool true,.bool true,.slice (some ⟨g,0,none⟩) (ps.length+1) cap,.int .i64 ((ps.length:Int)+1),.int .i64 (ps.length:Int),.pointer (some ⟨g,0+ps.length*7,none⟩),.agg #[.int .i64 p.num,.string p.reel,.int .i64 p.src,.int .i64 p.inn,.int .i64 p.out,.int .i64 p.n,.int .i64 p.d],.agg #[.int .i64 num,.string rl,.int .i64 src,.int .i64 inn,.int .i64 out,.int .i64 nn,.int .i64 dd],.bool true,.bool true] [(24,.int .i64 ((ps.length:Int)+1)),(25,.bool true),(26,.bool true),(27,.slice (some ⟨g,0,none⟩) (ps.length+1) cap),(28,.int .i64 ((ps.length:Int)+1)),(29,.int .i64 (ps.length:Int)),(30,.pointer (some ⟨g,0+ps.length*7,none⟩)),(31,.agg #[.int .i64 p.num,.string p.reel,.int .i64 p.src,.int .i64 p.inn,.int .i64 p.out,.int .i64 p.n,.int .i64 p.d]),(32,.agg #[.int .i64 num,.string rl,.int .i64 src,.int .i64 inn,.int .i64 out,.int .i64 nn,.int .i64 dd]),(33,.bool true),(34,.bool true)] (by kernel_rfl) (by kernel_rfl) (by kernel_rfl) rfl rfl ?_ ?_
         · intro i o ho a w' K' hx hn hd hk
           match i,ho with
           | 0,ho =>
            simp only [gA,gB,gC,gD] at ho;subst ho;refine qAd rfl ?_;exact qAv _ _ rfl ((hn 8 rfl).trans (show _ = .int .i64 ((ps.length:Int)+1) from rfl)) (hk _ rfl w' (Ext.refl _))
           | 1,ho =>
            simp only [gA,gB,gC,gD] at ho;subst ho;refine qAd rfl ?_;exact qCh rfl (qAb (hd 0 24 (.int .i64 ((ps.length:Int)+1)) rfl rfl rfl)) rfl (by first | (go_simp;done) | (go_simp;exact qCq (by omega) (by omega)) | (go_simp;omega)) (hk _ rfl w' (Ext.refl _))
           | 2,ho =>
            simp only [gA,gB,gC,gD] at ho;subst ho;refine qAd rfl ?_;exact qAv _ _ rfl (qAb (hd 1 25 (.bool true) rfl rfl rfl)) (hk _ rfl w' (Ext.refl _))
           | 3,ho =>
            simp only [gA,gB,gC,gD] at ho;subst ho;refine qAe rfl rfl (hd 2 26 (.bool true) rfl rfl rfl) rfl ?_;exact qAv _ _ rfl ((hn 5 rfl).trans (show _ = .slice (some ⟨g,0,none⟩) (ps.length+1) cap from rfl)) (hk _ rfl w' (Ext.refl _))
           | 4,ho =>
            simp only [gA,gB,gC,gD] at ho;subst ho;refine qAe rfl rfl (hd 2 26 (.bool true) rfl rfl rfl) rfl ?_;exact qAv _ _ rfl ((hn 8 rfl).trans (show _ = .int .i64 ((ps.length:Int)+1) from rfl)) (hk _ rfl w' (Ext.refl _))
           | 5,ho =>
            simp only [gA,gB,gC,gD] at ho;subst ho;refine qAe rfl rfl (hd 2 26 (.bool true) rfl rfl rfl) rfl ?_;exact qCh rfl (qAb (hd 4 28 (.int .i64 ((ps.length:Int)+1)) rfl rfl rfl)) rfl (by first | (go_simp;done) | (go_simp;exact qCq (by omega) (by omega)) | (go_simp;omega)) (hk _ rfl w' (Ext.refl _))
           | 6,ho =>
            simp only [gA,gB,gC,gD] at ho;subst ho;refine qAe rfl rfl (hd 2 26 (.bool true) rfl rfl rfl) rfl ?_;exact qLg rfl (qAb (hd 3 27 (.slice (some ⟨g,0,none⟩) (ps.length+1) cap) rfl rfl rfl)) (qAb (hd 5 29 (.int .i64 (ps.length:Int)) rfl rfl rfl)) (by omega) (hk _ rfl w' (Ext.refl _))
           | 7,ho =>
            simp only [gA,gB,gC,gD] at ho;subst ho;refine qAe rfl rfl (hd 2 26 (.bool true) rfl rfl rfl) rfl ?_;exact qHt rfl g _ p (qAb (hd 6 30 (.pointer (some ⟨g,0+ps.length*7,none⟩)) rfl rfl rfl)) (by rw [Nat.zero_add];exact Cells.stays _ _ _ _ _ _ hx (Cells.stays _ _ _ _ _ _ HXc.out HCp.out)) (hk _ rfl w' (Ext.refl _))
           | 8,ho =>
            simp only [gA,gB,gC,gD] at ho;subst ho;refine qAe rfl rfl (hd 2 26 (.bool true) rfl rfl rfl) rfl ?_;exact qCd 91 (.tmp 7) rfl _ 91 _ _ ((hn 7 rfl).trans (show _=Value.pointer (some ⟨wr.heap.size,0,none⟩) from rfl)) (HBc.out.ext hx) Tryz.underlying91 rfl (by exact qCk) (hk _ rfl w' (Ext.refl _))
           | 9,ho =>
            simp only [gA,gB,gC,gD] at ho;subst ho;refine qAe rfl rfl (hd 2 26 (.bool true) rfl rfl rfl) rfl ?_;exact qDc rfl (qAb (hd 7 31 (.agg #[.int .i64 p.num,.string p.reel,.int .i64 p.src,.int .i64 p.inn,.int .i64 p.out,.int .i64 p.n,.int .i64 p.d]) rfl rfl rfl)) (qAb (hd 8 32 (.agg #[.int .i64 num,.string rl,.int .i64 src,.int .i64 inn,.int .i64 out,.int .i64 nn,.int .i64 dd]) rfl rfl rfl)) Tryz.call136 (HGo.out _) (hk _ rfl)
           | 10,ho =>
            simp only [gA,gB,gC,gD] at ho;subst ho;refine qAd rfl ?_;exact qDg _ _ _ true _ rfl (qAb (hd 2 26 (.bool true) rfl rfl rfl)) (by exact (qAb (hd 9 33 (.bool true) rfl rfl rfl))) (hk _ rfl w' (Ext.refl _))
           | i+11,ho=>simp at ho
         intro w3 hx3;simp only [Act.put,List.foldl_cons,List.foldl_nil,List.setIfInBounds_toArray,List.set_cons_zero,List.set_cons_succ];have HXw3:=gH (HXc.out.trans hx3);have HO3:=gH (qAh HO.out HXw3.out);have HBc3:=gH (HBc.out.ext hx3);(have hcc3:=fun o=>HBc3.out.cell o);have hcg:=hx3.cell (HXc.out.cell (HCp.out 4 _ rfl));have hfg:=World.ownsRow.frozenAt HO3.out (ps.length*7+4);obtain ⟨hst,hgr⟩:=World.ownsRow.stored HO3.out (ps.length*7+4) (.int .i64 out);have HO5:=gH hst;have HX5:=gH (Ext.grown (hx.trans HXw3.out) hgr (fun q hq=>by cases hq;exact hg1));have HSO:=gH (set_out (ps:=ps) (p:=p) (c:=⟨num,rl,src,inn,out,nn,dd⟩));clear hst hgr hx3;go_wp2_with fail;exact ⟨⟨k+1,by omega,by go_num,HX5.out,by rw [HT2.out,show (ps++[p.upto ⟨num,rl,src,inn,out,nn,dd⟩]).length=ps.length+1 by simp,← HSO.out];exact HO5.out⟩,by simp [intOf];omega⟩
   · have hkn:k=n:=by omega
     subst hkn;have HTk:=gH (show e.cuts.take k=e.cuts from List.take_of_length_le (by have:=HLn.out;omega));obtain ⟨A',cap',rfl,hcap,hcm,hS,hfr⟩:=qBg (f:=Cut.vals) (size:=7) (fun _=>rfl) rfl HO.out;have HS:=gH hS;(have hcl:=fun o=>HBlr.out.cell o);(have hfl:=fun o=>HBlr.out.frozen o);have hset:=qBb HBlr.out 3 (.slice A' (qAx (e.cuts.take k)).length cap');have HB6:=gH (HBlr.out.put (#[.string e.title,.int .u8 e.rate,.bool e.drop,.slice A k c].setIfInBounds 3 (.slice A' (qAx (e.cuts.take k)).length cap')));have HB7:=gH (HBrr.out.put_other (g':=w.heap.size) (t':=25) (by omega) (#[.string e.title,.int .u8 e.rate,.bool e.drop,.slice A k c].setIfInBounds 3 (.slice A' (qAx (e.cuts.take k)).length cap')));have HX6:=gH (HXr.out.put (g:=w.heap.size) (Nat.le_refl _) 25 (#[.string e.title,.int .u8 e.rate,.bool e.drop,.slice A k c].setIfInBounds 3 (.slice A' (qAx (e.cuts.take k)).length cap')));have HO6:Hid (∀ ad,A'=some ad→w1.heap.size≤ad.block):=hfr;clear hS hfr;have HB8:=gH (show Blk (wr.setCell ⟨w.heap.size,3,none⟩ (.slice A' (qAx (e.cuts.take k)).length cap')) w.heap.size 25 #[.string e.title,.int .u8 e.rate,.bool e.drop,.slice A' (qAx (e.cuts.take k)).length cap'] by rw [hset];exact HB6.out);have HB9:=gH (show Blk (wr.setCell ⟨w.heap.size,3,none⟩ (.slice A' (qAx (e.cuts.take k)).length cap')) (w.heap.size+1) 25 #[.string ⟨#[]⟩,.int .u8 0,.bool false,.slice none 0 0] by rw [hset];exact HB7.out)
     have HX8:=gH (show Ext w (wr.setCell ⟨w.heap.size,3,none⟩ (.slice A' (qAx (e.cuts.take k)).length cap')) by rw [hset];exact HX6.out);have HX9:=gH (show Ext w1 wr from hx);(have HC8:Hid (∀ p:Addr,p.block≠w.heap.size→(wr.setCell ⟨w.heap.size,3,none⟩ (.slice A' (qAx (e.cuts.take k)).length cap')).cell? p=wr.cell? p):=fun p hp=>by rw [hset];exact qDo hp);clear hset HB6 HB7 HX6;go_wp2_with (first | (refine qAc rfl 25 (.tmp 1) rfl w.heap.size 25 _ _ (by exact rfl) (by exact HB8.out) Tryz.underlying25 rfl (by exact qBl) ?_) | (refine qAi rfl 25 (.tmp 2) (.tmp 51) rfl (w.heap.size+1) 25 _ _ (by exact rfl) (by exact rfl) (by exact HB9.out) (by exact rfl) (by exact qBl) (by simp [Value.oneCell']) ?_));(have hjc:qAx (e.cuts.take k)=qAx e.cuts:=by rw [HTk.out]);refine bodyPost_ret (v:=.tuple #[.agg #[.string e.title,.int .u8 e.rate,.bool e.drop,.slice A' (qAx (e.cuts.take k)).length cap'],.int .i64 0]) ?_ rfl ⟨A',(qAx (e.cuts.take k)).length,cap',by rw [HJ.out,HZ.out],?_,hcap,?_,?_⟩
     · exact qDb (P:=Tryz.prog) Tryz.results74 (g:=w.heap.size+1) rfl (by exact HB9.out.put _) Tryz.underlying25 rfl qBl
     · rw [HJ.out]
       show qBd _ A' (qAx (e.cuts.take k)).length (qAx e.cuts)
       rw [← hjc];(refine qBd.same HS.out fun ad had o=>?_);have hge:=HO6.out ad had;rw [qDo (by show ad.block≠_;omega)];exact HC8.out _ (by show ad.block≠_;omega)
     · exact HX8.out.put (by omega) _ _
     · exact fun ad had=>Nat.le_trans HX1.out.size (HO6.out ad had)
end
section
open Go.RowKit
theorem field_evs (t l:ByteArray) (r la:Int) (d:Bool) (v5 v7:Value) (A:Option Addr) (n c:Nat) (w:World):(Instr.field 52 (.agg #[.string t,.string l,.int .u8 r,.bool d,.int .i64 la,v5,.slice A n c,v7]) 6).run Tryz.prog w = .ok (.slice A n c) w:=by
 kernel_rfl
end
end Go.Proofs.YtablhmobekmflaaGreatDoor