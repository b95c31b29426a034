/- Texts laid together. -/
import Derived.Test.YtablhmobekmflaaGreatDoorCm25
import Derived.Test.YtablhmobekmflaaGreatDoorCm29
import Derived.Test.YtablhmobekmflaaGreatDoorCm28
import Derived.Test.YtablhmobekmflaaGreatDoorCm27
import Derived.Test.YtablhmobekmflaaGreatDoorCm16
import Derived.Test.YtablhmobekmflaaGreatDoorCm01
import Derived.Deep.OwnRows
import Derived.Test.YtablhmobekmflaaGreatDoorCm06
set_option linter.unusedVariables false
set_option linter.unusedSimpArgs false
set_option maxRecDepth 100000
namespace Go.Proofs.YtablhmobekmflaaGreatDoor
section
open Go.RowKit
set_option maxHeartbeats 4000000 in
theorem R6Preimage_any (A:Option Addr) (n c:Nat) (l:List Pc) (s:Spn) (w:World) (hl:PcsAt w A n l) (hok:MapOk l) (h0:0≤s.inn) (hs:s.inn<s.out) (h1:s.out≤maxT) :
 Calls Tryz.prog 78 #[.slice A n c,.agg #[.int .i64 s.inn,.int .i64 s.out]] w (qCf (qDf (preL s l)) w):=by
 have HL:=gH hl;have HLn:=gH hl.len;have HOk:=gH hok;(have hn:n≤64:=by rw [← hl.len];exact hok.few);have HX0:=gH ((Ext.refl w).alloc (.cells #[.int .i64 s.inn,.int .i64 s.out] 60));have HB0:=gH (Blk.new w 60 #[.int .i64 s.inn,.int .i64 s.out]);have HCk:=gH (fun w' (hx:Ext w w')=>R6Check_ok A n c l w' (hl.ext hx) hok);have HCs:=gH (fun w' B d (hb:qBj w' B 1 [s])=>qIx B 1 d [s] w' hb (one_ok hs) (fun x hx=>by simp at hx;subst hx;exact ⟨h0,h1⟩) (by omega));(have hso:s.inn≤maxT:=by omega);clear hl hok hs h0;unfold qCf;go_enter Tryz.func78,Tryz.ntmps78;go_wp2_with fail;refine (HCk.out _ HX0.out).mono ?_;rintro e w1 ⟨rfl,hx1⟩;have HX1:=gH (HX0.out.trans hx1);have HBs:=gH (HB0.out.ext hx1);(have hsc:=fun o=>HBs.out.cell o);clear hx1 HCk;go_wp2_with fail;refine (HCs.out _ _ _ (Sl.one (Blk.new w1 60 #[.int .i64 s.inn,.int .i64 s.out]))).mono ?_;rintro e wB ⟨rfl,hx2⟩;have HXB:=gH ((HX1.out.alloc (.cells #[.int .i64 s.inn,.int .i64 s.out] 60)).trans hx2);have HBs:=gH ((HBs.out.ext ((Ext.refl w1).alloc (.cells #[.int .i64 s.inn,.int .i64 s.out] 60))).ext hx2);clear hsc;(have hsc:=fun o=>HBs.out.cell o);clear hx2 HCs;go_wp2_with fail
 go_loopw [8,24] (fun v i wr=>LRel Spn.vals 2 60 wB n (fun k=>preL s (l.take k)) v i wr) (fun _ i _=>n-(intOf i).toNat)
 case atStart=>exact ⟨0,Nat.zero_le _,rfl,Ext.refl _,⟨rfl,.inl ⟨rfl,rfl⟩⟩⟩
 case round =>
  obtain ⟨k,hk,rfl,hx,hown⟩:=hrel;have HXr:=gH hx;have HO:=gH hown;(have hjl:(preL s (l.take k)).length≤k:=by unfold preL;rw [List.length_map,List.length_take];omega);have hzr:=hx.size;dsimp only at HO;clear hx hown
  by_cases hlt:k<n
  · obtain ⟨b,off,r,rfl,hr,hC⟩:=(HL.out.ext (HXB.out.trans HXr.out)).at_ hlt
    have c0:=hC 0 _ rfl;have c1:=hC 1 _ rfl;have c2:=hC 2 _ rfl;have c3:=hC 3 _ rfl;have c4:=hC 4 _ rfl;simp only [Nat.add_zero] at c0;have HBc:=gH (Blk.new wr 95 #[.int .i64 r.inn,.int .i64 r.out,.int .i64 r.dst,.int .i64 r.n,.int .i64 r.d]);have HXc:=gH ((Ext.refl wr).alloc (.cells #[.int .i64 r.inn,.int .i64 r.out,.int .i64 r.dst,.int .i64 r.n,.int .i64 r.d] 95));have HBsr:=gH ((HBs.out.ext HXr.out).ext HXc.out);(have HT:Hid (preL s (l.take (k+1))=preL s (l.take k)++[⟨qAs r s.inn,qAs r s.out⟩]):=by show _=_;unfold preL;rw [take_snoc' _ _ _ hr,List.map_append];rfl);have hro:=HOk.out.each r (List.mem_of_getElem? hr);have HR0:=gH (fun w'=>R6From_any r s.inn w' hro hso);have HR1:=gH (fun w'=>R6From_any r s.out w' hro h1);(have HNs:Hid (∀ q,u8.ownBlock=some q→q≠w.heap.size):=fun q hq=>by have h1:=qAp HO.out q hq;have h2:=HBs.out.lt;omega);clear hr hC hro;generalize preL s (l.take k)=os at *;go_upto_region 11 with fail;generalize qAs r s.inn=r0 at *;generalize qAs r s.out=r1 at *;have HO2:=gH (qAh HO.out HXc.out);have hz2:=HXc.out.size;obtain ⟨W2,hW2⟩:∃ W2,W2=wr.alloc (.cells #[.int .i64 r.inn,.int .i64 r.out,.int .i64 r.dst,.int .i64 r.n,.int .i64 r.d] 95):=⟨_,rfl⟩;rw [← hW2] at HBc HXc HO2 hz2 HBsr ⊢;clear hW2
    refine qAy [some 28,some 29,some 30,some 31,some 32,some 33,some 34,some 35,some 36,some 37,some 38,some 39,some 8] [[],[],[],[2],[1,3],[],[],[6],[5,7,4],[4,8],[9],[0,10,8],[11,11,0,1,2,3,4,5,6,7,8,9,10,11]] [4,8,10,11,12] [u8,.agg #[.int .i64 r.inn,.int .i64 r.out,.int .i64 r.dst,.int .i64 r.n,.int .i64 r.d],.pointer (some ⟨w.heap.size,0,none⟩),.int .i64 s.inn,undef,.agg #[.int .i64 r.inn,.int .i64 r.out,.int .i64 r.dst,.int .i64 r.n,.int .i64 r.d],.pointer (some ⟨w.heap.size,1,none⟩),.int .i64 s.out,undef,.agg #[.int .i64 r0,.int .i64 r1],undef,undef,undef] (PmJ r0 r1 wB.heap.size u8 os.length (os.flatMap Spn.vals) W2) (by kernel_rfl) (by kernel_rfl) (by kernel_rfl) (by kernel_rfl) (by kernel_rfl) (by kernel_rfl) (by kernel_rfl) (by decide) ?_ ?_ ?_ ?_
    · exact PmJ.start W2
    · intro i o ho hc a w' us K' hJ hF hlim hk
      match i,ho with
      | 0,ho =>
       simp only [gA,gB,gC,gD] at ho;subst ho;have e8:=hF.olds 4 12 8 (u8) rfl rfl (hlim 4 12 rfl rfl) rfl;simp only [Act.eval] at e8;clear hF hlim hJ;go_simp;exact hk
      | 1,ho =>
       simp only [gA,gB,gC,gD] at ho;subst ho;have e10:=hF.old 10 (.pointer (some ⟨wr.heap.size,0,none⟩)) rfl rfl;exact qCd 95 (.tmp 10) rfl wr.heap.size 95 _ _ e10 (HBc.out.only hJ.only (by decide)) Tryz.underlying95 rfl (by exact qJt) hk
      | 2,ho =>
       simp only [gA,gB,gC,gD] at ho;subst ho;have e3:=hF.old 3 (.pointer (some ⟨w.heap.size,0,none⟩)) rfl rfl;simp only [Act.eval] at e3;clear hF hlim hJ;go_simp;exact hk
      | 3,ho =>
       simp only [gA,gB,gC,gD] at ho;subst ho;have e30:=hF.pure 2 30 (.pointer (some ⟨w.heap.size,0,none⟩)) rfl rfl rfl rfl;have hcl:=(hJ.span HBsr.out HNs.out).cell 0;simp only [gA,gB,gC] at hcl;simp only [Act.eval] at e30;clear hF hlim hJ;go_simp;exact hk
      | 4,ho=>simp at hc
      | 5,ho =>
       simp only [gA,gB,gC,gD] at ho;subst ho;have e10:=hF.old 10 (.pointer (some ⟨wr.heap.size,0,none⟩)) rfl rfl;exact qCd 95 (.tmp 10) rfl wr.heap.size 95 _ _ e10 (HBc.out.only hJ.only (by decide)) Tryz.underlying95 rfl (by exact qJt) hk
      | 6,ho =>
       simp only [gA,gB,gC,gD] at ho;subst ho;have e3:=hF.old 3 (.pointer (some ⟨w.heap.size,0,none⟩)) rfl rfl;simp only [Act.eval] at e3;clear hF hlim hJ;go_simp;exact hk
      | 7,ho =>
       simp only [gA,gB,gC,gD] at ho;subst ho;have e34:=hF.pure 6 34 (.pointer (some ⟨w.heap.size,1,none⟩)) rfl rfl rfl rfl;have hcl:=(hJ.span HBsr.out HNs.out).cell 1;simp only [gA,gB,gC] at hcl;simp only [Act.eval] at e34;clear hF hlim hJ;go_simp;exact hk
      | 8,ho=>simp at hc
      | 9,ho =>
       simp only [gA,gB,gC,gD] at ho;subst ho;obtain ⟨v32,hv32⟩:=qBq (hF.did 0 4 rfl rfl);have e32:=hF.link 0 4 32 _ rfl rfl rfl hv32;obtain ⟨v36,hv36⟩:=qBq (hF.did 1 8 rfl rfl);have e36:=hF.link 1 8 36 _ rfl rfl rfl hv36;have hu0:=hJ.val0 v32 hv32;have hu1:=hJ.val1 v36 hv36;subst hu0 hu1;simp [Act.eval] at e32 e36;clear hF hlim hJ;go_simp;exact hk
      | 10,ho | 11,ho | 12,ho=>simp at hc
      | i+13,ho=>simp at ho
    · intro p c' o hp ho a w' us K' hl hJ hF hk
      match p,hp with
      | 0,hp =>
       (obtain rfl:4=c':=by simpa using hp);simp only [gA,gB,gC,gD] at ho;subst ho;obtain rfl:us=[]:=List.eq_nil_of_length_eq_zero hl;have e29:=hF.pure 1 29 (.agg #[.int .i64 r.inn,.int .i64 r.out,.int .i64 r.dst,.int .i64 r.n,.int .i64 r.d]) rfl rfl rfl rfl;have e31:=hF.pure 3 31 (.int .i64 s.inn) rfl rfl rfl rfl;exact qDc rfl e29 e31 Tryz.call141 (HR0.out _) (fun w5 hx5=>hk _ w5 (hJ.call0 hx5))
      | 1,hp =>
       (obtain rfl:8=c':=by simpa using hp);simp only [gA,gB,gC,gD] at ho;subst ho;obtain ⟨u0,rfl⟩:=qEq hl;have e33:=hF.pure 5 33 (.agg #[.int .i64 r.inn,.int .i64 r.out,.int .i64 r.dst,.int .i64 r.n,.int .i64 r.d]) rfl rfl rfl rfl;have e35:=hF.pure 7 35 (.int .i64 s.out) rfl rfl rfl rfl;exact qDc rfl e33 e35 Tryz.call141 (HR1.out _) (fun w5 hx5=>hk _ w5 (hJ.call1 hx5))
      | 2,hp =>
       (obtain rfl:10=c':=by simpa using hp);simp only [gA,gB,gC,gD] at ho;subst ho;obtain ⟨u0,u1,rfl⟩:=qEo hl;have e37:=hF.pure 9 37 (.agg #[.int .i64 r0,.int .i64 r1]) rfl rfl rfl rfl;have HK:=gH (hk (.slice (some ⟨w'.heap.size,0,none⟩) 1 1) (w'.alloc (.cells #[.int .i64 r0,.int .i64 r1] 60)) hJ.build);simp [Act.eval] at e37;clear hk hF hJ;go_simp;exact HK.out
      | 3,hp =>
       (obtain rfl:11=c':=by simpa using hp);simp only [gA,gB,gC,gD] at ho;subst ho;obtain ⟨u0,u1,u2,rfl⟩:=qHg hl;obtain ⟨⟨g8,rfl,hB8⟩,hx8⟩:=hJ.st;have e28:=hF.pure 0 28 (u8) rfl rfl rfl rfl;have e38:=hF.link 2 10 38 _ rfl rfl rfl rfl;exact qHw (.tmp 28) (.tmp 38) 35 rfl qBe Tryz.underlying35 rfl (by decide) (qAh HO2.out hx8) e28 g8 _ e38 hB8 rfl (by simp [Value.oneCell']) (by omega) (by simp [maxLen];omega) (by have:=hx8.size;omega) (fun v' w9 ho9 hg9=>hk v' w9 (hJ.app (qAj (qAh HO2.out hx8)) hg9 ho9))
      | 4,hp =>
       (obtain rfl:12=c':=by simpa using hp);simp only [gA,gB,gC,gD] at ho;subst ho;obtain ⟨u0,u1,u2,u3,rfl⟩:=qLr hl;have e39:=hF.link 3 11 39 _ rfl rfl rfl rfl;exact qCi _ _ rfl e39 (hk _ _ hJ.asg)
      | p+5,hp=>simp at hp
    intro us w5 hl hJ;obtain ⟨uu0,uu1,uu2,uu3,uu4,rfl⟩:=list_5 hl
    first | (rename_i hK;refine hK _ _ ?_;clear hK) | (rename_i hK hK_1;refine hK _ _ ?_;clear hK) | (rename_i hK hK_1 hK_2;refine hK _ _ ?_;clear hK) | (rename_i hK hK_1 hK_2 hK_3;refine hK _ _ ?_;clear hK)
    generalize hL:qDx _ _ _ _=L;obtain rfl:L=[(28,u8),(29,.agg #[.int .i64 r.inn,.int .i64 r.out,.int .i64 r.dst,.int .i64 r.n,.int .i64 r.d]),(30,.pointer (some ⟨w.heap.size,0,none⟩)),(31,.int .i64 s.inn),(32,uu0),(33,.agg #[.int .i64 r.inn,.int .i64 r.out,.int .i64 r.dst,.int .i64 r.n,.int .i64 r.d]),(34,.pointer (some ⟨w.heap.size,1,none⟩)),(35,.int .i64 s.out),(36,uu1),(37,.agg #[.int .i64 r0,.int .i64 r1]),(38,uu2),(39,uu3),(8,uu4)]:=hL.symm.trans (by kernel_rfl);clear hL hl;simp only [Act.put,List.foldl_cons,List.foldl_nil,List.setIfInBounds_toArray,List.set_cons_zero,List.set_cons_succ];obtain ⟨rfl,w6,hx6,hg6,ho6⟩:=hJ.st;have HX5:=gH (Ext.grown ((HXr.out.trans HXc.out).trans hx6) hg6 (fun q hq=>qAp HO.out q hq));have HO5:=gH ho6;clear hJ hx6 hg6 ho6;go_wp2_with fail;exact ⟨⟨k+1,by omega,by go_num,HX5.out,by dsimp only;rw [HT.out,List.length_append,List.flatMap_append];exact HO5.out⟩,by simp [intOf];omega⟩
  · have hkn:k=n:=by omega
    subst hkn;(have HTk:Hid (preL s (l.take k)=preL s l):=by show _=_;rw [List.take_of_length_le (by have:=HLn.out;omega)]);rw [HTk.out] at HO hjl;obtain ⟨A',c',rfl,hc,_,hS,hfr⟩:=qBg (f:=Spn.vals) (size:=2) (fun _=>rfl) rfl HO.out;have HN:=gH (qMa A' (preL s l).length c' (preL s l) wr hS (by omega));unfold qDq at HN;clear hc hS hfr HO;go_wp2_with fail;refine HN.out.mono ?_;rintro en2 w2 ⟨A2,c2,rfl,h1,h2,h3,h4⟩;have HR:=gH (And.intro h2 (And.intro h1 (And.intro (fun ad h=>Nat.le_trans (Nat.le_trans HXB.out.size hzr) (h4 ad h)) ((HXB.out.trans HXr.out).trans h3))));clear h1 h2 h3 h4 HN;go_wp2_with fail;go_ret2;exact ⟨A2,c2,rfl,HR.out.2.1,HR.out.1,HR.out.2.2.2,HR.out.2.2.1⟩
end
section
open Go.RowKit
end
section
open Go.RowKit
theorem con_fats {docs:List RDoc} {e:Edl} {least:Int} (h:conE docs e least=0):qIh (qCx docs e least)∧(qCx docs e least).length≤1000000:=by
 obtain ⟨h0,h1,h2⟩:=conE_ok h;have hp:PL (qId docs e least):=PL.cuts (PL.start e docs);(have hF:qCx docs e least=(qId docs e least).fats:=by unfold qCx;rw [if_pos h]);rw [hF];refine ⟨⟨fun f hf=>by have:=(hp f hf).1;omega,fun f hf=>by have:=(hp f hf).2;omega⟩,?_⟩;rw [conSt_shape,List.length_mapIdx];have hl:=qNu e docs docs.length;rw [List.take_length] at hl;obtain ⟨g1,g2,g3,-⟩:=conErr_ok h0;have:=qMv (docs:=docs) (q:=400) (fun d hd=>(qEp (qIr g3 d hd).2.1).2.2.1) docs.length;omega
end
section
open Go.RowKit
def reachD (deps:List (List Nat)):Nat→Nat→Nat→Bool
 | 0,c,i=>(deps.getD c []).contains i
 | f+1,c,i=>(deps.getD c []).contains i || (deps.getD c []).any fun j=>reachD deps f j i
theorem qLs {deps:List (List Nat)} {D:Nat→Prop} {i:Nat} (hD:∀ j k,D j→(deps.getD j []).contains k=true→D k):∀ (f c:Nat),D c→reachD deps f c i=true→D i
 | 0,c,hc,h=>hD c i hc h
 | f+1,c,hc,h=>by
  unfold reachD at h
  rcases Bool.or_eq_true_iff.1 h with h | h
  · exact hD c i hc h
  · obtain ⟨j,hj,h1⟩:=List.any_eq_true.1 h
    exact qLs hD f j (hD c j hc (by simpa using hj)) h1
theorem qNr {P:Program} {ops:Array Oper} {Q:Exit→Act→World→Prop} {id:Nat} {a0:Act} {W:World} (chain:List Nat) (pv:List Value) (J:List Value→World→Prop) (hm:P.follows .mixedOrders=true) (hdst:qLf ops a0.tmps.size=true) (hord:ordB 0 ops.toList=true)
 (hch:qGr ops chain=true) (hnd:chain.Nodup) (h0:J [] W.drew)
 (hpure:∀ (i:Nat) (o:Oper),ops[i]?=some o→chain.contains i=false→∀ (a:Act) (w:World) (us:List Value) (K:Act→World→Prop),J us w→Finds ops chain pv us a0 a o→(∀ p c,chain[p]?=some c→(∀ D:Nat→Prop,(∀ j oj,D j→ops[j]?=some oj→∀ d∈oj.after,Region.binds .any d=true→D d.on)→D c→D i)→us.length≤p)→K (a.put o.dst (pv.getD i undef)) w →
  if Region.wanted o (yielded ops a.tmps)=true then Oper.wp P o a w K Q else K (a.put o.dst undef) w)
 (hlink:∀ (p c:Nat) (o:Oper),chain[p]?=some c→ops[c]?=some o→∀ (a:Act) (w:World) (us:List Value) (K:Act→World→Prop),us.length=p→J us w→Finds ops chain pv us a0 a o→(∀ v w',J (us++[v]) w'→K (a.put o.dst v) w') →
  if Region.wanted o (yielded ops a.tmps)=true then Oper.wp P o a w K Q else K (a.put o.dst undef) w)
 (hQ:∀ us w,us.length=chain.length→J us w→Q .normal { a0 with tmps:=(qDx ops chain pv us).foldl (fun t p=>t.setIfInBounds p.1 p.2) a0.tmps } w) :
 (Code.region id ops true).wp P Q a0 W:=by
 refine wp_region_any hm ?_;refine qIj (ChInv ops chain pv a0 J) (fun l a w h=>h.1) ?_ (hordB hord) ?_ _ _ _ _ (by simp) ?_
 · intro l a w hI i o ho hl hall K hK
   obtain ⟨hs,hdf,hsz,hnot,hcl,us,hul,hcu,hval,hJ⟩:=hI;have hi:i<ops.size:=(Array.getElem?_eq_some_iff.1 ho).1;have hnl:=qMu hl;have hself:(l.setIfInBounds i true).getD i false=true:=qHv (by omega)
   have hfind:Finds ops chain pv us a0 a o:=by
    refine ⟨fun s hsn=>?_,fun j s v he hd hc hv=>?_,fun p j s v hp he hd hv=>?_,fun p j hp he=>by obtain ⟨d,hd1,hd2,rfl⟩:=qFf he;exact (hcu p _ hp).1 (hall d hd1 hd2),fun p j s hp hj hl0=>hnot s fun j' hj'=>by
     have e:j'=j:=qMk hdst hj' hj;subst e
     cases hx:l.getD j' false
     · rfl
     · exact absurd ((hcu p _ hp).1 hx) (by omega)⟩
    · have:=hnot s (fun j hj=>by
       unfold dstO at hj;rw [Option.bind_eq_some_iff] at hj;obtain ⟨o',h1,h2⟩:=hj;have h3:=List.all_eq_true.1 hsn o' (by simpa using Array.mem_of_getElem? h1);rw [h2] at h3
       simp at h3)
      simp [Act.eval,this]
    · obtain ⟨d,hd1,hd2,rfl⟩:=qFf he
      rw [hval _ s (hall d hd1 hd2) hd];have:chain.idxOf? d.on=none:=qEf (by simpa using hc);simp only [qGj,this];simp [hv]
    · obtain ⟨d,hd1,hd2,rfl⟩:=qFf he
      rw [hval _ s (hall d hd1 hd2) hd];have:chain.idxOf? d.on=some p:=qCn hnd hp;simp only [qGj,this];simp [hv]
   have hclosed:∀ j o',(l.setIfInBounds i true).getD j false=true→ops[j]?=some o'→∀ d∈o'.after,Region.binds .any d=true→(l.setIfInBounds i true).getD d.on false=true:=by
    intro j o' hj ho' d hd hb
    have mono:∀ k,l.getD k false=true→(l.setIfInBounds i true).getD k false=true:=fun k hk=>by
     by_cases hik:i=k
     · subst hik;exact hself
     · rw [qAm hik];exact hk
    by_cases hij:i=j
    · subst hij
      rw [ho] at ho'
      cases ho'
      exact mono _ (hall d hd hb)
    · rw [qAm hij] at hj
      exact mono _ (hcl j o' hj ho' d hd hb)
   have hput:∀ v s,(∀ j,dstO ops j=some s→(l.setIfInBounds i true).getD j false=false)→(a.put o.dst v).tmps[s]?=a0.tmps[s]?:=fun v s hsn=>by
    have hsn':∀ j,dstO ops j=some s→l.getD j false=false:=fun j hj=>by
     have h1:=hsn j hj
     by_cases hij:i=j
     · subst hij;rw [hself] at h1;cases h1
     · rwa [qAm hij] at h1
    cases hd:o.dst with
    | none=>simp only [Act.put];exact hnot s hsn'
    | some t =>
     have:dstO ops i=some t:=by unfold dstO;rw [ho];exact hd
     have hts:t≠s:=fun e=>by
      have h1:=hsn i (by rw [this,e]);(rw [hself] at h1;cases h1)
     simp only [Act.put];rw [Array.getElem?_setIfInBounds_ne hts];exact hnot s hsn'
   have hputd:∀ v,(a.put o.dst v).defers=a0.defers∧(a.put o.dst v).tmps.size=a0.tmps.size:=fun v=>by
    cases hd:o.dst with
    | none=>exact ⟨hdf,hsz⟩
    | some t=>exact ⟨hdf,by simpa [Act.put] using hsz⟩
   have hputv:∀ us' v,qGj chain pv us' i=v→(∀ j,l.getD j false=true→qGj chain pv us' j=qGj chain pv us j)→∀ j s,(l.setIfInBounds i true).getD j false=true→dstO ops j=some s→(a.put o.dst v).tmps[s]?=some (qGj chain pv us' j):=by
    intro us' v hv hsame j s hj hd
    by_cases hij:i=j
    · subst hij
      (have hod:o.dst=some s:=by unfold dstO at hd;rw [ho] at hd;exact hd);rw [hod,hv];have:=dst_lt hdst hd;simp [Act.put,hsz,this]
    · rw [qAm hij] at hj
      rw [hsame j hj]
      cases hod:o.dst with
      | none=>simp only [Act.put];exact hval j s hj hd
      | some t =>
       (have h1:dstO ops i=some t:=by unfold dstO;rw [ho];exact hod);(have hts:t≠s:=fun e=>hij (qMk hdst h1 (by rw [hd,e])));simp only [Act.put];rw [Array.getElem?_setIfInBounds_ne hts];exact hval j s hj hd
   by_cases hc:i∈chain
   · obtain ⟨p,hp⟩:=List.getElem?_of_mem hc
     have hle:us.length≤p:=by
      rcases Nat.lt_or_ge p us.length with h | h
      · have:=(hcu p i hp).2 h
        rw [hnl] at this
        cases this
      · exact h
     have hge:p≤us.length:=by
      cases p with
      | zero=>omega
      | succ q =>
       have hpl:=(List.getElem?_eq_some_iff.1 hp).1;have hq:chain[q]?=some chain[q]:=List.getElem?_eq_getElem (by omega);have:=(hcu q _ hq).1 (qMl hcl hall hch hq hp ho);omega
     have hpl:=(List.getElem?_eq_some_iff.1 hp).1;refine hlink p i o hp ho a w us K (by omega) hJ hfind (fun v w' hJ'=>?_);apply hK;(have hlen:(us++[v]).length=us.length+1:=by simp);refine ⟨by simpa using hs,(hputd v).1,(hputd v).2,hput v,hclosed,us++[v],by rw [hlen];omega,fun q c hq=>?_,hputv _ v ?_ ?_,hJ'⟩
     · rw [hlen]
       by_cases hic:i=c
       · subst hic
         have:q=p:=by
          have h1:=qCn hnd hq;have h2:=qCn hnd hp;rw [h1] at h2;exact Option.some.inj h2
         rw [hself];simp;omega
       · rw [qAm hic,hcu q c hq]
         (have:q≠p:=fun e=>hic (by rw [e,hp] at hq;exact Option.some.inj hq));omega
     · simp only [qGj,qCn hnd hp]
       rw [List.getD_eq_getElem?_getD,List.getElem?_append_right (by omega)];(have:p-us.length=0:=by omega);simp [this]
     · intro j hj
       unfold qGj
       cases hx:chain.idxOf? j with
       | none=>rfl
       | some q =>
        have hq:chain[q]?=some j:=by
         obtain ⟨h1,h2,_⟩:=List.idxOf?_eq_some_iff.1 hx;rw [List.getElem?_eq_getElem h1,h2]
        have:=(hcu q j hq).1 hj;simp only [List.getD_eq_getElem?_getD];rw [List.getElem?_append_left this]
   · refine hpure i o ho (by simpa using hc) a w us K hJ hfind (fun p c hp he=>?_) ?_
     · rcases Nat.lt_or_ge p us.length with h | h
       · have:=he (fun k=>l.getD k false=true) hcl ((hcu p c hp).2 h)
         rw [hnl] at this
         cases this
       · exact h
     · apply hK
       refine ⟨by simpa using hs,(hputd _).1,(hputd _).2,hput _,hclosed,us,hul,fun q c hq=>?_,hputv us _ ?_ (fun _ _=>rfl),hJ⟩
       · have:i≠c:=fun e=>hc (by rw [e];exact List.mem_of_getElem? hq)
         rw [qAm this];exact hcu q c hq
       · simp only [qGj,qEf hc]
 · rintro l a w ⟨hs,hdf,hsz,hnot,hcl,us,hul,hcu,hval,hJ⟩ hall
   have hlen:us.length=chain.length:=by
    rcases Nat.lt_or_ge us.length chain.length with h | h
    · have hq:chain[us.length]?=some chain[us.length]:=List.getElem?_eq_getElem h
      have:=(hcu _ _ hq).1 (hall _ (qHf hch hq));omega
    · omega
   have hfr:=qLo (a0:=a0.tmps) (qDx ops chain pv us) a.tmps a0.tmps hsz (fun p hp=>by
    obtain ⟨j,hj,hv⟩:=List.mem_filterMap.1 hp;rw [Option.map_eq_some_iff] at hv;obtain ⟨s,hd,rfl⟩:=hv
    exact hval j s (hall j (by simpa using hj)) hd) (fun s hsn=>hnot s fun j hj=>absurd (by
     have hjl:j<ops.size:=by
      unfold dstO at hj;rw [Option.bind_eq_some_iff] at hj;obtain ⟨o',h1,_⟩:=hj;exact (Array.getElem?_eq_some_iff.1 h1).1
     rw [List.mem_map]
     exact ⟨(s,qGj chain pv us j),List.mem_filterMap.2 ⟨j,by simpa using hjl,by rw [hj];rfl⟩,rfl⟩) hsn)
   have:a={ a0 with tmps:=(qDx ops chain pv us).foldl (fun t p=>t.setIfInBounds p.1 p.2) a0.tmps }:=by
    obtain ⟨at_,ad⟩:=a;simp only at hfr hdf;rw [hfr,hdf]
   rw [this];exact hQ us w hlen hJ
 · refine ⟨by simp,rfl,rfl,fun _ _=>rfl,fun j o h=>?_,[],by simp,fun i c hc=>?_,fun j s h=>?_,h0⟩
   · simp [Array.getElem?_replicate] at h
     split at h<;>simp at h
   · have:(Array.replicate ops.size false).getD c false=false:=by
      simp [Array.getElem?_replicate]
      split<;>rfl
     rw [this];simp
   · simp [Array.getElem?_replicate] at h
     split at h<;>simp at h
theorem qNt {P:Program} {ops:Array Oper} {Q:Exit→Act→World→Prop} {id:Nat} {a0:Act} {W:World} (slots:List (Option Nat)) (deps:List (List Nat)) (chain:List Nat) (pv:List Value) (J:List Value→World→Prop) (hm:P.follows .mixedOrders=true) (hdst:qLf ops a0.tmps.size=true) (hord:ordB 0 ops.toList=true)
 (hs:ops.toList.map (·.dst)=slots) (hd:ops.toList.map qLb=deps) (hg:ops.toList.all (fun o=>o.guard.isNone)=true) (hch:qGr ops chain=true) (hnd:chain.Nodup) (h0:J [] W.drew)
 (hpure:∀ (i:Nat) (o:Oper),ops[i]?=some o→chain.contains i=false→∀ (a:Act) (w:World) (us:List Value) (K:Act→World→Prop),J us w→Sees slots deps chain pv us a0 a i→(∀ p c,chain[p]?=some c→reachD deps 9 c i=true→us.length≤p)→K (a.put o.dst (pv.getD i undef)) w→Oper.wp P o a w K Q)
 (hlink:∀ (p c:Nat) (o:Oper),chain[p]?=some c→ops[c]?=some o→∀ (a:Act) (w:World) (us:List Value) (K:Act→World→Prop),us.length=p→J us w→Sees slots deps chain pv us a0 a c→(∀ v w',J (us++[v]) w'→K (a.put o.dst v) w')→Oper.wp P o a w K Q)
 (hQ:∀ us w,us.length=chain.length→J us w→Q .normal { a0 with tmps:=(qDx ops chain pv us).foldl (fun t p=>t.setIfInBounds p.1 p.2) a0.tmps } w) :
 (Code.region id ops true).wp P Q a0 W:=by
 have hgd:∀ (i:Nat) (o:Oper),ops[i]?=some o→o.guard=none:=fun i o ho=>by
  have:=List.all_eq_true.1 hg o (by simpa using Array.mem_of_getElem? ho);simpa using this
 refine qNr chain pv J hm hdst hord hch hnd h0 (fun i o ho hc a w us K hJ hF hl hk=>?_) (fun p c o hp ho a w us K hl hJ hF hk=>?_) hQ
 · refine qAd (hgd i o ho) (hpure i o ho hc a w us K hJ (hF.sees hs hd ho) (fun p c hp he=>hl p c hp fun D hD hc=>qLs (fun j k hj hk=>?_) 9 c hc he) hk)
   rw [← hd,List.getD_eq_getElem?_getD,List.getElem?_map] at hk
   cases hoj:ops.toList[j]? with
   | none=>rw [hoj] at hk;simp at hk
   | some oj =>
    rw [hoj] at hk;obtain ⟨d,hd1,hd2,hd3⟩:=qFf (qFt hk);rw [← hd3];exact hD j oj hj (by simpa using hoj) d hd1 hd2
 · exact qAd (hgd c o ho) (hlink p c o hp ho a w us K hl hJ (hF.sees hs hd ho) hk)
end
end Go.Proofs.YtablhmobekmflaaGreatDoor