/- Texts laid together. -/
import Derived.Test.YtablhmobekmflaaGreatDoorCm13
import Derived.Test.YtablhmobekmflaaGreatDoorCm01
import Derived.Test.YtablhmobekmflaaGreatDoorCm10
import Derived.Test.YtablhmobekmflaaGreatDoorCm11
import Derived.Test.YtablhmobekmflaaGreatDoorCm06
import Derived.Test.YtablhmobekmflaaGreatDoorCm12
set_option linter.unusedVariables false
set_option linter.unusedSimpArgs false
set_option maxRecDepth 100000
namespace Go.Proofs.YtablhmobekmflaaGreatDoor
section
open Go.RowKit
def srtK (zs:List Spn) (k:Nat):List Spn:=sortS' (full (zs.take k))
theorem sort_snoc (l:List Spn) (x:Spn):sortS' (l++[x])=putS (sortS' l) x:=by unfold sortS';rw [List.foldl_append];rfl
theorem srtK_skip {zs:List Spn} {k:Nat} {x:Spn} (hx:zs[k]?=some x) (h:¬ x.inn<x.out):srtK zs (k+1)=srtK zs k:=by
 unfold srtK full;rw [take_snoc' _ _ _ hx,List.filter_append];simp [h]
theorem srtK_add {zs:List Spn} {k:Nat} {x:Spn} (hx:zs[k]?=some x) (h:x.inn<x.out):srtK zs (k+1)=putS (srtK zs k) x:=by
 unfold srtK full;rw [take_snoc' _ _ _ hx,List.filter_append];simp only [List.filter_cons,List.filter_nil,decide_eq_true h,if_true];exact sort_snoc _ _
theorem srtK_len (zs:List Spn) (k:Nat):(srtK zs k).length≤k:=by
 have h:=(sortS_ok (full (zs.take k))).2.length_eq;have:=List.length_filter_le (fun s:Spn=>decide (s.inn<s.out)) (zs.take k);unfold srtK full at *;rw [List.length_take] at this;omega
theorem mg_snocL (l:List Spn) (x:Spn):mg (l++[x])=qCg (mg l) x:=by unfold mg;rw [List.foldl_append];rfl
def J1Rel (w:World) (n:Nat) (zs:List Spn) (v i:Value) (wr:World):Prop :=
 ∃ k:Nat,k≤n∧i = .int .i64 k∧Ext w wr∧wr.ownsRow w.heap.size 60 2 v (srtK zs k).length ((srtK zs k).flatMap Spn.vals)∧(srtK zs k=[]→v = .slice none 0 0)
def J2Rel (w1:World) (m:Nat) (l:List Spn) (v i:Value) (wr:World):Prop :=
 ∃ k:Nat,k≤m∧i = .int .i64 k∧Ext w1 wr∧wr.ownsRow w1.heap.size 60 2 v (mg (l.take k)).length ((mg (l.take k)).flatMap Spn.vals)
set_option maxHeartbeats 8000000 in
theorem qMa (A:Option Addr) (n c:Nat) (zs:List Spn) (w:World) (hl:qBj w A n zs) (hn:n≤1000000) :
 Calls Tryz.prog 44 #[.slice A n c] w (qDq (qDf zs) w):=by
 have HL0:=gH hl;have HLn:=gH hl.len;clear hl;unfold qDq;go_enter Tryz.func44,Tryz.ntmps44;go_wp2_with fail
 go_loopw [3,12] (fun v i wr=>J1Rel w n zs v i wr) (fun _ i _=>n-(intOf i).toNat)
 case atStart=>exact ⟨0,Nat.zero_le _,rfl,Ext.refl _,⟨rfl,.inl ⟨rfl,rfl⟩⟩,fun _=>rfl⟩
 case round =>
  obtain ⟨k,hk,rfl,hx,hown,hnil⟩:=hrel;have HX:=gH hx;have HO:=gH hown;have HN:=gH hnil;have hsl:=srtK_len zs k;have hzr:=hx.size;clear hx hown hnil
  by_cases hlt:k<n
  · obtain ⟨b,off,x,rfl,hxk,hC⟩:=(HL0.out.ext HX.out).at_ hlt
    have c0:=hC 0 _ rfl;have c1:=hC 1 _ rfl;simp only [Nat.add_zero] at c0;have HXk:=gH hxk;have HXx:=gH ((Ext.refl wr).alloc (.cells #[.int .i64 x.inn,.int .i64 x.out] 60));clear hC hxk
    by_cases hio:x.inn<x.out
    · have HT2:=gH (srtK_add HXk.out hio)
      have hpl:=putS_len (srtK zs k) x;(have hd1:decide (x.inn<x.out)=true:=by simpa using hio);clear HXk hio;generalize srtK zs k=S at *
      rcases Classical.em (S=[]) with hs | hs
      · have hv:=HN.out hs
        subst hv hs;have HP:=gH (fun w'=>R5put_nil x w');clear HO HN;go_wp2_with fail;refine (HP.out _).mono ?_;rintro e w2 ⟨v2,rfl,ho2,hx2⟩;have HX2:=gH (HX.out.trans (HXx.out.trans hx2));have HO2:=gH (own_le' ho2 (show w.heap.size≤_ by have:=HXx.out.size;omega));clear ho2 hx2 HP;go_wp2_with fail;exact ⟨⟨k+1,by omega,by go_num,HX2.out,by rw [HT2.out];exact HO2.out,fun h=>by rw [HT2.out] at h;rw [h] at hpl;simp at hpl⟩,by simp [intOf];omega⟩
      · have hpos:0<S.length:=List.length_pos_iff.2 hs
        obtain ⟨g,cap,rfl,hg1,hg2⟩:=qFn HO.out hpos;obtain ⟨A',c',he,hcc,_,hSl,_⟩:=qBg (f:=Spn.vals) (size:=2) (fun _=>rfl) rfl HO.out;injection he with e1 e2 e3;subst e1 e3;have HP:=gH (fun w' (hx:Ext wr w')=>R5put_some g cap S x w' (Sl.ext (Cells.stays _) hSl hx) hcc (by omega));clear HN hSl hs hcc e2;go_wp2_with fail;refine (HP.out _ HXx.out).mono ?_;rintro e w2 ⟨v2,rfl,ho2,hx2⟩;have HX2:=gH (HX.out.trans (HXx.out.trans hx2));have HO2:=gH (own_le' ho2 (show w.heap.size≤_ by have:=HXx.out.size;omega));clear ho2 hx2 HP;go_wp2_with fail;exact ⟨⟨k+1,by omega,by go_num,HX2.out,by rw [HT2.out];exact HO2.out,fun h=>by rw [HT2.out] at h;rw [h] at hpl;simp at hpl⟩,by simp [intOf];omega⟩
    · have HT2:=gH (srtK_skip HXk.out hio)
      (have hd1:decide (x.inn<x.out)=false:=by simpa using hio);clear HXk hio;go_wp2_with fail;exact ⟨⟨k+1,by omega,by go_num,HX.out.trans HXx.out,by rw [HT2.out];exact qAh HO.out HXx.out,fun h=>by rw [HT2.out] at h;exact HN.out h⟩,by simp [intOf];omega⟩
  · have hkn:k=n:=by omega
    subst hkn;(have HMJ:Hid (mg (srtK zs k)=qDf zs):=by show _=_;unfold srtK;rw [List.take_of_length_le (by rw [HLn.out];exact Nat.le_refl _)];rfl);generalize srtK zs k=l at *;obtain ⟨SA,sc,rfl,hsc,hscm,hS,hfr⟩:=qBg (f:=Spn.vals) (size:=2) (fun _=>rfl) rfl HO.out;have HL:Hid (qBj wr SA l.length l):=hS;obtain ⟨m,hm⟩:∃ m,m=l.length:=⟨_,rfl⟩;rw [← hm] at HL HO hsl;have HM:=gH hm;(have hm6:m≤1000000:=by omega);obtain ⟨w1,hw1⟩:∃ w1,w1=wr:=⟨_,rfl⟩;subst hw1;have HX1:=HX;rw [← hm];clear hS hfr hsc hscm hm HN HO HX;go_wp2_with fail
    go_loopw [4,27] (fun v i wr=>J2Rel w1 m l v i wr) (fun _ i _=>m-(intOf i).toNat)
    case atStart=>exact ⟨0,Nat.zero_le _,rfl,Ext.refl _,⟨rfl,.inl ⟨rfl,rfl⟩⟩⟩
    case round =>
     obtain ⟨q,hq,rfl,hx,hown⟩:=hrel;have HX:=gH hx;have HO:=gH hown;(have hml:(mg (l.take q)).length≤q:=by have:=qJm (l.take q) [];rw [List.length_take] at this;unfold mg;simp at this;omega);have hzr2:=hx.size;clear hx hown
     by_cases hqt:q<m
     case neg =>
      (have hqm:q=m:=by omega);subst hqm;(have HT:Hid (mg (l.take q)=qDf zs):=by show _=_;rw [List.take_of_length_le (by rw [HM.out];exact Nat.le_refl _)];exact HMJ.out);rw [HT.out] at HO;obtain ⟨A',c',rfl,hc,_,hS,hfr⟩:=qBg (f:=Spn.vals) (size:=2) (fun _=>rfl) rfl HO.out;have HR:=gH (And.intro hc (And.intro hS (And.intro hfr (HX1.out.trans HX.out))));clear hc hS hfr HO HT;go_wp2_with fail;go_ret;exact ⟨A',c',rfl,HR.out.2.1,HR.out.1,HR.out.2.2.2,fun ad h=>Nat.le_trans hzr (HR.out.2.2.1 ad h)⟩
     obtain ⟨b,off,x,rfl,hxk,hC⟩:=(HL.out.ext HX.out).at_ hqt;have c0:=hC 0 _ rfl;have c1:=hC 1 _ rfl;simp only [Nat.add_zero] at c0;have HTk:=gH (take_snoc' l q x hxk);have HBx:=gH (Blk.new wr 60 #[.int .i64 x.inn,.int .i64 x.out]);have HXx:=gH ((Ext.refl wr).alloc (.cells #[.int .i64 x.inn,.int .i64 x.out] 60));(have HT2:Hid (mg (l.take (q+1))=qCg (mg (l.take q)) x):=by show _=_;rw [HTk.out,mg_snocL]);clear hC hxk HTk;generalize mg (l.take q)=os at *
     rcases Classical.em (os=[]) with hos | hos
     · subst hos
       obtain ⟨A',cap',rfl,hcap,hcm,_,_⟩:=qBg (f:=Spn.vals) (size:=2) (l:=[]) (fun _=>rfl) rfl HO.out;rw [qOs] at HT2;simp only [List.length_nil] at *;go_wp2_with fail;go_quiet (fail);go_upto_region 14 with fail;refine qBs ?_;intro w3 hx3 hs3;have HXw3:=gH (HXx.out.trans hx3);have HO3:=gH (qAh HO.out HXw3.out);have HBx3:=gH (HBx.out.ext hx3);(have hcl3:=fun o=>HBx3.out.cell o);have hb3:=HXw3.out.size;clear hx3 hs3;go_wp2_with (at_builtin;refine qAf rfl (.tmp 60) (.tmp 62) 35 rfl qBe Tryz.underlying35 rfl (by decide) (HO3.out.alloc _) (by exact rfl) w3.heap.size _ (by exact rfl) (by exact Blk.new' rfl) (by exact rfl) (by simp [Value.oneCell']) (by omega) (by simp [maxLen]<;>omega) (by first | omega | (simp;omega) | simp) ?_;intro v5 w5 hown5 hgr;have HO5:=gH hown5;have HX5:=gH (Ext.grown ((HX.out.trans HXw3.out).alloc _) hgr (fun q hq=>qAp HO3.out q hq));clear hown5 hgr);exact ⟨⟨q+1,by omega,by go_num,HX5.out,by rw [HT2.out];exact HO5.out⟩,by simp [intOf];omega⟩
     obtain ⟨ps,p,rfl⟩:=snocSp hos;clear hos;(have hlen:(ps++[p]).length=ps.length+1:=by simp);rw [hlen] at HO hml;clear hlen;obtain ⟨g,cap,rfl,hg1,hg2,hCp⟩:=sp_cell HO.out;have p1:=HXx.out.cell (hCp 1 _ rfl);clear hCp;rw [qGe] at HT2
     by_cases hjoin:x.inn≤p.out
     · rw [if_pos hjoin] at HT2
       (have d1:decide (x.inn≤p.out)=true:=by simpa using hjoin);clear hjoin;go_wp2_with fail;go_quiet (fail);go_upto_region 13 with fail;refine qBs ?_;intro w3 hx3 hs3;have HXw3:=gH (HXx.out.trans hx3);have HO3:=gH (qAh HO.out HXw3.out);have HBx3:=gH (HBx.out.ext hx3);have q1:=hx3.cell p1;have b1:=HBx3.out.cell 1;simp only [gA,gB,gC] at b1;have hfg:=World.ownsRow.frozenAt HO3.out (ps.length*2+1);obtain ⟨hst,hgr⟩:=World.ownsRow.stored HO3.out (ps.length*2+1) (.int .i64 (max p.out x.out));have HO5:=gH hst;have HX5:=gH (Ext.grown (HX.out.trans HXw3.out) hgr (fun q hq=>by cases hq;exact hg1));have HSO:=gH (sp_set (ps:=ps) (p:=p) (max p.out x.out));clear hst hgr hx3 hs3 p1;go_region
       try simp only [Exit.inBlock,Exit.then]
       have HF:=gH (And.intro (HX5.out.drew) (qAh HO5.out (Ext.refl _).drew));go_wp2_with fail;exact ⟨⟨q+1,by omega,by go_num,HF.out.1,by rw [HT2.out,← HSO.out,show (ps++[(⟨p.inn,max p.out x.out⟩:Spn)]).length=ps.length+1 by simp];exact HF.out.2⟩,by simp [intOf];omega⟩
     · rw [if_neg hjoin] at HT2
       (have d1:decide (x.inn≤p.out)=false:=by simpa using hjoin);clear hjoin;go_wp2_with fail;go_quiet (fail);go_upto_region 14 with fail;refine qBs ?_;intro w3 hx3 hs3;have HXw3:=gH (HXx.out.trans hx3);have HO3:=gH (qAh HO.out HXw3.out);have HBx3:=gH (HBx.out.ext hx3);(have hcl3:=fun o=>HBx3.out.cell o);have hb3:=HXw3.out.size;clear hx3 hs3 p1;go_wp2_with (at_builtin;refine qAf rfl (.tmp 60) (.tmp 62) 35 rfl qBe Tryz.underlying35 rfl (by decide) (HO3.out.alloc _) (by exact rfl) w3.heap.size _ (by exact rfl) (by exact Blk.new' rfl) (by exact rfl) (by simp [Value.oneCell']) (by omega) (by simp [maxLen]<;>omega) (by first | omega | (simp;omega) | simp) ?_;intro v5 w5 hown5 hgr;have HO5:=gH hown5;have HX5:=gH (Ext.grown ((HX.out.trans HXw3.out).alloc _) hgr (fun q hq=>qAp HO3.out q hq));clear hown5 hgr);exact ⟨⟨q+1,by omega,by go_num,HX5.out,by rw [HT2.out,show ps++[p,x]=(ps++[p])++[x] by simp,List.flatMap_append,show ((ps++[p])++[x]).length=ps.length+1+1 by simp];exact HO5.out⟩,by simp [intOf];omega⟩
def NmRel (w:World) (n:Nat) (i:Value) (wr:World):Prop:=∃ k:Nat,k≤n∧i = .int .i64 k∧Ext w wr
def qCf (l:List Spn) (w:World) (en:Ending) (w':World):Prop:=∃ A c,en = .returned (.tuple #[.slice A l.length c,.int .i64 0])∧qBj w' A l.length l∧l.length≤c∧Ext w w'∧∀ ad,A=some ad→w.heap.size≤ad.block
set_option maxHeartbeats 2000000 in
theorem Norm_ok (A:Option Addr) (n c:Nat) (zs:List Spn) (w:World) (hl:qBj w A n zs) (hn:n≤400) (hr:∀ s∈zs,s.inn<s.out→0≤s.inn∧s.out≤10378368000) :
 Calls Tryz.prog 43 #[.slice A n c] w (qCf (qDf zs) w):=by
 have HL:=gH hl;have HR:=gH hr;have HM:=gH (fun w' (hx:Ext w w')=>Merge_any A n c zs w' (hl.ext hx) (by omega));(have hb:decide ((n:Int) > 400)=false:=by simp;omega);(have hb2:decide ((400:Int)<n)=false:=by simp;omega);clear hl hr;unfold qCf;unfold qDq at HM;go_enter Tryz.func43,Tryz.ntmps43;go_wp2_with fail;clear hb hb2
 go_loopw [11] (fun i wr=>NmRel w n i wr) (fun i _=>n-(intOf i).toNat)
 case atStart=>exact ⟨0,Nat.zero_le _,rfl,Ext.refl _⟩
 case round =>
  obtain ⟨k,hk,rfl,hx⟩:=hrel;have HX:=gH hx;clear hx
  by_cases hlt:k<n
  · obtain ⟨b,off,x,rfl,hxk,hC⟩:=(HL.out.ext HX.out).at_ hlt
    have c0:=hC 0 _ rfl;have c1:=hC 1 _ rfl;simp only [Nat.add_zero] at c0;have hxr:=HR.out x (List.mem_of_getElem? hxk);have HXx:=gH (HX.out.alloc (.cells #[.int .i64 x.inn,.int .i64 x.out] 60));clear hC hxk
    by_cases hio:x.inn<x.out
    · obtain ⟨h1,h2⟩:=hxr hio
      (have d1:decide (x.inn<x.out)=true:=by simpa using hio);(have d2:decide (x.inn<0)=false:=by simpa using h1);(have d3:decide (x.out > 10378368000)=false:=by simpa using h2);(have d4:decide (10378368000<x.out)=false:=by simpa using h2);clear hio hxr h1 h2;go_wp2_with fail;exact ⟨⟨k+1,by omega,by go_num,HXx.out⟩,by simp [intOf];omega⟩
    · have d1:decide (x.inn<x.out)=false:=by simpa using hio
      clear hio hxr;go_wp2_with fail;exact ⟨⟨k+1,by omega,by go_num,HXx.out⟩,by simp [intOf];omega⟩
  · have hkn:k=n:=by omega
    subst hkn;go_wp2_with fail;refine (HM.out _ HX.out).mono ?_;rintro e w2 ⟨A',c',rfl,h1,h2,h3,h4⟩;have HF:=gH (And.intro h1 (And.intro h2 (And.intro (HX.out.trans h3) (fun ad h=>Nat.le_trans HX.out.size (h4 ad h)))));clear h1 h2 h3 h4;go_wp2_with fail;go_ret2;exact ⟨A',c',rfl,HF.out.1,HF.out.2.1,HF.out.2.2.1,HF.out.2.2.2⟩
end
section
open Go.RowKit Go.Maps
def KB (T:TypeId) (w w':World):Prop:=∀ (b:Nat) (cur:Array Value),w.heap[b]?=some (Obj.cells cur T (0,0))→w'.heap[b]?=some (Obj.cells cur T (0,0))
section
variable {T T':TypeId} {w w1 w2:World} {L n:Nat} {A:Option Addr}
theorem KB.refl (w:World):KB T w w:=fun _ _ h=>h
theorem KB.trans (h:KB T w w1) (k:KB T w1 w2):KB T w w2:=fun b cur hb=>k b cur (h b cur hb)
theorem KB.ext (k:Ext w w1):KB T w w1:=fun b _ hb=>(k.block b (Array.getElem?_eq_some_iff.1 hb).1).trans hb
theorem KB.put {g:Nat} {cs cs':Array Value} (hB:Blk w g T' cs) (hne:T≠T'):KB T w (putB w g T' cs'):=fun b cur hb=>by
 have hn:g≠b:=(qBf.ne ⟨cur,hb⟩ hB.typed hne).symm;unfold putB;simp only;rw [Array.getElem?_setIfInBounds_ne hn];exact hb
theorem KB.set {p:Addr} {u:Value} (hT:qBf w T' p.block) (hne:T≠T'):KB T w (w.setCell p u):=fun b cur hb=>by
 have hn:b≠p.block:=qBf.ne ⟨cur,hb⟩ hT hne;rw [RowKit.Below.heap_setCell _ _ _ _ hn];exact hb
theorem KB.sets {g:Nat} (hne:T≠T'):∀ (vs:List Value) (o:Nat) (w:World),qBf w T' g→KB T w (w.setCells g o vs)
 | [],_,w,_=>KB.refl w
 | v :: vs,o,w,h=>(KB.set (p:=⟨g,o,none⟩) h hne).trans (KB.sets hne vs (o+1) _ (h.setCell _ _))
theorem KB.grown {row:Option Nat} (hg:w.grownBy w1 row) (hr:∀ q,row=some q→qBf w T' q) (hne:T≠T'):KB T w w1:=fun b cur hb=>by
 refine (hg.block b (Array.getElem?_eq_some_iff.1 hb).1 (fun e=>?_)).trans hb;exact qBf.ne ⟨cur,hb⟩ (hr b e.symm) hne rfl
theorem KB.turned {b:Nat} (h:w.mapTurned w1 b):KB T w w1:=fun c cur hc=>by
 obtain ⟨es,cl,es',cl',hb,rfl⟩:=h;(have hn:b≠c:=fun e=>by subst e;rw [hb] at hc;cases hc)
 show (w.heap.setIfInBounds b _)[c]?=_
 rw [Array.getElem?_setIfInBounds_ne hn];exact hc
theorem qBf.kb (h:qBf w T n) (k:KB T w w1):qBf w1 T n:=h.elim fun cur hb=>⟨cur,k _ _ hb⟩
theorem qBf.cell_kb (h:qBf w T n) (k:KB T w w1) (o:Nat):w1.cell? ⟨n,o,none⟩=w.cell? ⟨n,o,none⟩:=by
 obtain ⟨cur,hb⟩:=h;simp [World.cell?,hb,k _ _ hb]
end
def KM (w w':World):Prop:=∀ (b:Nat) (es:Array MapEntry) (cl:Nat),w.heap[b]?=some (Obj.map es cl)→w'.heap[b]?=some (Obj.map es cl)
structure Only (T:TypeId) (w w':World):Prop where
 kb:∀ T',T'≠T→KB T' w w'
 km:KM w w'
section
variable {T T':TypeId} {w w1 w2:World}
theorem Only.trans (h:Only T w w1) (k:Only T w1 w2):Only T w w2:=⟨fun T' hn=>(h.kb T' hn).trans (k.kb T' hn),fun b es cl hb=>k.km b es cl (h.km b es cl hb)⟩
theorem Only.ext (k:Ext w w1):Only T w w1:=⟨fun _ _=>KB.ext k,fun b _ _ hb=>(k.block b (Array.getElem?_eq_some_iff.1 hb).1).trans hb⟩
theorem Only.put {g:Nat} {cs cs':Array Value} (hB:Blk w g T cs):Only T w (putB w g T cs'):=⟨fun _ hn=>KB.put hB hn,fun b es cl hb=>by
 (have hn:g≠b:=fun e=>by subst e;rw [show w.heap[g]?=_ from hB] at hb;cases hb);unfold putB;simp only;rw [Array.getElem?_setIfInBounds_ne hn]
 exact hb⟩
theorem Only.set {p:Addr} {u:Value} (hT:qBf w T p.block):Only T w (w.setCell p u):=⟨fun _ hn=>KB.set hT hn,fun b es cl hb=>by
 (have hn:b≠p.block:=fun e=>by subst e;obtain ⟨cur,hc⟩:=hT;rw [hc] at hb;cases hb);rw [RowKit.Below.heap_setCell _ _ _ _ hn]
 exact hb⟩
theorem Only.grown {row:Option Nat} (hg:w.grownBy w1 row) (hr:∀ q,row=some q→qBf w T q):Only T w w1:=⟨fun _ hn=>KB.grown hg hr hn,fun b es cl hb=>by
 refine (hg.block b (Array.getElem?_eq_some_iff.1 hb).1 (fun e=>?_)).trans hb;obtain ⟨cur,hc⟩:=hr b e.symm
 rw [hc] at hb;cases hb⟩
theorem Blk.kb {g:Nat} {cs:Array Value} (h:Blk w g T cs) (k:KB T w w1):Blk w1 g T cs:=k g cs h
theorem Blk.only {g:Nat} {cs:Array Value} (h:Blk w g T' cs) (k:Only T w w1) (hn:T'≠T):Blk w1 g T' cs:=(k.kb T' hn) g cs h
end
theorem qBq {α:Type} {l:List α} {p:Nat} (h:p<l.length):∃ v,l[p]?=some v:=⟨_,List.getElem?_eq_getElem h⟩
end
section
open Go.RowKit
structure Pc where
 inn:Int
 out:Int
 dst:Int
 n:Int
 d:Int
 deriving DecidableEq
def Pc.vals (p:Pc):List Value:=[.int .i64 p.inn,.int .i64 p.out,.int .i64 p.dst,.int .i64 p.n,.int .i64 p.d]
def PcsAt (w:World) (A:Option Addr) (n:Nat) (l:List Pc):Prop:=Sl w 5 (Cells Pc.vals) A n l
theorem PcsAt.ext {w w1:World} {A:Option Addr} {n:Nat} {l:List Pc} (h:PcsAt w A n l) (k:Ext w w1):PcsAt w1 A n l:=Sl.ext (Cells.stays _) h k
theorem info_pc:(Tryz.prog.info? 95).map (fun i=>(i.zero,i.size,i.bytes))=some (some (.agg #[.int .i64 0,.int .i64 0,.int .i64 0,.int .i64 0,.int .i64 0]),5,40):=by kernel_rfl
theorem qJt:(Tryz.prog.info? 95).map (·.size)=some 5:=by kernel_rfl
def Cut.pc (c:Cut):Pc:=⟨c.inn,c.out,c.src,c.n,c.d⟩
def pcsC (l:List Cut) (s:ByteArray):List Pc:=(l.filter fun c=>decide (c.reel=s)).map Cut.pc
def Cut.pl (c:Cut):Spn:=⟨c.src,qFr c (c.out-1)+1⟩
def plC (l:List Cut) (s:ByteArray):List Spn:=(l.filter fun c=>decide (c.reel=s)).map Cut.pl
def pcsE (e:Edl) (s:ByteArray):List Pc:=if qAn e=0 then pcsC e.cuts s else []
def plE (e:Edl) (s:ByteArray):List Spn:=if qAn e=0 then qDf (plC e.cuts s) else []
theorem filt_yes {l:List Cut} {k:Nat} {c:Cut} {s:ByteArray} (h:l[k]?=some c) (hs:c.reel=s):(l.take (k+1)).filter (fun c=>decide (c.reel=s))=(l.take k).filter (fun c=>decide (c.reel=s))++[c]:=by
 rw [take_snoc' _ _ _ h,List.filter_append];simp [hs]
theorem filt_no {l:List Cut} {k:Nat} {c:Cut} {s:ByteArray} (h:l[k]?=some c) (hs:¬ c.reel=s):(l.take (k+1)).filter (fun c=>decide (c.reel=s))=(l.take k).filter (fun c=>decide (c.reel=s)):=by
 rw [take_snoc' _ _ _ h,List.filter_append];simp [hs]
theorem pcsC_yes {l:List Cut} {k:Nat} {c:Cut} {s:ByteArray} (h:l[k]?=some c) (hs:c.reel=s):pcsC (l.take (k+1)) s=pcsC (l.take k) s++[c.pc]:=by unfold pcsC;rw [filt_yes h hs,List.map_append];rfl
theorem pcsC_no {l:List Cut} {k:Nat} {c:Cut} {s:ByteArray} (h:l[k]?=some c) (hs:¬ c.reel=s):pcsC (l.take (k+1)) s=pcsC (l.take k) s:=by unfold pcsC;rw [filt_no h hs]
theorem plC_yes {l:List Cut} {k:Nat} {c:Cut} {s:ByteArray} (h:l[k]?=some c) (hs:c.reel=s):plC (l.take (k+1)) s=plC (l.take k) s++[c.pl]:=by unfold plC;rw [filt_yes h hs,List.map_append];rfl
theorem plC_no {l:List Cut} {k:Nat} {c:Cut} {s:ByteArray} (h:l[k]?=some c) (hs:¬ c.reel=s):plC (l.take (k+1)) s=plC (l.take k) s:=by unfold plC;rw [filt_no h hs]
theorem pcsC_len (l:List Cut) (s:ByteArray) (k:Nat):(pcsC (l.take k) s).length≤k:=by
 have:=List.length_filter_le (fun c:Cut=>decide (c.reel=s)) (l.take k);(unfold pcsC;rw [List.length_map];rw [List.length_take] at this;omega)
theorem plC_len (l:List Cut) (s:ByteArray) (k:Nat):(plC (l.take k) s).length≤k:=by
 have:=List.length_filter_le (fun c:Cut=>decide (c.reel=s)) (l.take k);(unfold plC;rw [List.length_map];rw [List.length_take] at this;omega)
theorem srcAt_bd {c:Cut} (h:c.Sane) {t:Int} (h1:c.inn≤t) (h2:t<c.out):0≤qFr c t∧qFr c t≤50000000:=by
 obtain ⟨a1,a2,a3,a4,a5,a6,a7,a8,a9⟩:=h;have hm:=qLv (a:=t-c.inn) (n:=c.n) (by omega) (by omega) a4 a5;have hq:=div_bd hm.1 hm.2 a6;(unfold qFr;omega)
theorem pl_sane {c:Cut} (h:c.Sane):0≤c.pl.inn∧c.pl.out≤10378368000:=by
 have h2:=srcAt_bd h (t:=c.out-1) (by have:=h.2.1;omega) (by omega);exact ⟨h.2.2.2.2.2.2.2.1,by show qFr c (c.out-1)+1≤_;omega⟩
def LPost {α:Type} (f:α→List Value) (size:Nat) (l:List α) (err:Int) (w:World) (en:Ending) (w':World):Prop :=
 ∃ A c,en = .returned (.tuple #[.slice A l.length c,.int .i64 err])∧Sl w' size (Cells f) A l.length l∧l.length≤c∧Ext w w'∧∀ ad,A=some ad→w.heap.size≤ad.block
def LRel {α:Type} (f:α→List Value) (size:Nat) (T:TypeId) (w1:World) (n:Nat) (F:Nat→List α) (v i:Value) (wr:World):Prop :=
 ∃ k:Nat,k≤n∧i = .int .i64 k∧Ext w1 wr∧wr.ownsRow w1.heap.size T size v (F k).length ((F k).flatMap f)
def PyS (cells:Array Value) (base:Nat) (v:Value) (k:Nat) (xs:List Value) (W:World):List Value→World→Prop
 | [],w'=>Ext W w'
 | [_],w'=>Ext W w'
 | [_,u1],w'=>(∃ g,u1 = .slice (some ⟨g,0,none⟩) 1 1∧Blk w' g 60 cells)∧Ext W w'
 | [_,_,u2],w'=>∃ w5,Ext W w5∧w5.grownBy w' v.ownBlock∧w'.ownsRow base 60 2 u2 (k+1) (xs++cells.toList)
 | [_,_,u2,u3],w'=>u3=u2∧∃ w5,Ext W w5∧w5.grownBy w' v.ownBlock∧w'.ownsRow base 60 2 u2 (k+1) (xs++cells.toList)
 | _,_=>False
structure PyJ (r:Int) (cells:Array Value) (base:Nat) (v:Value) (k:Nat) (xs:List Value) (W:World) (us:List Value) (w':World):Prop where
 only:Only 60 W w'
 val:∀ u,us[0]?=some u→u = .int .i64 r
 st:PyS cells base v k xs W us w'
section
variable {r:Int} {cells:Array Value} {base k:Nat} {v:Value} {xs:List Value} {W w' w2:World} {u0 u1 u2:Value}
theorem PyJ.start (W:World):PyJ r cells base v k xs W [] W.drew:=⟨Only.ext (Ext.refl W).drew,fun u h=>by simp at h,(Ext.refl W).drew⟩
theorem PyJ.call (h:PyJ r cells base v k xs W [] w') (hx:Ext w' w2):PyJ r cells base v k xs W ([]++[.int .i64 r]) w2 :=
 ⟨h.only.trans (Only.ext hx),fun u hu=>by simpa using hu.symm,Ext.trans h.st hx⟩
theorem PyJ.build (h:PyJ r cells base v k xs W [u0] w'):PyJ r cells base v k xs W ([u0]++[.slice (some ⟨w'.heap.size,0,none⟩) 1 1]) (w'.alloc (.cells cells 60)) :=
 ⟨h.only.trans (Only.ext ((Ext.refl w').alloc _)),fun u hu=>h.val u (by simpa using hu),⟨⟨_,rfl,Blk.new w' _ _⟩,Ext.alloc h.st _⟩⟩
theorem PyJ.app (h:PyJ r cells base v k xs W [u0,u1] w') (hv:∀ q,v.ownBlock=some q→qBf w' 60 q) (hg:w'.grownBy w2 v.ownBlock) (ho:w2.ownsRow base 60 2 u2 (k+1) (xs++cells.toList)):PyJ r cells base v k xs W ([u0,u1]++[u2]) w2 :=
 ⟨h.only.trans (Only.grown hg hv),fun u hu=>h.val u (by simpa using hu),⟨w',h.st.2,hg,ho⟩⟩
theorem PyJ.asg (h:PyJ r cells base v k xs W [u0,u1,u2] w'):PyJ r cells base v k xs W ([u0,u1,u2]++[u2]) w':=⟨h.only,fun u hu=>h.val u (by simpa using hu),⟨rfl,h.st⟩⟩
end
theorem qHw {P:Program} {o:Oper} {a:Act} {w:World} {K:Act→World→Prop} {Q:Exit→Act→World→Prop} (s x:Operand) (t:TypeId)
 (ho:o.op = .call { callee:=.builtin .append,args:=#[s,x],argTypes:=#[t,t] })
 {base:Nat} {e:TypeId} {z:Value} {size bytes:Nat} (inf:(P.info? e).map (fun i=>(i.zero,i.size,i.bytes))=some (some z,size,bytes)) (ht:P.underlying t=some (.slice e)) (hzs:z.cells.size=size) (hsz:0<size)
 {v:Value} {n:Nat} {xs:List Value} (hown:w.ownsRow base e size v n xs) (hs:a.eval s=v) (g:Nat) (news:Array Value) (hx:a.eval x = .slice (some ⟨g,0,none⟩) 1 1) (hB:Blk w g e news) (hl:news.size=size) (h1:news.all (·.oneCell')=true)
 (hroom:(n+1)*bytes≤140737488355328) (hmax:n+1≤maxLen) (hbase:base≤w.heap.size)
 (h:∀ v' w',w'.ownsRow base e size v' (n+1) (xs++news.toList)→w.grownBy w' v.ownBlock→K (a.put o.dst v') w'):o.wp P a w K Q:=by
 obtain ⟨i,hi,hz0,hz1,hz2⟩:=info_parts inf
 obtain ⟨v',w',hrun,h2,h3,_,_⟩:=run_append_own_at (P:=P) w base t o.type e i z size bytes ht hi hz0 hz1 hz2 hzs hsz v n xs hown ⟨g,0,none⟩ 1 1 news.toList (by simpa using hl)
  (fun j u hu=>by rw [Addr.add_mid,Nat.zero_add,hB.cell];simpa using hu) (fun u hu=>(Array.all_eq_true_iff_forall_mem.1 h1) u (by simpa using hu)) hmax hroom hbase
 unfold Oper.wp execOp;simp only [ho,resolve,invoke,builtin,Sem.run_bind,Sem.run_pure,Result.andThen_ok,List.map_toArray,List.map_cons,List.map_nil,hs,hx,hrun];exact h v' w' h2 h3
end
section
open Go.RowKit
def toP (p:Pc) (t:Int):Int:=p.dst+(t-p.inn)*p.n / p.d
structure Pc.Ok (p:Pc):Prop where
 i0:0≤p.inn
 io:p.inn<p.out
 o1:p.out≤5184000
 n0:0≤p.n
 n8:p.n≤8
 d1:1≤p.d
 d8:p.d≤8
 t0:0≤p.dst
 t1:p.dst<5184000
 rat:qEn p.n p.d=true
 last:toP p (p.out-1)<5184000
structure MapOk (l:List Pc):Prop where
 each:∀ p∈l,p.Ok
 asc:l.Pairwise fun a b=>a.out≤b.inn
 few:l.length≤64
theorem cut_pc_ok {c:Cut} {day:Int} (h:qCc c day=0) (hd:day≤5184000):c.pc.Ok:=by
 have hs:=cutErr_sane h hd;unfold qCc at h
 repeat' split at h
 all_goals first | omega | skip
 rename_i h1 h2 h3 h4 h5;(have h4':qGb c=true:=by simpa using h4);(have hr:qEn c.n c.d=true:=by unfold qGb at h4';simp at h4';exact h4'.1);obtain ⟨a1,a2,a3,a4,a5,a6,a7,a8,a9⟩:=hs;refine ⟨a1,a2,a3,a4,a5,a6,a7,a8,by show c.src < _;omega,hr,?_⟩
 show qFr c (c.out-1) < _
 omega
set_option maxHeartbeats 1000000 in
theorem To_any (p:Pc) (t:Int) (w:World) (hp:p.Ok) (h1:p.inn≤t) (h2:t<p.out) :
 Calls Tryz.prog 265 #[.agg #[.int .i64 p.inn,.int .i64 p.out,.int .i64 p.dst,.int .i64 p.n,.int .i64 p.d],.int .i64 t] w fun e w'=>e = .returned (.int .i64 (toP p t))∧Ext w w':=by
 obtain ⟨inn,out,dst,n,d⟩:=p;obtain ⟨a1,a2,a3,a4,a5,a6,a7,a8,a9,-,-⟩:=hp;dsimp only at *;have hm:=qLv (a:=t-inn) (n:=n) (by omega) (by omega) a4 a5;have hq:=div_bd hm.1 hm.2 a6;have HF:Hid (toP ⟨inn,out,dst,n,d⟩ t=dst+(t-inn) * n / d):=rfl;have HX:=gH ((Ext.refl w).alloc (.cells #[.int .i64 inn,.int .i64 out,.int .i64 dst,.int .i64 n,.int .i64 d] 95));go_enter Tryz.func265,Tryz.ntmps265;go_wp2_with fail;refine (qGq ((t-inn) * n) d 1 _ hm.1 (by omega) a6 (by omega) (by omega) (by omega)).mono ?_;rintro e w1 ⟨rfl,hx⟩;rw [qMc];have hB:=Blk.ext (Blk.new w 95 #[.int .i64 inn,.int .i64 out,.int .i64 dst,.int .i64 n,.int .i64 d]) hx;(have hcell:=fun o=>hB.cell o);have HB:=gH hB;clear hB;go_wp2_with fail;go_ret;exact ⟨qAa HF.out.symm,HX.out.trans hx⟩
set_option maxHeartbeats 1000000 in
theorem Speed_ok (n d:Int) (w:World) (h0:0≤n) (h8:n≤8) (d8:d≤8) (hr:qEn n d=true) :
 Calls Tryz.prog 264 #[.agg #[.int .i64 n,.int .i64 d]] w fun e w'=>e = .returned (.bool true)∧Ext w w':=by
 have HB0:=gH (Blk.new w 89 #[.int .i64 n,.int .i64 d]);have HX:=gH ((Ext.refl w).alloc (.cells #[.int .i64 n,.int .i64 d] 89));have HV:=gH (fun w'=>qNf n d w');rw [hr] at HV;(have e1:decide (n≥0)=true:=by simpa using h0);(have e1':decide (0≤n)=true:=by simpa using h0);(have e2:decide (n≤8)=true:=by simpa using h8);(have e3:decide (d≤8)=true:=by simpa using d8);clear h0 h8 d8 hr;go_enter Tryz.func264,Tryz.ntmps264;go_wp2_with fail;refine (HV.out _).mono ?_;rintro e w1 ⟨rfl,hx⟩;have HX1:=gH (HX.out.trans hx);have b0:=(HB0.out.ext hx).cell 0;have b1:=(HB0.out.ext hx).cell 1;simp only [gA,gB,gC] at b0 b1;clear hx;go_wp2_with fail;go_ret;exact ⟨rfl,HX1.out⟩
def TmRel (w:World) (n:Nat) (i:Value) (wr:World):Prop:=∃ k:Nat,k≤n∧i = .int .i64 k∧Ext w wr
set_option maxHeartbeats 4000000 in
theorem TCheck_ok (A:Option Addr) (n c:Nat) (l:List Pc) (w:World) (hl:PcsAt w A n l) (hok:MapOk l) :
 Calls Tryz.prog 232 #[.slice A n c] w fun e w'=>e = .returned (.int .i64 0)∧Ext w w':=by
 have HL:=gH hl;have HLn:=gH hl.len;have HOk:=gH hok;(have hn:n≤64:=by rw [← hl.len];exact hok.few);(have hb:decide ((n:Int) > 64)=false:=by simp;omega);(have hb2:decide ((64:Int)<n)=false:=by simp;omega);clear hl hok;go_enter Tryz.func232,Tryz.ntmps232;go_wp2_with fail;clear hb hb2
 go_loopw [10] (fun i wr=>TmRel w n i wr) (fun i _=>n-(intOf i).toNat)
 case atStart=>exact ⟨0,Nat.zero_le _,rfl,Ext.refl _⟩
 case round =>
  obtain ⟨k,hk,rfl,hx⟩:=hrel;have HX:=gH hx;clear hx
  by_cases hlt:k<n
  case neg =>
   (have hkn:k=n:=by omega);subst hkn;go_wp2_with fail;go_ret;exact ⟨rfl,HX.out⟩
  obtain ⟨b,off,x,rfl,hxk,hC⟩:=(HL.out.ext HX.out).at_ hlt;have c0:=hC 0 _ rfl;have c1:=hC 1 _ rfl;have c2:=hC 2 _ rfl;have c3:=hC 3 _ rfl;have c4:=hC 4 _ rfl;simp only [Nat.add_zero] at c0;have hxo:=HOk.out.each x (List.mem_of_getElem? hxk)
  have HPr:Hid (∀ j y,k=j+1→l[j]?=some y→¬ x.inn<y.out):=fun j y hj hy=>by
   subst hj;have h1:=List.pairwise_iff_getElem.1 HOk.out.asc j (j+1) (List.getElem?_eq_some_iff.1 hy).1 (List.getElem?_eq_some_iff.1 hxk).1 (by omega);rw [(List.getElem?_eq_some_iff.1 hy).2,(List.getElem?_eq_some_iff.1 hxk).2] at h1;omega
  have HSp:=gH (fun w'=>Speed_ok x.n x.d w' hxo.n0 hxo.n8 hxo.d8 hxo.rat);have HTo:=gH (fun w'=>To_any x (x.out-1) w' hxo (by have:=hxo.io;omega) (by omega));have hlast:=hxo.last;(have g1:decide (x.inn≥x.out)=false:=by have:=hxo.io;simp;omega);(have g1':decide (x.out≤x.inn)=false:=by have:=hxo.io;simp;omega);(have g2:decide (x.inn<0)=false:=by have:=hxo.i0;simp;omega);(have g3:decide (x.out > 5184000)=false:=by have:=hxo.o1;simp;omega);(have g3':decide (5184000<x.out)=false:=by have:=hxo.o1;simp;omega);(have g4:decide (x.dst<0)=false:=by have:=hxo.t0;simp;omega);(have g5:decide (x.dst≥5184000)=false:=by have:=hxo.t1;simp;omega);(have g5':decide (5184000≤x.dst)=false:=by have:=hxo.t1;simp;omega);have hob:=hxo.o1;have hob2:=hxo.io;have hob3:=hxo.i0;generalize toP x (x.out-1)=tl at *;(have g6:decide (tl≥5184000)=false:=by simp;omega);(have g6':decide (5184000≤tl)=false:=by simp;omega);have HBx:=gH (Blk.new wr 95 #[.int .i64 x.inn,.int .i64 x.out,.int .i64 x.dst,.int .i64 x.n,.int .i64 x.d]);have HXx:=gH ((Ext.refl wr).alloc (.cells #[.int .i64 x.inn,.int .i64 x.out,.int .i64 x.dst,.int .i64 x.n,.int .i64 x.d] 95));clear hC hxk hxo hlast;go_wp2_with fail;refine (HSp.out _).mono ?_;rintro e w1 ⟨rfl,hx1⟩;have HX1:=gH (HXx.out.trans hx1);have HB1:=gH (HBx.out.ext hx1);(have hcl:=fun o=>HB1.out.cell o);clear hx1 HSp
  go_wp2_with (refine qAc rfl 95 (.tmp 4) rfl wr.heap.size 95 _ _ (by exact rfl) (by exact HB1.out) Tryz.underlying95 rfl (by exact qJt) ?_);refine (HTo.out _).mono ?_;rintro e w2 ⟨rfl,hx2⟩;have HX2:=gH (HX1.out.trans hx2);have HB2:=gH (HB1.out.ext hx2);clear hcl;(have hcl2:=fun o=>HB2.out.cell o);clear hx2 HTo
  by_cases hk0:0<k
  · obtain ⟨b',off',y,hA,hyk,hD⟩:=(HL.out.ext (HX.out.trans HX2.out)).at_ (i:=k-1) (by omega)
    cases hA
    have d1:=hD 1 _ rfl;have hny:=HPr.out (k-1) y (by omega) hyk;(have g7:decide (x.inn<y.out)=false:=by simpa using hny);(have g8:decide ((k:Int) > 0)=true:=by simp;omega);(have g8':decide ((0:Int)<k)=true:=by simp;omega);obtain ⟨j,rfl⟩:∃ j,k=j+1:=⟨k-1,by omega⟩;simp only [Nat.add_sub_cancel] at d1;clear hD hyk hny;go_wp2_with fail;go_quiet (fail);go_wp2_with fail;exact ⟨⟨j+1+1,by omega,by go_num,(HX.out.trans HX2.out).drewN _⟩,by simp [intOf];omega⟩
  · have hk00:k=0:=by omega
    subst hk00;go_wp2_with fail;go_quiet (fail);go_wp2_with fail;exact ⟨⟨0+1,by omega,by go_num,(HX.out.trans HX2.out).drewN _⟩,by simp [intOf];omega⟩
end
section
def spInB (l:List Spn) (f:Int):Bool:=l.any fun s=>decide (s.inn≤f∧f<s.out)
theorem spInB_inn (l:List Spn) (f:Int):spInB l f=true↔Inn l f:=by unfold spInB Inn;simp
def Apt (l:List Spn):Prop:=l.Pairwise fun x y=>x.out<y.inn
def sumL (l:List Spn):Int:=(l.map fun s=>s.out-s.inn).sum
theorem countP_or {α:Type} (p q:α→Bool) (h:∀ x,p x=true→q x=false):∀ l:List α,l.countP (fun x=>p x || q x)=l.countP p+l.countP q
 | []=>rfl
 | a :: l=>by
  have ih:=countP_or p q h l;rw [List.countP_cons,List.countP_cons,List.countP_cons,ih]
  cases hp:p a with
  | true=>have:=h a hp;simp [this];omega
  | false=>cases hq:q a<;>simp<;>omega
theorem countP_rng (a b:Nat):∀ n:Nat,(List.range n).countP (fun k=>decide (a≤k∧k<b))=min n b-min n a
 | 0=>by simp
 | n+1=>by
  rw [List.range_succ,List.countP_append,countP_rng a b n];simp only [List.countP_cons,List.countP_nil]
  by_cases h:a≤n∧n<b
  · rw [if_pos (by simpa using h)];omega
  · rw [if_neg (by simpa using h)];omega
theorem sum_count:∀ {l:List Spn} {N:Nat},Full l→Apt l→(∀ s∈l,0≤s.inn∧s.out≤N)→sumL l=(((List.range N).countP fun k:Nat=>spInB l (k:Int):Nat):Int)
 | [],N,_,_,_=>by simp [sumL,spInB]
 | s :: l,N,hf,ha,hb=>by
  have hs:=hf s (by simp);have hsb:=hb s (by simp);unfold Apt at ha;rw [List.pairwise_cons] at ha;have ih:=sum_count (l:=l) (N:=N) (fun x hx=>hf x (by simp [hx])) ha.2 (fun x hx=>hb x (by simp [hx]))
  have e:(fun k:Nat=>spInB (s :: l) (k:Int))=fun k:Nat=>decide (s.inn.toNat≤k∧k<s.out.toNat) || spInB l (k:Int):=by
   funext k
   unfold spInB;rw [List.any_cons]
   congr 1
   apply decide_eq_decide.2;omega
  rw [e,countP_or _ _ (fun k hk=>by
   have hk':=of_decide_eq_true hk
   cases hq:spInB l (k:Int) with
   | false=>rfl
   | true =>
    obtain ⟨x,hx,h1,h2⟩:=(spInB_inn _ _).1 hq;have:=ha.1 x hx
    omega),countP_rng]
  (have:sumL (s :: l)=(s.out-s.inn)+sumL l:=by unfold sumL;simp);rw [this,ih];omega
theorem sum_same {l m:List Spn} (hl:Full l) (ha:Apt l) (hm:Full m) (hb:Apt m) (h0:∀ s∈l,0≤s.inn) (h1:∀ s∈m,0≤s.inn) (h:∀ f,Inn l f↔Inn m f):sumL l=sumL m:=by
 have hbd:∀ k:List Spn,∃ N:Nat,∀ s∈k,s.out≤N:=by
  intro k
  induction k with
  | nil=>exact ⟨0,by simp⟩
  | cons s k ih =>
   obtain ⟨N,hN⟩:=ih;refine ⟨max N s.out.toNat,fun x hx=>?_⟩
   rcases List.mem_cons.1 hx with rfl | hx
   · omega
   · have:=hN x hx;omega
 obtain ⟨N1,hN1⟩:=hbd l;obtain ⟨N2,hN2⟩:=hbd m;rw [sum_count (N:=max N1 N2) hl ha (fun s hs=>⟨h0 s hs,by have:=hN1 s hs;omega⟩),sum_count (N:=max N1 N2) hm hb (fun s hs=>⟨h1 s hs,by have:=hN2 s hs;omega⟩)]
 congr 2
 funext k
 have:=h (k:Int);rw [← spInB_inn,← spInB_inn] at this
 cases h3:spInB l k<;>cases h4:spInB m k<;>simp_all
def maxT:Int:=10378368000
def qDl:Int→List Spn→List Spn
 | at',[]=>[⟨at',maxT+1⟩]
 | at',s :: l=>(if at' < s.inn then [⟨at',s.inn⟩] else [])++qDl s.out l
def qDw (a b:List Spn):List Spn:=a.flatMap fun x=>b.flatMap fun y=>if max x.inn y.inn<min x.out y.out then [⟨max x.inn y.inn,min x.out y.out⟩] else []
def qKl (s:Spn) (p:List Spn):Int:=sumL (qDw [s] (qDl 0 p))
theorem qIs (s:Spn) (b:List Spn):qDw [s] b=b.flatMap fun y=>if max s.inn y.inn<min s.out y.out then [⟨max s.inn y.inn,min s.out y.out⟩] else []:=by unfold qDw;simp
theorem comm_full (s:Spn) (b:List Spn):Full (qDw [s] b):=by
 rw [qIs];intro x hx;obtain ⟨y,_,h⟩:=List.mem_flatMap.1 hx
 split at h
 · simp at h;subst h;assumption
 · simp at h
theorem comm_mem {s:Spn} {b:List Spn} {f:Int}:Inn (qDw [s] b) f↔(s.inn≤f∧f<s.out)∧Inn b f:=by
 rw [qIs];unfold Inn
 constructor
 · rintro ⟨x,hx,h1,h2⟩
   obtain ⟨y,hy,h⟩:=List.mem_flatMap.1 hx
   split at h
   · simp at h;subst h
     simp only at h1 h2;exact ⟨by omega,y,hy,by omega⟩
   · simp at h
 · rintro ⟨⟨h1,h2⟩,y,hy,h3,h4⟩
   exact ⟨⟨max s.inn y.inn,min s.out y.out⟩,List.mem_flatMap.2 ⟨y,hy,by rw [if_pos (by omega)];simp⟩,by simp only;omega,by simp only;omega⟩
theorem comm_apt (s:Spn):∀ {b:List Spn},Apt b→Apt (qDw [s] b)
 | [],_=>by simp [qIs,Apt]
 | y :: b,h=>by
  unfold Apt at h;rw [List.pairwise_cons] at h;have ih:=comm_apt s h.2;rw [qIs] at ih ⊢;rw [List.flatMap_cons];unfold Apt at ih ⊢;rw [List.pairwise_append];refine ⟨by split<;>simp,ih,fun x hx z hz=>?_⟩
  split at hx
  · simp at hx;subst hx
    obtain ⟨q,hq,hz⟩:=List.mem_flatMap.1 hz;have:=h.1 q hq
    split at hz
    · simp at hz;subst hz;simp only;omega
    · simp at hz
  · simp at hx
theorem rest_ok:∀ {l:List Spn} {a:Int},qGh l→(∀ s∈l,a≤s.inn∧s.out≤maxT)→a≤maxT→Full (qDl a l)∧Apt (qDl a l)∧(∀ s∈qDl a l,a≤s.inn)∧∀ f,Inn (qDl a l) f↔a≤f∧f≤maxT∧¬ Inn l f
 | [],a,_,_,ha=>by
  unfold qDl;refine ⟨fun s hs=>by simp at hs;subst hs;simp only;omega,by simp [Apt],fun s hs=>by simp at hs;subst hs;exact Int.le_refl _,fun f=>?_⟩;(simp [Inn];omega)
 | s :: l,a,h,hb,ha=>by
  have hs:=h.1 s (by simp);have hsb:=hb s (by simp);have hp:=h.2;rw [List.pairwise_cons] at hp;obtain ⟨k1,k2,k3,k4⟩:=rest_ok (l:=l) (a:=s.out) ⟨fun x hx=>h.1 x (by simp [hx]),hp.2⟩ (fun x hx=>⟨by have:=hp.1 x hx;omega,(hb x (by simp [hx])).2⟩) hsb.2;unfold qDl
  by_cases hlt:a<s.inn
  · rw [if_pos hlt]
    refine ⟨fun x hx=>?_,?_,fun x hx=>?_,fun f=>?_⟩
    · rcases List.mem_append.1 hx with hx | hx
      · simp at hx;subst hx;exact hlt
      · exact k1 x hx
    · unfold Apt at k2 ⊢
      rw [List.pairwise_append];exact ⟨by simp,k2,fun x hx y hy=>by simp at hx;subst hx;have:=k3 y hy;simp only;omega⟩
    · rcases List.mem_append.1 hx with hx | hx
      · simp at hx;subst hx;exact Int.le_refl _
      · have:=k3 x hx;omega
    · have e1:Inn ([⟨a,s.inn⟩]++qDl s.out l) f↔(a≤f∧f<s.inn)∨Inn (qDl s.out l) f:=by unfold Inn;simp
      have e2:Inn (s :: l) f↔(s.inn≤f∧f<s.out)∨Inn l f:=by unfold Inn;simp
      have e3:Inn l f→s.out≤f:=by
       rintro ⟨x,hx,h1,h2⟩;(have:=hp.1 x hx;omega)
      rw [e1,e2,k4]
      constructor
      · rintro (⟨h1,h2⟩ | ⟨h1,h2,h3⟩)
        · exact ⟨h1,by omega,fun hc=>by rcases hc with hc | hc;omega;have:=e3 hc;omega⟩
        · exact ⟨by omega,h2,fun hc=>by rcases hc with hc | hc;omega;exact h3 hc⟩
      · rintro ⟨h1,h2,h3⟩
        by_cases hc:f<s.inn
        · exact .inl ⟨h1,hc⟩
        · exact .inr ⟨by by_cases h4:f<s.out;exact absurd (.inl ⟨by omega,h4⟩) h3;omega,h2,fun h5=>h3 (.inr h5)⟩
  · rw [if_neg hlt,List.nil_append]
    refine ⟨k1,k2,fun x hx=>by have:=k3 x hx;omega,fun f=>?_⟩;(have e2:Inn (s :: l) f↔(s.inn≤f∧f<s.out)∨Inn l f:=by unfold Inn;simp);rw [e2,k4]
    constructor
    · rintro ⟨h1,h2,h3⟩
      exact ⟨by omega,h2,fun hc=>by rcases hc with hc | hc;omega;exact h3 hc⟩
    · rintro ⟨h1,h2,h3⟩
      exact ⟨by by_cases h4:f<s.out;exact absurd (.inl ⟨by omega,h4⟩) h3;omega,h2,fun h5=>h3 (.inr h5)⟩
def minR (o:Int):Int→List Spn→List Spn
 | i,[]=>[⟨i,o⟩]
 | i,t :: b=>if t.out≤i∨o≤t.inn then minR o i b else ⟨i,t.inn⟩ :: minR o t.out b
theorem minR_mem (o:Int):∀ {b:List Spn} {i:Int},qGh b→∀ f,Inn (minR o i b) f↔(i≤f∧f<o)∧¬ Inn b f
 | [],i,_,f=>by unfold minR;simp [Inn]
 | t :: b,i,h,f=>by
  have ht:=h.1 t (by simp);have hp:=h.2;rw [List.pairwise_cons] at hp;have hb:qGh b:=⟨fun x hx=>h.1 x (by simp [hx]),hp.2⟩;(have e2:Inn (t :: b) f↔(t.inn≤f∧f<t.out)∨Inn b f:=by unfold Inn;simp)
  have e3:Inn b f→t.out≤f:=by
   rintro ⟨x,hx,h1,h2⟩;(have:=hp.1 x hx;omega)
  unfold minR
  split
  · rename_i hc
    rw [minR_mem o hb,e2]
    constructor
    · rintro ⟨h1,h2⟩
      exact ⟨h1,fun hx=>by rcases hx with hx | hx;omega;exact h2 hx⟩
    · rintro ⟨h1,h2⟩
      exact ⟨h1,fun hx=>h2 (.inr hx)⟩
  · rename_i hc
    (have e1:Inn (⟨i,t.inn⟩ :: minR o t.out b) f↔(i≤f∧f<t.inn)∨Inn (minR o t.out b) f:=by unfold Inn;simp);rw [e1,minR_mem o hb,e2]
    constructor
    · rintro (⟨h1,h2⟩ | ⟨⟨h1,h2⟩,h3⟩)
      · exact ⟨by omega,fun hx=>by rcases hx with hx | hx;omega;have:=e3 hx;omega⟩
      · exact ⟨by omega,fun hx=>by rcases hx with hx | hx;omega;exact h3 hx⟩
    · rintro ⟨⟨h1,h2⟩,h3⟩
      by_cases hc2:f<t.inn
      · exact .inl ⟨h1,hc2⟩
      · exact .inr ⟨⟨by by_cases h4:f<t.out;exact absurd (.inl ⟨by omega,h4⟩) h3;omega,h2⟩,fun hx=>h3 (.inr hx)⟩
def lostR (s:Spn) (p:List Spn):Int:=sumL (qDf (minR s.out s.inn p))
theorem minR_bd (o:Int):∀ {b:List Spn} {i:Int},0≤i→(∀ t∈b,0≤t.inn∧0≤t.out)→∀ x∈minR o i b,0≤x.inn∧x.out≤max o (b.foldl (fun m t=>max m t.inn) o)
 | [],i,h,_,x,hx=>by simp [minR] at hx;subst hx;exact ⟨h,by simp⟩
 | t :: b,i,h,hb,x,hx=>by
  have hm:∀ (l:List Spn) (a c:Int),a≤c→l.foldl (fun m t=>max m t.inn) a≤l.foldl (fun m t=>max m t.inn) c:=by
   intro l
   induction l with
   | nil=>intro a c h;exact h
   | cons y l ih=>intro a c h;simp only [List.foldl_cons];exact ih _ _ (by omega)
  have hge:∀ (l:List Spn) (a:Int),a≤l.foldl (fun m t=>max m t.inn) a:=by
   intro l
   induction l with
   | nil=>intro a;exact Int.le_refl _
   | cons y l ih=>intro a;simp only [List.foldl_cons];have:=ih (max a y.inn);omega
  unfold minR at hx;simp only [List.foldl_cons];have h1:=hm b o (max o t.inn) (by omega);have h2:=hge b (max o t.inn)
  split at hx
  · have:=minR_bd o h (fun y hy=>hb y (by simp [hy])) x hx
    exact ⟨this.1,by omega⟩
  · rcases List.mem_cons.1 hx with rfl | hx
    · exact ⟨h,by simp only;omega⟩
    · have:=minR_bd o (hb t (by simp)).2 (fun y hy=>hb y (by simp [hy])) x hx
      exact ⟨this.1,by omega⟩
theorem setOk_apt {l:List Spn} (h:qGh l):Apt l:=h.2
theorem lost_same {s:Spn} {p:List Spn} (hs0:0≤s.inn) (hs1:s.out≤maxT) (hp:qGh p) (hb:∀ t∈p,0≤t.inn∧t.out≤maxT):qKl s p=lostR s p:=by
 obtain ⟨r1,r2,r3,r4⟩:=rest_ok (l:=p) (a:=0) hp hb (by unfold maxT;omega);obtain ⟨j1,j2,j3,j4⟩:=qNz (minR s.out s.inn p);unfold qKl lostR;refine sum_same (comm_full _ _) (comm_apt _ r2) j1.1 (setOk_apt j1) (fun x hx=>?_) (fun x hx=>?_) (fun f=>?_)
 · rw [qIs] at hx
   obtain ⟨y,hy,h⟩:=List.mem_flatMap.1 hx
   split at h
   · simp at h;subst h;simp only;omega
   · simp at h
 · exact (j4 0 _ (fun y hy=>minR_bd s.out hs0 (fun t ht=>⟨(hb t ht).1,by have:=hp.1 t ht;have:=(hb t ht).1;omega⟩) y hy) x hx).1
 · rw [comm_mem,r4,j2,minR_mem s.out hp]
   constructor
   · rintro ⟨h1,h2,h3,h4⟩;exact ⟨h1,h4⟩
   · rintro ⟨h1,h2⟩;exact ⟨h1,by omega,by omega,h2⟩
end
section
open Go.RowKit
def qAs (p:Pc) (v:Int):Int:=if v≤p.dst then p.inn else if p.n=0 then p.out else min (p.inn+quoI ((v-p.dst)*p.d) p.n 3) p.out
theorem quoI_bd (n d m:Int) (h:0≤n) (hd:1≤d):0≤quoI n d m∧quoI n d m≤n+1:=by
 have h1:0≤n / d:=Int.ediv_nonneg h (by omega);have h2:n / d≤n:=Int.ediv_le_self _ h;unfold quoI
 split<;>omega
set_option maxHeartbeats 4000000 in
theorem qPb (p:Pc) (v:Int) (w:World) (hp:p.Ok) (hv:v≤maxT) :
 Calls Tryz.prog 186 #[.agg #[.int .i64 p.inn,.int .i64 p.out,.int .i64 p.dst,.int .i64 p.n,.int .i64 p.d],.int .i64 v] w fun e w'=>e = .returned (.int .i64 (qAs p v))∧Ext w w':=by
 have HX:=gH ((Ext.refl w).alloc (.cells #[.int .i64 p.inn,.int .i64 p.out,.int .i64 p.dst,.int .i64 p.n,.int .i64 p.d] 95));have HB:=gH (Blk.new w 95 #[.int .i64 p.inn,.int .i64 p.out,.int .i64 p.dst,.int .i64 p.n,.int .i64 p.d]);have hp0:=hp.i0;have hp1:=hp.o1;have hp2:=hp.io;have hp3:=hp.t0;have hp4:=hp.t1;have hp5:=hp.n0;have hp6:=hp.n8;have hp7:=hp.d1;have hp8:=hp.d8;unfold maxT at hv;clear hp
 by_cases h1:v≤p.dst
 · have e1:decide (v≤p.dst)=true:=by simpa using h1
   (have HF:Hid (qAs p v=p.inn):=by show _=_;unfold qAs;rw [if_pos h1]);clear h1;go_enter Tryz.func186,Tryz.ntmps186;go_wp2_with fail;go_ret;exact ⟨qAa HF.out.symm,HX.out⟩
 · have e1:decide (v≤p.dst)=false:=by simpa using h1
   by_cases h2:p.n=0
   · have e2:(p.n == 0)=true:=by simpa using h2
     (have HF:Hid (qAs p v=p.out):=by show _=_;unfold qAs;rw [if_neg h1,if_pos h2]);clear h1 h2;go_enter Tryz.func186,Tryz.ntmps186;go_wp2_with fail;go_ret;exact ⟨qAa HF.out.symm,HX.out⟩
   · have e2:(p.n == 0)=false:=by simpa using h2
     have HF:Hid (qAs p v=min (p.inn+quoI ((v-p.dst)*p.d) p.n 3) p.out):=by show _=_;unfold qAs;rw [if_neg h1,if_neg h2]
     have hm:0≤(v-p.dst)*p.d∧(v-p.dst)*p.d≤10378368000*8:=by
      refine ⟨Int.mul_nonneg (by omega) (by omega),?_⟩;have h3:(v-p.dst)*p.d≤10378368000*p.d:=Int.mul_le_mul_of_nonneg_right (by omega) (by omega);have h4:10378368000*p.d≤10378368000*8:=Int.mul_le_mul_of_nonneg_left hp8 (by omega);omega
     have hq:=quoI_bd ((v-p.dst) * p.d) p.n 3 hm.1 (by omega);have HQ:=gH (fun w'=>qGq ((v-p.dst) * p.d) p.n 3 w' hm.1 (by omega) (by omega) (by omega) (by omega) (by omega));(have hvd:0<v-p.dst:=by omega);obtain ⟨hm1,hm2⟩:=hm;clear h1 h2;go_enter Tryz.func186,Tryz.ntmps186;go_wp2_with fail;refine (HQ.out _).mono ?_;rintro e w1 ⟨rfl,hx⟩;have HX1:=gH (HX.out.trans hx);have HB1:=gH (HB.out.ext hx);(have hcl:=fun o=>HB1.out.cell o);clear hx HQ;generalize quoI ((v-p.dst) * p.d) p.n 3=q at *;go_wp2_with fail;go_ret;exact ⟨qAa HF.out.symm,HX1.out⟩
end
end Go.Proofs.YtablhmobekmflaaGreatDoor