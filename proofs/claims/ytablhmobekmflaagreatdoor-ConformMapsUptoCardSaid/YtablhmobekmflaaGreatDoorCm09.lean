/- Texts laid together. -/
import Derived.Test.YtablhmobekmflaaGreatDoorCm08
import Derived.Test.YtablhmobekmflaaGreatDoorCm04
import Derived.Test.YtablhmobekmflaaGreatDoorCm01
set_option linter.unusedVariables false
set_option linter.unusedSimpArgs false
set_option maxRecDepth 100000
namespace Go.Proofs.YtablhmobekmflaaGreatDoor
section
open Go.RowKit Go.Maps
def qFq (regs:List Reg) (last:Int) (pre:List Ev) (x:Ev):Int:=if x.err regs≠0 then x.err regs else if last<x.id then 2 else if (pre.getLast?.map fun p=>qEl p x)=some false then 8 else if (qBu pre x.id).isSome=true then 7 else 0
theorem evs_cons (regs:List Reg) (last:Int) (pre:List Ev) (x:Ev) (l:List Ev):qCe regs last pre (x :: l)=if qFq regs last pre x≠0 then qFq regs last pre x else qCe regs last (pre++[x]) l:=by
 rw [qCe];unfold qFq
 repeat' split
 all_goals first | rfl | omega | simp_all
theorem evs_step {l:List Ev} {k:Nat} {x:Ev} {E last:Int} {regs:List Reg} (hx:l[k]?=some x) (hP:E=qCe regs last (l.take k) (l.drop k)) :
 (qFq regs last (l.take k) x≠0→E=qFq regs last (l.take k) x)∧(qFq regs last (l.take k) x=0→E=qCe regs last (l.take (k+1)) (l.drop (k+1))):=by
 rw [qDe l k x hx,evs_cons] at hP;refine ⟨fun h=>by rw [if_pos h] at hP;exact hP,fun h=>?_⟩;rw [if_neg (by simpa using h)] at hP;rw [hP,take_snoc' l k x hx]
section
variable {regs:List Reg} {last:Int} {pre:List Ev} {x:Ev}
theorem ev_1 (h:x.err regs≠0):qFq regs last pre x=x.err regs:=by unfold qFq;rw [if_pos h]
theorem ev_2 (h:x.err regs=0) (h1:last<x.id):qFq regs last pre x=2:=by unfold qFq;rw [if_neg (by simpa using h),if_pos h1]
theorem ev_3 (h:x.err regs=0) (h1:¬ last<x.id) (h2:(pre.getLast?.map fun p=>qEl p x)=some false):qFq regs last pre x=8:=by unfold qFq;rw [if_neg (by simpa using h),if_neg h1,if_pos h2]
theorem ev_4 (h:x.err regs=0) (h1:¬ last<x.id) (h2:¬ (pre.getLast?.map fun p=>qEl p x)=some false) (h3:(qBu pre x.id).isSome=true):qFq regs last pre x=7:=by unfold qFq;rw [if_neg (by simpa using h),if_neg h1,if_neg h2,if_pos h3]
theorem ev_5 (h:x.err regs=0) (h1:¬ last<x.id) (h2:¬ (pre.getLast?.map fun p=>qEl p x)=some false) (h3:(qBu pre x.id).isSome=false):qFq regs last pre x=0:=by unfold qFq;rw [if_neg (by simpa using h),if_neg h1,if_neg h2,if_neg (by simp [h3])]
end
section
variable {d:Doc}
theorem doc_1 (h:d.headErr≠0):d.err=d.headErr:=by unfold Doc.err;rw [if_pos h]
theorem doc_2 (h:d.headErr=0) (h1:qDh d.regs≠0):d.err=qDh d.regs:=by unfold Doc.err;rw [if_neg (by simpa using h),if_pos h1]
theorem doc_3 (h:d.headErr=0) (h1:qDh d.regs=0) (h2:400<d.evs.length):d.err=9:=by unfold Doc.err;rw [if_neg (by simpa using h),if_neg (by simpa using h1),if_pos h2]
theorem doc_4 (h:d.headErr=0) (h1:qDh d.regs=0) (h2:¬ 400<d.evs.length) (h3:qCe d.regs d.last [] d.evs≠0):d.err=qCe d.regs d.last [] d.evs:=by unfold Doc.err;rw [if_neg (by simpa using h),if_neg (by simpa using h1),if_neg h2,if_pos h3]
theorem doc_5 (h:d.headErr=0) (h1:qDh d.regs=0) (h2:¬ 400<d.evs.length) (h3:qCe d.regs d.last [] d.evs=0):d.err=comsErr d.last d.evs d.coms:=by unfold Doc.err comsErr;rw [if_neg (by simpa using h),if_neg (by simpa using h1),if_neg h2,if_neg (by simpa using h3)]
end
structure DocFit (d:Doc):Prop where
 ok:DocOk d
 regs:qGg d.regs
 evs:qNw d.evs
 ids:∀ e∈d.evs,IW e.id
 coms:ComsOk d.coms
def DcRel (w w1:World) (B n:Nat) (regs:List Reg) (last:Int) (l:List Ev) (i:Value) (wr:World):Prop :=
 ∃ k:Nat,k≤n∧i = .int .i64 k∧Ext w1 wr∧MapE wr 3 B (l.take k)∧qCe regs last [] l=qCe regs last (l.take k) (l.drop k)
theorem prev_ev {w:World} {A:Option Addr} {n:Nat} {l:List Ev} (h:qKw w A n l) {k:Nat} (hk:k≤n) (h0:0<k):∃ b off p A' n' c',A=some ⟨b,off,none⟩∧(∀ j u,(p.cells A' n' c').toList[j]?=some u→w.cell? ⟨b,off+(k-1)*7+j,none⟩=some u)∧(l.take k).getLast?=some p:=by
 obtain ⟨j,rfl⟩:∃ j,k=j+1:=⟨k-1,by omega⟩;obtain ⟨b,off,p,hA,hp,A',n',c',hc,_⟩:=h.at_ (i:=j) (by omega);exact ⟨b,off,p,A',n',c',hA,by simpa using hc,by rw [take_snoc' l j p hp];simp⟩
theorem own_mext {w w1:World} {T:TypeId} {B n:Nat} {D:DataW Unit} (h:w.ownsMap Tryz.prog 2 (plainElem Tryz.prog T) B n D) (k:Ext w w1):w1.ownsMap Tryz.prog 2 (plainElem Tryz.prog T) B n D:=by
 obtain ⟨es,cl,h1,h2⟩:=h;exact ⟨es,cl,(k.block B (Array.getElem?_eq_some_iff.1 h1).1).trans h1,h2⟩
theorem qMr {w0 w w1:World} {b:Nat} (h:w.mapTurned w1 b) (k:Ext w0 w) (hb:w0.heap.size≤b):Ext w0 w1:=k.grown h.grown (fun q hq=>by cases hq;exact hb)
set_option maxHeartbeats 8000000 in
theorem DCheck_any (d:Doc) (h:DocH) (w:World) (hE:Env w) (hat:qHy w d h) (hf:DocFit d) (hrn:h.rn≤9223372036854775807) (hn:h.en≤1000000) (hcn:h.cn≤9223372036854775807) :
 Calls Tryz.prog 31 #[.agg (d.cells h)] w fun en w'=>en = .returned (.int .i64 d.err)∧Ext w w':=by
 have HX:=gH ((Ext.refl w).alloc (.cells (d.cells h) 52));have HB:=gH (Blk.new w 52 (d.cells h));have HEv:=gH hat.evs;have HEl:=gH hat.evs.len;have HE:=gH hE;have HHd:=gH (fun w' (hx:Ext w w')=>header_any d h w' (hE.ext hx) hf.ok);have HLs:=gH (fun w' (hx:Ext w w')=>CheckList_any h.ra h.rn h.rc d.regs w' (hat.regs.ext hx) hrn hf.regs);have HCm:=gH (fun B w' (hx:Ext w w') (hm:MapE w' 3 B d.evs)=>comments_any d h B w' (hE.ext hx) (hat.ext hx) hm hf.evs hn hcn hf.coms);have HEc:=gH (fun (e:Ev) (he:e∈d.evs) A n c w' (hx:Ext w w') (hev:EvAt w' e A n c)=>ECheck_any e A n c h.ra h.rn h.rc d.regs w' (hE.ext hx) hev (hf.evs e he).1 (hat.regs.ext hx) hrn hf.regs);have HId:=gH hf.ids;have D1:=gH (@doc_1 d);have D2:=gH (@doc_2 d);have D3:=gH (@doc_3 d);have D4:=gH (@doc_4 d);have D5:=gH (@doc_5 d);rw [hat.evs.len] at D3 D4 D5;have hmm:=@run_makeMap Tryz.prog;clear hat hf hE;unfold Doc.cells at *;obtain ⟨hra,hrn',hrc,hea,n,hec,hca,hcn',hcc⟩:=h;dsimp only at *;go_enter Tryz.func31,Tryz.ntmps31;go_wp2_with (refine qAc rfl 52 (.tmp 1) rfl w.heap.size 52 _ _ (by exact rfl) (by exact HB.out) Tryz.underlying52 rfl (by exact qEa) ?_);refine (HHd.out _ HX.out).mono ?_;rintro en w1 ⟨rfl,hx1⟩;have HX1:=gH (HX.out.trans hx1);have HB1:=gH (HB.out.ext hx1);clear hx1;(have hc1:=fun o=>HB1.out.cell o)
 by_cases h0:d.headErr=0
 case neg =>
  (have hne:(d.headErr != 0)=true:=by simpa using h0);have HH:=gH h0;clear h0;go_wp2_with fail;go_ret;exact ⟨qAa (D1.out HH.out).symm,HX1.out⟩
 rw [h0];have HH:=gH h0;clear h0 D1;go_wp2_with fail;refine (HLs.out _ HX1.out).mono ?_;rintro en w2 ⟨rfl,hx2⟩;have HX2:=gH (HX1.out.trans hx2);have HB2:=gH (HB1.out.ext hx2);clear hx2 hc1;(have hc2:=fun o=>HB2.out.cell o)
 by_cases h1:qDh d.regs=0
 case neg =>
  (have hne:(qDh d.regs != 0)=true:=by simpa using h1);have HR:=gH h1;clear h1;go_wp2_with fail;go_ret;exact ⟨qAa (D2.out HH.out HR.out).symm,HX2.out⟩
 rw [h1];have HR:=gH h1;clear h1 D2
 by_cases h4:400<n
 · have h4i:(400:Int)<(n:Int):=by omega
   go_wp2_with fail;go_ret;exact ⟨qAa (D3.out HH.out HR.out h4).symm,HX2.out⟩
 (have h4i:¬ (400:Int)<(n:Int):=by omega);have H4:=gH h4;clear D3 h4;have HMm:=gH (MapE.made w2 3);have HXm:=gH ((Ext.refl w2).alloc (.map #[] 0));have HBm:=gH (HB2.out.ext HXm.out);(have hcm:=fun o=>HBm.out.cell o);have hb2:=HB2.out.lt;go_wp2_with fail;clear hcm hc2 hmm
 go_loopw [30] (fun i wr=>DcRel w w2 w2.heap.size n d.regs d.last d.evs i wr) (fun i _=>n-(intOf i).toNat)
 case atStart=>exact ⟨0,Nat.zero_le _,rfl,HXm.out,by simpa using HMm.out,by simp⟩
 case round =>
  obtain ⟨k,hk,rfl,hx,hM,hP⟩:=hrel;have HXr:=gH (HX2.out.trans hx);have HBr:=gH (HB2.out.ext hx)
  by_cases hlt:k<n
  · obtain ⟨b,off,x,rfl,hxx,A',n',c',hC,hEv⟩:=(HEv.out.ext HXr.out).at_ hlt
    have hxm:=List.mem_of_getElem? hxx;have HS:=gH (evs_step hxx hP)
    have RET:∀ e:Int,qFq d.regs d.last (d.evs.take k) x=e→e≠0→d.err=e:=fun e h1 h2=>by
     have h3:=HS.out.1 (by rw [h1];exact h2);exact (D4.out HH.out HR.out H4.out (by rw [h3,h1];exact h2)).trans (h3.trans h1)
    have HRet:=gH RET;have HPv:=gH (fun h0=>prev_ev (HEv.out.ext HXr.out) (k:=k) hk h0);have HEx:=gH (fun w' (hx':Ext w w') (hev:EvAt w' x A' n' c')=>HEc.out x hxm A' n' c' w' hx' hev);have HAt:=gH hEv;have HIw:=gH (HId.out x hxm);have HKey:=gH (HId.out x hxm).key;have HTk:=gH (take_snoc' d.evs k x hxx);(have HTl:Hid ((d.evs.take k).length=k):=by show _=_;rw [List.length_take];have:=HEl.out;omega);(have c0:wr.cell? ⟨b,off+k*7,none⟩=some (.int .i64 x.id):=by simpa using hC 0 _ rfl);have c1:wr.cell? ⟨b,off+k*7+1,none⟩=some (.int .i64 x.inn):=hC 1 _ rfl;have c2:wr.cell? ⟨b,off+k*7+2,none⟩=some (.int .i64 x.out):=hC 2 _ rfl;have c3:wr.cell? ⟨b,off+k*7+3,none⟩=some (.string x.region):=hC 3 _ rfl;have c4:wr.cell? ⟨b,off+k*7+4,none⟩=some (.int .u8 x.kind):=hC 4 _ rfl;have c5:wr.cell? ⟨b,off+k*7+5,none⟩=some (.string x.speaker):=hC 5 _ rfl;have c6:wr.cell? ⟨b,off+k*7+6,none⟩=some (.slice A' n' c'):=hC 6 _ rfl;have HM:=gH hM;clear RET hxx hP hxm hC hEv hM;have E1:=gH (fun p=>@ev_1 d.regs d.last p x);have E2:=gH (fun p=>@ev_2 d.regs d.last p x);have E3:=gH (fun p=>@ev_3 d.regs d.last p x);have E4:=gH (fun p=>@ev_4 d.regs d.last p x);have E5:=gH (fun p=>@ev_5 d.regs d.last p x);unfold Ev.cells at HEx;have HBc:=gH (Blk.new wr 64 #[.int .i64 x.id,.int .i64 x.inn,.int .i64 x.out,.string x.region,.int .u8 x.kind,.string x.speaker,.slice A' n' c'])
    have HXc:=gH ((Ext.refl wr).alloc (.cells #[.int .i64 x.id,.int .i64 x.inn,.int .i64 x.out,.string x.region,.int .u8 x.kind,.string x.speaker,.slice A' n' c'] 64));have HBl:=gH (HBr.out.ext HXc.out);have HX3:=gH (HXr.out.trans HXc.out);(have hbr:=fun o=>HBl.out.cell o);(have hbc:=fun o=>HBc.out.cell o);go_wp2_with (refine qAc rfl 64 (.tmp 7) rfl wr.heap.size 64 _ _ (by exact rfl) (by exact HBc.out) Tryz.underlying64 rfl (by exact qLi) ?_);refine (HEx.out _ HX3.out (HAt.out.ext HXc.out)).mono ?_;rintro en w4 ⟨rfl,hx4⟩;clear hbr hbc c0 c1 c2 c3 c4 c5 c6;have HX4:=gH (HX3.out.trans hx4);have HX4r:=gH (HXc.out.trans hx4);have HB4:=gH (HBl.out.ext hx4);have HC4:=gH (HBc.out.ext hx4);clear hx4;(have hb4:=fun o=>HB4.out.cell o);(have hc4:=fun o=>HC4.out.cell o)
    by_cases he:x.err d.regs=0
    case neg =>
     (have hne:(x.err d.regs != 0)=true:=by simpa using he);have HRe:=gH (HRet.out _ (E1.out _ he) he);clear he;go_wp2_with fail;go_ret;exact ⟨qAa HRe.out.symm,HX4.out⟩
    rw [he];have HEr:=gH he;clear he E1;obtain ⟨nm,Dm,hown,hnm,hmap,hhas,hatk⟩:=HM.out.ext HX4r.out;have HOw:=gH hown;have HOm:=gH hmap;have HHs:=gH hhas;have HAk:=gH hatk;(have hnl:nm<maxLen:=by have:=HTl.out;simp [maxLen];omega);have HNm:=gH hnm;have hhas2:=hhas x.id HIw.out;clear hown hmap hhas hatk
    by_cases hi2:d.last<x.id
    · have HRe:=gH (HRet.out _ (E2.out _ HEr.out hi2) (by decide))
      clear hhas2;go_wp2_with (at_lookup;refine wpList_lookup_own_ok_int _ rfl _ _ 133 rfl 2 3 .i64 qIn Tryz.underlying133 Tryz.underlying3 (qDd _) w2.heap.size nm Dm rfl (by exact HOw.out) _ _ rfl (by exact HKey.out) ?_;intro c0 hat hwc;have HAt0:=gH hat;clear hat hwc);go_ret;exact ⟨qAa HRe.out.symm,HX4.out⟩
    have HLa:=gH hi2;clear E2
    by_cases hk0:k=0
    case pos =>
     subst hk0;(have HPn:Hid (¬ ((d.evs.take 0).getLast?.map fun p=>qEl p x)=some false):=by show ¬ _;simp);have hfs:(qBu (d.evs.take 0) x.id).isSome=false:=rfl;rw [hfs] at hhas2;go_wp2_with (at_lookup;refine wpList_lookup_own_ok_int _ rfl _ _ 133 rfl 2 3 .i64 qIn Tryz.underlying133 Tryz.underlying3 (qDd _) w2.heap.size nm Dm rfl (by exact HOw.out) _ _ rfl (by exact HKey.out) ?_;intro c0 hat hwc;have HAt0:=gH hat;clear hat hwc);go_quiet (fail);go_wp2_with (at_mapUpdate;refine wpList_mapUpdate_in _ rfl _ _ _ 133 rfl 2 3 qIn Tryz.underlying133 (plainElem Tryz.prog 3) w2.heap.size nm Dm rfl (by exact own_mext HOw.out ((Ext.refl _).drewN _)) hnl _ _ (.int .i64 x.id) rfl rfl (by exact HKey.out) (.lit (.int .i64 (0:Int))) [] (plainElem_int Tryz.underlying3 (IW.wf ⟨by omega,by omega⟩)) ?_;intro w10 hown1 hturn1);exact ⟨⟨1,by omega,by go_num,qMr hturn1 (hx.trans (HX4r.out.drewN _)) (Nat.le_refl _),by rw [HTk.out];exact MapE.put (w:=w) HNm.out HOm.out HHs.out HAk.out HIw.out (by rfl) (by rw [HTl.out];exact hown1),HS.out.2 (E5.out _ HEr.out (by have:=HLa.out;omega) HPn.out (by rfl))⟩,by simp [intOf];omega⟩
    obtain ⟨b',off',p,A2,n2,c2,hA,hC2,hq⟩:=HPv.out (by omega)
    cases hA
    (have hki:(0:Int)<(k:Int):=by omega);(have hkp:0<k:=by omega);(have hk1:((k:Int)-1).toNat=k-1:=by omega);(have hk2:(k:Int)-1=((k-1:Nat):Int):=by omega);(have HCp:Hid (∀ j u,(p.cells A2 n2 c2).toList[j]?=some u→w4.cell? ⟨b,off+(k-1)*7+j,none⟩=some u):=fun j u hu=>HX4r.out.cell (hC2 j u hu));have HQ:=gH hq;have HLess:=gH (fun w'=>Less_any p x A2 n2 c2 A' n' c' w');clear hC2 hq
    cases hle:qEl p x
    case false =>
     rw [hle] at HLess;have HRe:=gH (HRet.out _ (E3.out _ HEr.out (by have:=HLa.out;omega) (by rw [HQ.out];simp [hle])) (by decide));clear hhas2;go_wp2_with (at_lookup;refine wpList_lookup_own_ok_int _ rfl _ _ 133 rfl 2 3 .i64 qIn Tryz.underlying133 Tryz.underlying3 (qDd _) w2.heap.size nm Dm rfl (by exact HOw.out) _ _ rfl (by exact HKey.out) ?_;intro c0 hat hwc;have HAt0:=gH hat;clear hat hwc)
     refine qAt [.int .i64 (k:Int),.bool true,.bool true,.pointer (some ⟨w.heap.size,6,none⟩),.slice (some ⟨b,off,none⟩) n hec,.int .i64 (k:Int),.int .i64 ((k-1:Nat):Int),.pointer (some ⟨b,off+(k-1)*7,none⟩),.agg #[.int .i64 p.id,.int .i64 p.inn,.int .i64 p.out,.string p.region,.int .u8 p.kind,.string p.speaker,.slice A2 n2 c2],.agg #[.int .i64 x.id,.int .i64 x.inn,.int .i64 x.out,.string x.region,.int .u8 x.kind,.string x.speaker,.slice A' n' c'],.bool false,.bool true,.bool true,.bool true] [(56,.int .i64 (k:Int)),(57,.bool true),(58,.bool true),(59,.pointer (some ⟨w.heap.size,6,none⟩)),(60,.slice (some ⟨b,off,none⟩) n hec),(61,.int .i64 (k:Int)),(62,.int .i64 ((k-1:Nat):Int)),(63,.pointer (some ⟨b,off+(k-1)*7,none⟩)),(64,.agg #[.int .i64 p.id,.int .i64 p.inn,.int .i64 p.out,.string p.region,.int .u8 p.kind,.string p.speaker,.slice A2 n2 c2]),(65,.agg #[.int .i64 x.id,.int .i64 x.inn,.int .i64 x.out,.string x.region,.int .u8 x.kind,.string x.speaker,.slice A' n' c']),(66,.bool false),(67,.bool true),(68,.bool true),(55,.bool true)] (by kernel_rfl) (by kernel_rfl) (by kernel_rfl) rfl rfl ?_ ?_
     · intro i o ho a w' K' hx hn hd hk
       match i,ho with
       | 0,ho =>
        simp only [gA,gB,gC,gD] at ho;subst ho;refine qAd rfl ?_;exact qAv _ _ rfl ((hn 6 rfl).trans (show _=Value.int .i64 (k:Int) from rfl)) (hk _ rfl w' (Ext.refl _))
       | 1,ho =>
        simp only [gA,gB,gC,gD] at ho;subst ho;refine qAd rfl ?_;exact qCh rfl (qAb (hd 0 56 (.int .i64 (k:Int)) rfl rfl rfl)) rfl (by first | (go_simp;done) | (go_simp;simp;omega) | (simp;omega)) (hk _ rfl w' (Ext.refl _))
       | 2,ho =>
        simp only [gA,gB,gC,gD] at ho;subst ho;refine qAd rfl ?_;exact qAv _ _ rfl (qAb (hd 1 57 (.bool true) rfl rfl rfl)) (hk _ rfl w' (Ext.refl _))
       | 3,ho =>
        simp only [gA,gB,gC,gD] at ho;subst ho;refine qAe rfl rfl (hd 2 58 (.bool true) rfl rfl rfl) rfl ?_;have ex1:=((hn 1 rfl).trans (show _=Value.pointer (some ⟨w.heap.size,0,none⟩) from rfl));simp only [Act.eval] at ex1;have HK:=gH (hk (.pointer (some ⟨w.heap.size,6,none⟩)) rfl w' (Ext.refl _));clear hx hn hd hk;go_simp;exact HK.out
       | 4,ho =>
        simp only [gA,gB,gC,gD] at ho;subst ho;refine qAe rfl rfl (hd 2 58 (.bool true) rfl rfl rfl) rfl ?_;have ex59:=(qAb (hd 3 59 (.pointer (some ⟨w.heap.size,6,none⟩)) rfl rfl rfl));have hcl:w'.cell? ⟨w.heap.size,6,none⟩=some (.slice (some ⟨b,off,none⟩) n hec):=(HB4.out.ext hx).cell 6;simp only [Act.eval] at ex59;have HK:=gH (hk (.slice (some ⟨b,off,none⟩) n hec) rfl w' (Ext.refl _));clear hx hn hd hk;go_simp;exact HK.out
       | 5,ho =>
        simp only [gA,gB,gC,gD] at ho;subst ho;refine qAe rfl rfl (hd 2 58 (.bool true) rfl rfl rfl) rfl ?_;exact qAv _ _ rfl ((hn 6 rfl).trans (show _=Value.int .i64 (k:Int) from rfl)) (hk _ rfl w' (Ext.refl _))
       | 6,ho =>
        simp only [gA,gB,gC,gD] at ho;subst ho;refine qAe rfl rfl (hd 2 58 (.bool true) rfl rfl rfl) rfl ?_;exact qCh rfl (qAb (hd 5 61 (.int .i64 (k:Int)) rfl rfl rfl)) rfl (by first | (go_simp;done) | (go_simp;rw [qCq (by omega) (by omega)];done) | (go_simp;exact qCq (by omega) (by omega))) (hk _ rfl w' (Ext.refl _))
       | 7,ho =>
        simp only [gA,gB,gC,gD] at ho;subst ho;refine qAe rfl rfl (hd 2 58 (.bool true) rfl rfl rfl) rfl ?_;exact qJa rfl (qAb (hd 4 60 (.slice (some ⟨b,off,none⟩) n hec) rfl rfl rfl)) (qAb (hd 6 62 (.int .i64 ((k-1:Nat):Int)) rfl rfl rfl)) (by omega) (hk _ rfl w' (Ext.refl _))
       | 8,ho =>
        simp only [gA,gB,gC,gD] at ho;subst ho;refine qAe rfl rfl (hd 2 58 (.bool true) rfl rfl rfl) rfl ?_;exact qHk rfl b _ p A2 n2 c2 (qAb (hd 7 63 (.pointer (some ⟨b,off+(k-1)*7,none⟩)) rfl rfl rfl)) (fun j u hu=>hx.cell (HCp.out j u hu)) (hk _ rfl w' (Ext.refl _))
       | 9,ho =>
        simp only [gA,gB,gC,gD] at ho;subst ho;refine qAe rfl rfl (hd 2 58 (.bool true) rfl rfl rfl) rfl ?_;exact qCd 64 (.tmp 7) rfl _ 64 _ _ ((hn 7 rfl).trans (show _=Value.pointer (some ⟨wr.heap.size,0,none⟩) from rfl)) (HC4.out.ext hx) Tryz.underlying64 rfl (by exact qLi) (hk _ rfl w' (Ext.refl _))
       | 10,ho =>
        simp only [gA,gB,gC,gD] at ho;subst ho;refine qAe rfl rfl (hd 2 58 (.bool true) rfl rfl rfl) rfl ?_;exact qDc rfl (qAb (hd 8 64 (.agg #[.int .i64 p.id,.int .i64 p.inn,.int .i64 p.out,.string p.region,.int .u8 p.kind,.string p.speaker,.slice A2 n2 c2]) rfl rfl rfl)) (qAb (hd 9 65 (.agg #[.int .i64 x.id,.int .i64 x.inn,.int .i64 x.out,.string x.region,.int .u8 x.kind,.string x.speaker,.slice A' n' c']) rfl rfl rfl)) Tryz.call72 ((HLess.out w')) (hk _ rfl)
       | 11,ho =>
        simp only [gA,gB,gC,gD] at ho;subst ho;refine qAe rfl rfl (hd 2 58 (.bool true) rfl rfl rfl) rfl ?_;exact wp_un rfl (qAb (hd 10 66 (.bool false) rfl rfl rfl)) (by first | (go_simp;done) | (go_simp;simp)) (hk _ rfl w' (Ext.refl _))
       | 12,ho =>
        simp only [gA,gB,gC,gD] at ho;subst ho;refine qAd rfl ?_;exact qDg _ _ _ true _ rfl (qAb (hd 2 58 (.bool true) rfl rfl rfl)) (by exact (qAb (hd 11 67 (.bool true) rfl rfl rfl))) (hk _ rfl w' (Ext.refl _))
       | 13,ho =>
        simp only [gA,gB,gC,gD] at ho;subst ho;refine qAd rfl ?_;exact qCi _ _ rfl (qAb (hd 12 68 (.bool true) rfl rfl rfl)) (hk _ rfl w' (Ext.refl _))
       | i+14,ho=>simp at ho
     intro w9 hx9;simp only [Act.put,List.foldl_cons,List.foldl_nil,List.setIfInBounds_toArray,List.set_cons_zero,List.set_cons_succ];go_wp2_with fail;go_ret;exact ⟨qAa HRe.out.symm,HX4.out.trans hx9⟩
    (have HPn:Hid (¬ ((d.evs.take k).getLast?.map fun p=>qEl p x)=some false):=by show ¬ _;rw [HQ.out];simp [hle]);rw [hle] at HLess
    cases hfs:(qBu (d.evs.take k) x.id).isSome
    case true =>
     have HRe:=gH (HRet.out _ (E4.out _ HEr.out (by have:=HLa.out;omega) HPn.out hfs) (by decide));rw [hfs] at hhas2;clear hfs;go_wp2_with (at_lookup;refine wpList_lookup_own_ok_int _ rfl _ _ 133 rfl 2 3 .i64 qIn Tryz.underlying133 Tryz.underlying3 (qDd _) w2.heap.size nm Dm rfl (by exact HOw.out) _ _ rfl (by exact HKey.out) ?_;intro c0 hat hwc;have HAt0:=gH hat;clear hat hwc)
     refine qAt [.int .i64 (k:Int),.bool true,.bool true,.pointer (some ⟨w.heap.size,6,none⟩),.slice (some ⟨b,off,none⟩) n hec,.int .i64 (k:Int),.int .i64 ((k-1:Nat):Int),.pointer (some ⟨b,off+(k-1)*7,none⟩),.agg #[.int .i64 p.id,.int .i64 p.inn,.int .i64 p.out,.string p.region,.int .u8 p.kind,.string p.speaker,.slice A2 n2 c2],.agg #[.int .i64 x.id,.int .i64 x.inn,.int .i64 x.out,.string x.region,.int .u8 x.kind,.string x.speaker,.slice A' n' c'],.bool true,.bool false,.bool false,.bool false] [(56,.int .i64 (k:Int)),(57,.bool true),(58,.bool true),(59,.pointer (some ⟨w.heap.size,6,none⟩)),(60,.slice (some ⟨b,off,none⟩) n hec),(61,.int .i64 (k:Int)),(62,.int .i64 ((k-1:Nat):Int)),(63,.pointer (some ⟨b,off+(k-1)*7,none⟩)),(64,.agg #[.int .i64 p.id,.int .i64 p.inn,.int .i64 p.out,.string p.region,.int .u8 p.kind,.string p.speaker,.slice A2 n2 c2]),(65,.agg #[.int .i64 x.id,.int .i64 x.inn,.int .i64 x.out,.string x.region,.int .u8 x.kind,.string x.speaker,.slice A' n' c']),(66,.bool true),(67,.bool false),(68,.bool false),(55,.bool false)] (by kernel_rfl) (by kernel_rfl) (by kernel_rfl) rfl rfl ?_ ?_
     · intro i o ho a w' K' hx hn hd hk
       match i,ho with
       | 0,ho =>
        simp only [gA,gB,gC,gD] at ho;subst ho;refine qAd rfl ?_;exact qAv _ _ rfl ((hn 6 rfl).trans (show _=Value.int .i64 (k:Int) from rfl)) (hk _ rfl w' (Ext.refl _))
       | 1,ho =>
        simp only [gA,gB,gC,gD] at ho;subst ho;refine qAd rfl ?_;exact qCh rfl (qAb (hd 0 56 (.int .i64 (k:Int)) rfl rfl rfl)) rfl (by first | (go_simp;done) | (go_simp;simp;omega) | (simp;omega)) (hk _ rfl w' (Ext.refl _))
       | 2,ho =>
        simp only [gA,gB,gC,gD] at ho;subst ho;refine qAd rfl ?_;exact qAv _ _ rfl (qAb (hd 1 57 (.bool true) rfl rfl rfl)) (hk _ rfl w' (Ext.refl _))
       | 3,ho =>
        simp only [gA,gB,gC,gD] at ho;subst ho;refine qAe rfl rfl (hd 2 58 (.bool true) rfl rfl rfl) rfl ?_;have ex1:=((hn 1 rfl).trans (show _=Value.pointer (some ⟨w.heap.size,0,none⟩) from rfl));simp only [Act.eval] at ex1;have HK:=gH (hk (.pointer (some ⟨w.heap.size,6,none⟩)) rfl w' (Ext.refl _));clear hx hn hd hk;go_simp;exact HK.out
       | 4,ho =>
        simp only [gA,gB,gC,gD] at ho;subst ho;refine qAe rfl rfl (hd 2 58 (.bool true) rfl rfl rfl) rfl ?_;have ex59:=(qAb (hd 3 59 (.pointer (some ⟨w.heap.size,6,none⟩)) rfl rfl rfl));have hcl:w'.cell? ⟨w.heap.size,6,none⟩=some (.slice (some ⟨b,off,none⟩) n hec):=(HB4.out.ext hx).cell 6;simp only [Act.eval] at ex59;have HK:=gH (hk (.slice (some ⟨b,off,none⟩) n hec) rfl w' (Ext.refl _));clear hx hn hd hk;go_simp;exact HK.out
       | 5,ho =>
        simp only [gA,gB,gC,gD] at ho;subst ho;refine qAe rfl rfl (hd 2 58 (.bool true) rfl rfl rfl) rfl ?_;exact qAv _ _ rfl ((hn 6 rfl).trans (show _=Value.int .i64 (k:Int) from rfl)) (hk _ rfl w' (Ext.refl _))
       | 6,ho =>
        simp only [gA,gB,gC,gD] at ho;subst ho;refine qAe rfl rfl (hd 2 58 (.bool true) rfl rfl rfl) rfl ?_;exact qCh rfl (qAb (hd 5 61 (.int .i64 (k:Int)) rfl rfl rfl)) rfl (by first | (go_simp;done) | (go_simp;rw [qCq (by omega) (by omega)];done) | (go_simp;exact qCq (by omega) (by omega))) (hk _ rfl w' (Ext.refl _))
       | 7,ho =>
        simp only [gA,gB,gC,gD] at ho;subst ho;refine qAe rfl rfl (hd 2 58 (.bool true) rfl rfl rfl) rfl ?_;exact qJa rfl (qAb (hd 4 60 (.slice (some ⟨b,off,none⟩) n hec) rfl rfl rfl)) (qAb (hd 6 62 (.int .i64 ((k-1:Nat):Int)) rfl rfl rfl)) (by omega) (hk _ rfl w' (Ext.refl _))
       | 8,ho =>
        simp only [gA,gB,gC,gD] at ho;subst ho;refine qAe rfl rfl (hd 2 58 (.bool true) rfl rfl rfl) rfl ?_;exact qHk rfl b _ p A2 n2 c2 (qAb (hd 7 63 (.pointer (some ⟨b,off+(k-1)*7,none⟩)) rfl rfl rfl)) (fun j u hu=>hx.cell (HCp.out j u hu)) (hk _ rfl w' (Ext.refl _))
       | 9,ho =>
        simp only [gA,gB,gC,gD] at ho;subst ho;refine qAe rfl rfl (hd 2 58 (.bool true) rfl rfl rfl) rfl ?_;exact qCd 64 (.tmp 7) rfl _ 64 _ _ ((hn 7 rfl).trans (show _=Value.pointer (some ⟨wr.heap.size,0,none⟩) from rfl)) (HC4.out.ext hx) Tryz.underlying64 rfl (by exact qLi) (hk _ rfl w' (Ext.refl _))
       | 10,ho =>
        simp only [gA,gB,gC,gD] at ho;subst ho;refine qAe rfl rfl (hd 2 58 (.bool true) rfl rfl rfl) rfl ?_;exact qDc rfl (qAb (hd 8 64 (.agg #[.int .i64 p.id,.int .i64 p.inn,.int .i64 p.out,.string p.region,.int .u8 p.kind,.string p.speaker,.slice A2 n2 c2]) rfl rfl rfl)) (qAb (hd 9 65 (.agg #[.int .i64 x.id,.int .i64 x.inn,.int .i64 x.out,.string x.region,.int .u8 x.kind,.string x.speaker,.slice A' n' c']) rfl rfl rfl)) Tryz.call72 ((HLess.out w')) (hk _ rfl)
       | 11,ho =>
        simp only [gA,gB,gC,gD] at ho;subst ho;refine qAe rfl rfl (hd 2 58 (.bool true) rfl rfl rfl) rfl ?_;exact wp_un rfl (qAb (hd 10 66 (.bool true) rfl rfl rfl)) (by first | (go_simp;done) | (go_simp;simp)) (hk _ rfl w' (Ext.refl _))
       | 12,ho =>
        simp only [gA,gB,gC,gD] at ho;subst ho;refine qAd rfl ?_;exact qDg _ _ _ true _ rfl (qAb (hd 2 58 (.bool true) rfl rfl rfl)) (by exact (qAb (hd 11 67 (.bool false) rfl rfl rfl))) (hk _ rfl w' (Ext.refl _))
       | 13,ho =>
        simp only [gA,gB,gC,gD] at ho;subst ho;refine qAd rfl ?_;exact qCi _ _ rfl (qAb (hd 12 68 (.bool false) rfl rfl rfl)) (hk _ rfl w' (Ext.refl _))
       | i+14,ho=>simp at ho
     intro w9 hx9;simp only [Act.put,List.foldl_cons,List.foldl_nil,List.setIfInBounds_toArray,List.set_cons_zero,List.set_cons_succ];go_wp2_with fail;go_ret;exact ⟨qAa HRe.out.symm,HX4.out.trans hx9⟩
    case false =>
     have HNo:=gH hfs;rw [hfs] at hhas2;clear hfs;go_wp2_with (at_lookup;refine wpList_lookup_own_ok_int _ rfl _ _ 133 rfl 2 3 .i64 qIn Tryz.underlying133 Tryz.underlying3 (qDd _) w2.heap.size nm Dm rfl (by exact HOw.out) _ _ rfl (by exact HKey.out) ?_;intro c0 hat hwc;have HAt0:=gH hat;clear hat hwc)
     refine qAt [.int .i64 (k:Int),.bool true,.bool true,.pointer (some ⟨w.heap.size,6,none⟩),.slice (some ⟨b,off,none⟩) n hec,.int .i64 (k:Int),.int .i64 ((k-1:Nat):Int),.pointer (some ⟨b,off+(k-1)*7,none⟩),.agg #[.int .i64 p.id,.int .i64 p.inn,.int .i64 p.out,.string p.region,.int .u8 p.kind,.string p.speaker,.slice A2 n2 c2],.agg #[.int .i64 x.id,.int .i64 x.inn,.int .i64 x.out,.string x.region,.int .u8 x.kind,.string x.speaker,.slice A' n' c'],.bool true,.bool false,.bool false,.bool false] [(56,.int .i64 (k:Int)),(57,.bool true),(58,.bool true),(59,.pointer (some ⟨w.heap.size,6,none⟩)),(60,.slice (some ⟨b,off,none⟩) n hec),(61,.int .i64 (k:Int)),(62,.int .i64 ((k-1:Nat):Int)),(63,.pointer (some ⟨b,off+(k-1)*7,none⟩)),(64,.agg #[.int .i64 p.id,.int .i64 p.inn,.int .i64 p.out,.string p.region,.int .u8 p.kind,.string p.speaker,.slice A2 n2 c2]),(65,.agg #[.int .i64 x.id,.int .i64 x.inn,.int .i64 x.out,.string x.region,.int .u8 x.kind,.string x.speaker,.slice A' n' c']),(66,.bool true),(67,.bool false),(68,.bool false),(55,.bool false)] (by kernel_rfl) (by kernel_rfl) (by kernel_rfl) rfl rfl ?_ ?_
     · intro i o ho a w' K' hx hn hd hk
       match i,ho with
       | 0,ho =>
        simp only [gA,gB,gC,gD] at ho;subst ho;refine qAd rfl ?_;exact qAv _ _ rfl ((hn 6 rfl).trans (show _=Value.int .i64 (k:Int) from rfl)) (hk _ rfl w' (Ext.refl _))
       | 1,ho =>
        simp only [gA,gB,gC,gD] at ho;subst ho;refine qAd rfl ?_;exact qCh rfl (qAb (hd 0 56 (.int .i64 (k:Int)) rfl rfl rfl)) rfl (by first | (go_simp;done) | (go_simp;simp;omega) | (simp;omega)) (hk _ rfl w' (Ext.refl _))
       | 2,ho =>
        simp only [gA,gB,gC,gD] at ho;subst ho;refine qAd rfl ?_;exact qAv _ _ rfl (qAb (hd 1 57 (.bool true) rfl rfl rfl)) (hk _ rfl w' (Ext.refl _))
       | 3,ho =>
        simp only [gA,gB,gC,gD] at ho;subst ho;refine qAe rfl rfl (hd 2 58 (.bool true) rfl rfl rfl) rfl ?_;have ex1:=((hn 1 rfl).trans (show _=Value.pointer (some ⟨w.heap.size,0,none⟩) from rfl));simp only [Act.eval] at ex1;have HK:=gH (hk (.pointer (some ⟨w.heap.size,6,none⟩)) rfl w' (Ext.refl _));clear hx hn hd hk;go_simp;exact HK.out
       | 4,ho =>
        simp only [gA,gB,gC,gD] at ho;subst ho;refine qAe rfl rfl (hd 2 58 (.bool true) rfl rfl rfl) rfl ?_;have ex59:=(qAb (hd 3 59 (.pointer (some ⟨w.heap.size,6,none⟩)) rfl rfl rfl));have hcl:w'.cell? ⟨w.heap.size,6,none⟩=some (.slice (some ⟨b,off,none⟩) n hec):=(HB4.out.ext hx).cell 6;simp only [Act.eval] at ex59;have HK:=gH (hk (.slice (some ⟨b,off,none⟩) n hec) rfl w' (Ext.refl _));clear hx hn hd hk;go_simp;exact HK.out
       | 5,ho =>
        simp only [gA,gB,gC,gD] at ho;subst ho;refine qAe rfl rfl (hd 2 58 (.bool true) rfl rfl rfl) rfl ?_;exact qAv _ _ rfl ((hn 6 rfl).trans (show _=Value.int .i64 (k:Int) from rfl)) (hk _ rfl w' (Ext.refl _))
       | 6,ho =>
        simp only [gA,gB,gC,gD] at ho;subst ho;refine qAe rfl rfl (hd 2 58 (.bool true) rfl rfl rfl) rfl ?_;exact qCh rfl (qAb (hd 5 61 (.int .i64 (k:Int)) rfl rfl rfl)) rfl (by first | (go_simp;done) | (go_simp;rw [qCq (by omega) (by omega)];done) | (go_simp;exact qCq (by omega) (by omega))) (hk _ rfl w' (Ext.refl _))
       | 7,ho =>
        simp only [gA,gB,gC,gD] at ho;subst ho;refine qAe rfl rfl (hd 2 58 (.bool true) rfl rfl rfl) rfl ?_;exact qJa rfl (qAb (hd 4 60 (.slice (some ⟨b,off,none⟩) n hec) rfl rfl rfl)) (qAb (hd 6 62 (.int .i64 ((k-1:Nat):Int)) rfl rfl rfl)) (by omega) (hk _ rfl w' (Ext.refl _))
       | 8,ho =>
        simp only [gA,gB,gC,gD] at ho;subst ho;refine qAe rfl rfl (hd 2 58 (.bool true) rfl rfl rfl) rfl ?_;exact qHk rfl b _ p A2 n2 c2 (qAb (hd 7 63 (.pointer (some ⟨b,off+(k-1)*7,none⟩)) rfl rfl rfl)) (fun j u hu=>hx.cell (HCp.out j u hu)) (hk _ rfl w' (Ext.refl _))
       | 9,ho =>
        simp only [gA,gB,gC,gD] at ho;subst ho;refine qAe rfl rfl (hd 2 58 (.bool true) rfl rfl rfl) rfl ?_;exact qCd 64 (.tmp 7) rfl _ 64 _ _ ((hn 7 rfl).trans (show _=Value.pointer (some ⟨wr.heap.size,0,none⟩) from rfl)) (HC4.out.ext hx) Tryz.underlying64 rfl (by exact qLi) (hk _ rfl w' (Ext.refl _))
       | 10,ho =>
        simp only [gA,gB,gC,gD] at ho;subst ho;refine qAe rfl rfl (hd 2 58 (.bool true) rfl rfl rfl) rfl ?_;exact qDc rfl (qAb (hd 8 64 (.agg #[.int .i64 p.id,.int .i64 p.inn,.int .i64 p.out,.string p.region,.int .u8 p.kind,.string p.speaker,.slice A2 n2 c2]) rfl rfl rfl)) (qAb (hd 9 65 (.agg #[.int .i64 x.id,.int .i64 x.inn,.int .i64 x.out,.string x.region,.int .u8 x.kind,.string x.speaker,.slice A' n' c']) rfl rfl rfl)) Tryz.call72 ((HLess.out w')) (hk _ rfl)
       | 11,ho =>
        simp only [gA,gB,gC,gD] at ho;subst ho;refine qAe rfl rfl (hd 2 58 (.bool true) rfl rfl rfl) rfl ?_;exact wp_un rfl (qAb (hd 10 66 (.bool true) rfl rfl rfl)) (by first | (go_simp;done) | (go_simp;simp)) (hk _ rfl w' (Ext.refl _))
       | 12,ho =>
        simp only [gA,gB,gC,gD] at ho;subst ho;refine qAd rfl ?_;exact qDg _ _ _ true _ rfl (qAb (hd 2 58 (.bool true) rfl rfl rfl)) (by exact (qAb (hd 11 67 (.bool false) rfl rfl rfl))) (hk _ rfl w' (Ext.refl _))
       | 13,ho =>
        simp only [gA,gB,gC,gD] at ho;subst ho;refine qAd rfl ?_;exact qCi _ _ rfl (qAb (hd 12 68 (.bool false) rfl rfl rfl)) (hk _ rfl w' (Ext.refl _))
       | i+14,ho=>simp at ho
     intro w9 hx9;simp only [Act.put,List.foldl_cons,List.foldl_nil,List.setIfInBounds_toArray,List.set_cons_zero,List.set_cons_succ];have HX9:=gH (HX4.out.trans hx9);have HX9r:=gH (HX4r.out.trans hx9);have HO9:=gH (own_mext HOw.out hx9);have HC9:=gH (HC4.out.ext hx9);clear hx9 hb4 hc4;(have hc9:=fun o=>HC9.out.cell o);go_wp2_with (at_mapUpdate;refine wpList_mapUpdate_in _ rfl _ _ _ 133 rfl 2 3 qIn Tryz.underlying133 (plainElem Tryz.prog 3) w2.heap.size nm Dm rfl (by exact HO9.out) hnl _ _ (.int .i64 x.id) rfl rfl (by exact HKey.out) (.lit (.int .i64 (k:Int))) [] (plainElem_int Tryz.underlying3 (IW.wf ⟨by omega,by omega⟩)) ?_;intro w10 hown1 hturn1);exact ⟨⟨k+1,by omega,by go_num,qMr hturn1 (hx.trans HX9r.out) (Nat.le_refl _),by rw [HTk.out];exact MapE.put (w:=w) HNm.out HOm.out HHs.out HAk.out HIw.out (by cases hz:qBu (d.evs.take k) x.id with | none=>rfl | some y=>rw [hz] at HNo;exact absurd HNo.out (by simp)) (by rw [HTl.out];exact hown1),HS.out.2 (E5.out _ HEr.out (by have:=HLa.out;omega) HPn.out HNo.out)⟩,by simp [intOf];omega⟩
  · have hkn:k=n:=by omega
    subst hkn;have htk:d.evs.take k=d.evs:=List.take_of_length_le (by have:=HEl.out;omega);rw [htk] at hM hP;have HZ:=gH (hP.trans (by rw [List.drop_eq_nil_of_le (by have:=HEl.out;omega)];rfl):qCe d.regs d.last [] d.evs=0);have HM:=gH hM;clear hP hM htk;go_wp2_with (refine qAc rfl 52 (.tmp 1) rfl w.heap.size 52 _ _ (by exact rfl) (by exact HBr.out) Tryz.underlying52 rfl (by exact qEa) ?_);refine (HCm.out _ _ HXr.out HM.out).mono ?_;rintro en w3 ⟨rfl,hx3⟩;go_wp2_with fail;go_ret;exact ⟨qAa (D5.out HH.out HR.out H4.out HZ.out).symm,HXr.out.trans hx3⟩
end
section
open Go.RowKit Go.ChangeShapes Go.WideShapes Go.ChangeAt
set_option maxRecDepth 100000
theorem qLe:Tryz.prog.cellsOf 152=8:=by kernel_rfl
theorem qJl:Tryz.prog.cellsOf 52=8:=by kernel_rfl
theorem bytes_comment:Tryz.prog.bytesOf 152=72:=by kernel_rfl
theorem bytes_event:Tryz.prog.bytesOf 64=88:=by kernel_rfl
theorem cells_rateD:Tryz.prog.cellsOf 22=1:=by kernel_rfl
theorem cells_regs:Tryz.prog.cellsOf 48=1:=by kernel_rfl
theorem cells_evts:Tryz.prog.cellsOf 49=1:=by kernel_rfl
theorem cells_coms:Tryz.prog.cellsOf 50=1:=by kernel_rfl
def Ev.Nums (e:Ev):Prop:=IW e.id∧IW e.inn∧IW e.out∧0≤e.kind∧e.kind≤255
theorem openK_event2 (W:World):qCa Tryz.prog W 64 (fun k cs (e:Ev)=>(∃ A n c,cs=(e.cells A n c).toList∧EvAt W e A n c)∧e.bulk+2≤k∧e.Nums):=by
 intro H enc fuel cs x h hw;obtain ⟨hl,ks,hks,hkl,hf⟩:=qCa.fields Tryz.underlying64 h hw;rw [qOo] at hl;obtain ⟨v0,v1,v2,v3,v4,v5,v6,rfl⟩:=list_7 hl;obtain ⟨k0,k1,k2,k3,k4,k5,rfl⟩:=list_6 (show ks.length=6 from hkl);obtain ⟨a0,h0,s0⟩:=hf 0 _ rfl (.of (qBr.int Tryz.underlying2));obtain ⟨⟨a1,a2⟩,h1,s1,s2⟩:=hf 1 _ rfl (.of (open_span W));obtain ⟨a3,h3,s3⟩:=hf 2 _ rfl (qCa.string Tryz.underlying9);obtain ⟨a4,h4,s4⟩:=hf 3 _ rfl (.of (qBr.int Tryz.underlying61));obtain ⟨a5,h5,s5⟩:=hf 4 _ rfl (qCa.string Tryz.underlying9)
 obtain ⟨rows,h6,hb6⟩:=hf 5 _ rfl (R:=fun k cs (r:List Row)=>(∃ A n c,cs=[.slice A n c]∧n≤c∧n*24≤140737488355328∧qFx W A n r)∧qIw r≤k) (fun H enc fuel cs x h hw=>by
  obtain ⟨A,n,c,l,rfl,hnc,_,hb,hs,hk⟩:=qCa.slice Tryz.underlying62 cells_row (by decide) bytes_row (openK_row W) h hw;(have hn:n*24≤140737488355328:=by simp only [reachBytes] at hb;omega);refine ⟨l.map (fun p:Row × Nat=>p.1),⟨A,n,c,rfl,hnc,hn,Sl.mapK (D:=RowC) hs fun b o p hm=>?_⟩,?_⟩
  · obtain ⟨cs,h1,⟨A',n',c',h2,h3⟩,_⟩:=hm
    subst h2;exact ⟨A',n',c',h1 0 _ rfl,h3⟩
  · have:=qOx (f:=qGf) (l:=l) (fun p hp=>hs.all (p:=fun p=>qGf p.1≤p.2) (fun b o q hm=>by obtain ⟨_,_,_,h3⟩:=hm;exact h3) p hp)
    unfold qIw
    omega)
 have n0:=bounds_i64 s0;have n4:=bounds_u8 s4;simp [qEw,qCz,qMq,cells_kind,cells_rows] at h0 h1 h3 h4 h5 h6 s3 s5 hb6 hks;obtain ⟨h1,h2⟩:=h1;obtain ⟨A,n,c,h6,hnc,hn,hr⟩:=h6;subst h0 h1 h2 h3 h4 h5 h6;exact ⟨⟨a0,a1,a2,a3,a4,a5,rows⟩,⟨A,n,c,rfl,hr,hnc,hn⟩,by unfold Ev.bulk;simp only;omega,n0,s1,s2,n4.1,n4.2⟩
def Com.Nums (c:Com):Prop:=IW c.id∧IW c.ev∧IW c.fr∧IW c.til
theorem openK_com (W:World):qCa Tryz.prog W 152 (fun k cs (c:Com)=>cs=c.vals∧c.author.size+c.text.size+2≤k∧c.Nums):=by
 intro H enc fuel cs x h hw;obtain ⟨hl,ks,hks,hkl,hf⟩:=qCa.fields Tryz.underlying152 h hw;rw [qLe] at hl;obtain ⟨v0,v1,v2,v3,v4,v5,v6,v7,rfl⟩:=list_8 hl;obtain ⟨k0,k1,k2,k3,k4,k5,k6,k7,rfl⟩:=list_8 (show ks.length=8 from hkl);obtain ⟨a0,h0,s0⟩:=hf 0 _ rfl (.of (qBr.int Tryz.underlying2));obtain ⟨a1,h1,s1⟩:=hf 1 _ rfl (.of (qBr.int Tryz.underlying2));obtain ⟨a2,h2,s2⟩:=hf 2 _ rfl (.of (qBr.int Tryz.underlying3));obtain ⟨a3,h3,s3⟩:=hf 3 _ rfl (.of (qBr.int Tryz.underlying3));obtain ⟨a4,h4,s4⟩:=hf 4 _ rfl (qCa.string Tryz.underlying9);obtain ⟨a5,h5,s5⟩:=hf 5 _ rfl (qCa.string Tryz.underlying9);obtain ⟨a6,h6⟩:=hf 6 _ rfl (.of (qBr.bool Tryz.underlying4));obtain ⟨a7,h7⟩:=hf 7 _ rfl (.of (qBr.bool Tryz.underlying4));have n0:=bounds_i64 s0;have n1:=bounds_i64 s1;have n2:=bounds_i64 s2;have n3:=bounds_i64 s3;simp [qEw,cells_int,qCz,qHe] at h0 h1 h2 h3 h4 h5 h6 h7 s4 s5 hks;subst h0 h1 h2 h3 h4 h5 h6 h7;exact ⟨⟨a0,a1,a2,a3,a4,a5,a6,a7⟩,rfl,by simp only;omega,n0,n1,n2,n3⟩
structure DocIn (d:Doc) (h:DocH):Prop where
 fit:DocFit d
 nums:∀ e∈d.evs,e.Nums
 cnums:∀ c∈d.coms,c.Nums
 last:IW d.last
 rn:h.rn≤9223372036854775807
 en:h.en≤1000000
 cn:h.cn≤1000000
 rc:h.rn≤h.rc∧h.rn*56≤140737488355328
 ec:h.en≤h.ec
 cc:h.cn≤h.cc
theorem sum_ge {α:Type} {n:Nat}:∀ {l:List (α × Nat)},(∀ p∈l,n≤p.2)→l.length*n≤(l.map (·.2)).sum
 | [],_=>by simp
 | p :: l,h=>by
  have h1:=h p (List.mem_cons_self ..);(have h2:=sum_ge (l:=l) fun q hq=>h q (List.mem_cons_of_mem _ hq));simp only [List.length_cons,List.map_cons,List.sum_cons,Nat.add_mul];omega
theorem mem_le {α:Type}:∀ {l:List (α × Nat)} {p:α × Nat},p∈l→p.2≤(l.map (·.2)).sum
 | [],_,h=>by cases h
 | q :: l,p,h=>by
  simp only [List.map_cons,List.sum_cons]
  cases List.mem_cons.1 h with
  | inl e=>subst e;omega
  | inr e=>have:=mem_le e;omega
theorem ev_small {e:Ev} (h:e.bulk≤1048576):EvSmall e∧e.bytes≤1099511627776:=by
 unfold Ev.bulk at h
 have hrow:∀ r∈e.rows,qGf r≤1048576:=fun r hr=>by
  have:=le_sum (f:=qGf) hr;unfold qIw at h;omega
 refine ⟨⟨by omega,by omega,fun r hr=>⟨?_,fun x hx=>?_⟩⟩,?_⟩
 · have h1:=hrow r hr
   have h2:=qPi r;omega
 · have h1:=hrow r hr
   have h2:=le_sum (f:=qMg) hx;unfold qGf at h1;have h3:qMg x=x.text.size+x.ruby.size:=rfl;omega
 · have key:∀ l:List Row,(l.map qAk).sum≤qIw l:=fun l=>by
    unfold qIw
    induction l with
    | nil=>simp
    | cons y l ih=>have:=qPi y;simp only [List.map_cons,List.sum_cons];omega
   have:=key e.rows;unfold Ev.bytes;omega
end
section
open Go.RowKit
def qCo (n d:Int):Bool:=decide (-2147483648≤n∧n≤2147483648∧1≤d∧d≤2147483648)
def qEn (n d:Int):Bool:=qCo n d && decide (Int.gcd n d=1)
theorem qHq {n d:Int} (h:qCo n d=true):-2147483648≤n∧n≤2147483648∧1≤d∧d≤2147483648:=of_decide_eq_true h
set_option maxHeartbeats 1000000 in
theorem inParts_any (n d:Int) (w:World):Calls Tryz.prog 208 #[.int .i64 n,.int .i64 d] w fun e w'=>e = .returned (.bool (qCo n d))∧w=w':=by
 by_cases h1:-2147483648≤n
 · by_cases h2:n≤2147483648
   · by_cases h3:1≤d
     · by_cases h4:d≤2147483648
       · go_enter Tryz.func208,Tryz.ntmps208
         go_wp2;go_ret;exact ⟨qAg (by unfold qCo;rw [decide_eq_true ⟨h1,h2,h3,h4⟩]),rfl⟩
       · go_enter Tryz.func208,Tryz.ntmps208
         go_wp2;go_ret;exact ⟨qAg (by unfold qCo;rw [decide_eq_false (by omega)]),rfl⟩
     · go_enter Tryz.func208,Tryz.ntmps208
       go_wp2;go_ret;exact ⟨qAg (by unfold qCo;rw [decide_eq_false (by omega)]),rfl⟩
   · go_enter Tryz.func208,Tryz.ntmps208
     go_wp2;go_ret;exact ⟨qAg (by unfold qCo;rw [decide_eq_false (by omega)]),rfl⟩
 · go_enter Tryz.func208,Tryz.ntmps208
   go_wp2;go_ret;exact ⟨qAg (by unfold qCo;rw [decide_eq_false (by omega)]),rfl⟩
def GcdRel (a b:Int) (w:World) (x y:Value) (wr:World):Prop :=
 ∃ p q:Int,x = .int .i64 p∧y = .int .i64 q∧0≤p∧p≤2147483648∧0≤q∧q≤2147483648∧Int.gcd p q=Int.gcd a b∧Ext w wr
theorem gcd_step (p q:Int) (hp:0≤p) (hq:0<q):Int.gcd q (p % q)=Int.gcd p q:=by
 obtain ⟨a,rfl⟩:=Int.eq_ofNat_of_zero_le hp;obtain ⟨b,rfl⟩:=Int.eq_ofNat_of_zero_le (Int.le_of_lt hq);rw [← Int.natCast_emod,Int.gcd_natCast_natCast,Int.gcd_natCast_natCast,Nat.gcd_comm a b,Nat.gcd_comm b (a % b),← Nat.gcd_rec]
theorem emod_small (p q:Int) (hp:0≤p) (hq:0<q):0≤p % q∧p % q<q:=by
 exact ⟨Int.emod_nonneg _ (by omega),Int.emod_lt_of_pos _ hq⟩
theorem gcd_zero' (p:Int) (hp:0≤p):((Int.gcd p 0:Nat):Int)=p:=by simp;omega
theorem gcd_abs1 (n:Int) (d:Int):Int.gcd (max n (-n)) (max d (-d))=Int.gcd n d:=by
 (have e1:max n (-n)=n∨max n (-n) = -n:=by omega);(have e2:max d (-d)=d∨max d (-d) = -d:=by omega)
 rcases e1 with e1 | e1<;>rcases e2 with e2 | e2<;>rw [e1,e2]<;>simp
set_option maxHeartbeats 2000000 in
theorem Gcd_any (n d:Int) (w:World) (h:qCo n d=true):Calls Tryz.prog 209 #[.int .i64 n,.int .i64 d] w fun e w'=>e = .returned (.int .i64 (Int.gcd n d))∧Ext w w':=by
 obtain ⟨h1,h2,h3,h4⟩:=qHq h;clear h;(have hn:(n == -9223372036854775808)=false:=by simp;omega);(have hd:(d == -9223372036854775808)=false:=by simp;omega);have hA:=gH (gcd_abs1 n d);go_enter Tryz.func209,Tryz.ntmps209;go_wp2
 go_loopw [5,6] (fun x y wr=>GcdRel n d w x y wr) (fun _ y _=>(intOf y).toNat)
 case atStart=>exact ⟨_,_,rfl,rfl,by omega,by omega,by omega,by omega,hA.out,Ext.refl w⟩
 case round =>
  obtain ⟨p,q,rfl,rfl,hp0,hp1,hq0,hq1,hg,hx⟩:=hrel;have HG:=gH hg;clear hg
  by_cases hq:q=0
  · subst hq
    go_wp2;go_ret;exact ⟨qAa (by rw [← HG.out,gcd_zero' p hp0]),hx⟩
  · have hqp:0<q:=by omega
    have hm:=emod_small p q hp0 hqp;have hs:=gH (gcd_step p q hp0 hqp);(have hq':(q == 0)=false:=by simp;omega);go_wp2;go_quiet (fail);go_wp2;refine ⟨⟨_,_,rfl,rfl,by omega,by omega,by omega,by omega,by rw [hs.out,HG.out],hx.drewN _⟩,by simp [intOf];omega⟩
theorem RSize_any (n:Int) (w:World) (h1:-2147483648≤n):Calls Tryz.prog 255 #[.int .i64 n] w fun e w'=>e = .returned (.int .i64 (max n (-n)))∧w=w':=by
 by_cases h:n<0
 · go_enter Tryz.func255,Tryz.ntmps255
   go_wp2;go_ret;exact ⟨qAa (by omega),rfl⟩
 · go_enter Tryz.func255,Tryz.ntmps255
   go_wp2;go_ret;exact ⟨qAa (by omega),rfl⟩
end
section
open Go.RowKit
theorem gcd_is1 (n d:Int):(((Int.gcd n d:Nat):Int) == 1)=decide (Int.gcd n d=1):=by
 by_cases h:Int.gcd n d=1
 · rw [h];rfl
 · rw [decide_eq_false h]
   simp;omega
set_option maxHeartbeats 1000000 in
theorem qNf (n d:Int) (w:World):Calls Tryz.prog 150 #[.agg #[.int .i64 n,.int .i64 d]] w fun e w'=>e = .returned (.bool (qEn n d))∧Ext w w':=by
 have HX:=gH ((Ext.refl w).alloc (.cells #[.int .i64 n,.int .i64 d] 89));have HG:=gH (gcd_is1 n d)
 cases hp:qCo n d
 · have HP:=gH hp
   (have HF:Hid (qEn n d=false):=by show _=_;unfold qEn;rw [hp];rfl);clear hp;go_enter Tryz.func150,Tryz.ntmps150;go_wp2_with fail;refine (inParts_any n d _).mono ?_;rintro e w1 ⟨rfl,rfl⟩;rw [HP.out];go_wp2_with fail;go_ret;exact ⟨qAg HF.out.symm,HX.out⟩
 · have HP:=gH hp
   (have HF:Hid (qEn n d=decide (Int.gcd n d=1)):=by show _=_;unfold qEn;rw [hp];rfl);clear hp;go_enter Tryz.func150,Tryz.ntmps150;go_wp2_with fail;refine (inParts_any n d _).mono ?_;rintro e w1 ⟨rfl,rfl⟩;rw [HP.out];go_wp2_with fail;refine (Gcd_any n d _ HP.out).mono ?_;rintro e w2 ⟨rfl,hx2⟩;go_wp2_with fail;go_ret;exact ⟨qAg (by rw [HF.out,← HG.out]),HX.out.trans hx2⟩
set_option maxHeartbeats 2000000 in
theorem RGcd_any (n d:Int) (w:World) (h:qCo n d=true):Calls Tryz.prog 212 #[.int .i64 n,.int .i64 d] w fun e w'=>e = .returned (.int .i64 (Int.gcd n d))∧Ext w w':=by
 obtain ⟨h1,h2,h3,h4⟩:=qHq h;clear h;(have hn:(n == -9223372036854775808)=false:=by simp;omega);(have hd:(d == -9223372036854775808)=false:=by simp;omega);have hA:=gH (gcd_abs1 n d);go_enter Tryz.func212,Tryz.ntmps212;go_wp2_with fail;refine (RSize_any n _ h1).mono ?_;rintro e w1 ⟨rfl,rfl⟩;go_wp2_with fail;refine (RSize_any d _ (by omega)).mono ?_;rintro e w1 ⟨rfl,rfl⟩;go_wp2_with fail
 go_loopw [0,1] (fun x y wr=>GcdRel n d w x y wr) (fun _ y _=>(intOf y).toNat)
 case atStart=>exact ⟨_,_,rfl,rfl,by omega,by omega,by omega,by omega,hA.out,Ext.refl w⟩
 case round =>
  obtain ⟨p,q,rfl,rfl,hp0,hp1,hq0,hq1,hg,hx⟩:=hrel;have HG:=gH hg;clear hg
  by_cases hq:q=0
  · subst hq
    go_wp2;go_ret;exact ⟨qAa (by rw [← HG.out,gcd_zero' p hp0]),hx⟩
  · have hqp:0<q:=by omega
    have hm:=emod_small p q hp0 hqp;have hs:=gH (gcd_step p q hp0 hqp);(have hq':(q == 0)=false:=by simp;omega);go_wp2;go_quiet (fail);go_wp2;refine ⟨⟨_,_,rfl,rfl,by omega,by omega,by omega,by omega,by rw [hs.out,HG.out],hx.drewN _⟩,by simp [intOf];omega⟩
set_option maxHeartbeats 2000000 in
theorem qKr (n d:Int) (w:World):Calls Tryz.prog 159 #[.agg #[.int .i64 n,.int .i64 d]] w fun e w'=>e = .returned (.bool (qEn n d))∧Ext w w':=by
 have HX:=gH ((Ext.refl w).alloc (.cells #[.int .i64 n,.int .i64 d] 89));have HG:=gH (gcd_is1 n d);(have HP:Hid (∀ b,qCo n d=b→qEn n d=(b && decide (Int.gcd n d=1))):=fun b hb=>by unfold qEn;rw [hb])
 by_cases h3:1≤d
 · by_cases h4:d≤2147483648
   · by_cases h1:-2147483648≤n
     · by_cases h2:n≤2147483648
       · have HI:Hid (qCo n d=true):=decide_eq_true ⟨h1,h2,h3,h4⟩
         go_enter Tryz.func159,Tryz.ntmps159;go_wp2_with fail;refine (RGcd_any n d _ HI.out).mono ?_;rintro e w2 ⟨rfl,hx2⟩;go_wp2_with fail;go_ret;exact ⟨qAg (by rw [HP.out true HI.out,← HG.out];rfl),HX.out.trans hx2⟩
       · have HI:Hid (qCo n d=false):=decide_eq_false (by omega)
         go_enter Tryz.func159,Tryz.ntmps159;go_wp2_with fail;go_ret;exact ⟨qAg (by rw [HP.out false HI.out];rfl),HX.out⟩
     · have HI:Hid (qCo n d=false):=decide_eq_false (by omega)
       go_enter Tryz.func159,Tryz.ntmps159;go_wp2_with fail;go_ret;exact ⟨qAg (by rw [HP.out false HI.out];rfl),HX.out⟩
   · have HI:Hid (qCo n d=false):=decide_eq_false (by omega)
     go_enter Tryz.func159,Tryz.ntmps159;go_wp2_with fail;go_ret;exact ⟨qAg (by rw [HP.out false HI.out];rfl),HX.out⟩
 · have HI:Hid (qCo n d=false):=decide_eq_false (by omega)
   go_enter Tryz.func159,Tryz.ntmps159;go_wp2_with fail;go_ret;exact ⟨qAg (by rw [HP.out false HI.out];rfl),HX.out⟩
end
end Go.Proofs.YtablhmobekmflaaGreatDoor