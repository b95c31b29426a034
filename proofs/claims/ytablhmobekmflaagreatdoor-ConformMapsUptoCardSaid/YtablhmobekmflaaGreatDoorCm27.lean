/- Texts laid together. -/
import Derived.Test.YtablhmobekmflaaGreatDoorCm24
import Derived.Test.YtablhmobekmflaaGreatDoorCm22
import Derived.Test.YtablhmobekmflaaGreatDoorCm17
import Derived.Test.YtablhmobekmflaaGreatDoorCm25
import Derived.Test.YtablhmobekmflaaGreatDoorCm26
import Derived.Test.YtablhmobekmflaaGreatDoorCm23
set_option linter.unusedVariables false
set_option linter.unusedSimpArgs false
set_option maxRecDepth 100000
namespace Go.Proofs.YtablhmobekmflaaGreatDoor
section
open Go.RowKit Go.Maps
def qFv (docs:List RDoc) (e:Edl) (least:Int) (w:World) (en:Ending) (w':World):Prop :=
 ∃ (h:DocH) (F:Option Addr) (fc:Nat),en = .returned (.tuple #[.agg ((qLt docs e least).cells h),.slice F (qCx docs e least).length fc,.int .i64 (conE docs e least)]) ∧
  qHy w' (qLt docs e least) h∧DocSz h∧qGi w' F (qCx docs e least).length (qCx docs e least)∧Ext w w'
theorem qOa {docs:List RDoc} {e:Edl} {least x:Int} {w w':World} (he:conE docs e least=x) (h0:x≠0) (hx:Ext w w'):qFv docs e least w (.returned (.tuple #[.agg qAu,.slice none 0 0,.int .i64 x])) w':=by
 (have hd:qLt docs e least=Doc.blank:=by unfold qLt;rw [he,if_neg h0]);(have hf:qCx docs e least=[]:=by unfold qCx;rw [he,if_neg h0]);unfold qFv;rw [hd,hf,he];exact ⟨⟨none,0,0,none,0,0,none,0,0⟩,none,0,rfl,⟨Sl.nil,Sl.nil,Sl.nil⟩,⟨by simp,by simp,by simp⟩,Sl.nil,hx⟩
theorem conPost_ok {docs:List RDoc} {e:Edl} {least:Int} {w w':World} {sE:qCv} {mR:List Reg} {lg:ByteArray} {ARg AE AF:Option Addr} {cRg cE cF:Nat} (h0:conE docs e least=0) (hs:sE=qId docs e least) (hR:refR (allR docs)=some mR) (hlg:lg=qJs docs)
 (hd:qDs w' ARg mR.length mR) (hE:qKw w' AE sE.evs.length sE.evs) (hF:qGi w' AF sE.fats.length sE.fats) (h16:mR.length≤16) (h400:sE.evs.length≤400) (hx:Ext w w') :
 qFv docs e least w (.returned (.tuple #[.agg #[.string e.title,.string lg,.int .u8 e.rate,.bool e.drop,.int .i64 sE.evs.length,.slice ARg mR.length cRg,.slice AE sE.evs.length cE,.slice none 0 0],.slice AF sE.fats.length cF,.int .i64 0])) w':=by
 (have hd1:qLt docs e least=⟨e.title,lg,e.rate,e.drop,sE.evs.length,mR,sE.evs,[]⟩:=by unfold qLt;rw [if_pos h0,hR,hs,hlg];rfl);(have hf1:qCx docs e least=sE.fats:=by unfold qCx;rw [if_pos h0,hs]);unfold qFv;rw [hd1,hf1,h0];exact ⟨⟨ARg,mR.length,cRg,AE,sE.evs.length,cE,none,0,0⟩,AF,cF,rfl,⟨hd,hE,Sl.nil⟩,⟨by dsimp only;omega,by dsimp only;omega,by simp⟩,hF,hx⟩
theorem ev_span {e:Ev} {regs:List Reg} (h:e.err regs=0):0≤e.inn∧e.inn<e.out∧e.out≤5184000:=by
 have:=(ev_ok h).2.2;unfold qFh at this;simp at this;omega
theorem plE_ok {e:Edl} (h:qAn e=0) (s:ByteArray):qGh (plE e s)∧InT (plE e s)∧(plE e s).length≤64:=by
 (have hp:plE e s=qDf (plC e.cuts s):=by unfold plE;rw [if_pos h]);have hk:=qNz (plC e.cuts s);have hl:=plC_len e.cuts s e.cuts.length;rw [List.take_length] at hl;have h64:=(qEm h).2.2.2.1;rw [hp];refine ⟨hk.1,fun x hx=>?_,by omega⟩
 exact hk.2.2.2 0 maxT (fun y hy=>by
  unfold plC at hy;obtain ⟨c,hc,rfl⟩:=List.mem_map.1 hy
  exact pl_sane (qFl h (List.mem_filter.1 hc).1)) x hx
structure qNq (w:World) (B:Nat) (docs:List RDoc) (e:Edl) (lc:Array Value) (F:List Fat) (k:Nat) (v:Value) (wr:World):Prop where
 ext:Ext w wr
 fats:∀ L2,qBa wr w.heap.size L2 v F
 map:MapS wr B docs k
 list:Blk wr w.heap.size 28 lc
 doc:Blk wr (w.heap.size+1) 52 qAu
theorem qNq.step {w wr w2:World} {B k:Nat} {docs:List RDoc} {e:Edl} {lc:Array Value} {F:List Fat} {v:Value} (h:qNq w B docs e lc F k v wr) (q:Ext wr w2):qNq w B docs e lc F k v w2 :=
 ⟨h.ext.trans q,fun L2=>(h.fats L2).ext q,h.map.ext q,h.list.ext q,h.doc.ext q⟩
theorem qNq.grown {w wr w5 w2:World} {B k:Nat} {docs:List RDoc} {e:Edl} {lc:Array Value} {F:List Fat} {v v':Value} {r:ByteArray} {id lost:Int} {xs:List Value} (h:qNq w B docs e lc F k v wr) (h1:wr.ownsRow w.heap.size 67 5 v F.length xs) (q:Ext wr w5) (g:w5.grownBy w2 v.ownBlock)
 (hO:w2.ownsRow w.heap.size 67 5 v' (F.length+1) (xs++[.string r,.int .i64 id,.slice none 0 0,.int .i64 lost,.slice none 0 0])):qNq w B docs e lc (F++[⟨r,id,[],lost,[]⟩]) k v' w2:=by
 have hv:∀ b,v.ownBlock=some b→qBf w5 67 b:=qAj (qAh h1 q);have ho:=Only.grown g hv;exact ⟨Ext.grown (h.ext.trans q) g (fun b hb=>qAp h1 b hb),fun L2=>(h.fats L2).app h1 q g hO,(h.map.ext q).km ho.km,(h.list.ext q).only ho (by decide),(h.doc.ext q).only ho (by decide)⟩
theorem qNq.turned {w wr w2:World} {B k:Nat} {docs:List RDoc} {e:Edl} {lc:Array Value} {F:List Fat} {v:Value} (h:qNq w B docs e lc F k v wr) (hB:w.heap.size≤B) (t:wr.mapTurned w2 B) (hm:MapS w2 B docs (k+1)):qNq w B docs e lc F (k+1) v w2 :=
 ⟨qMr t h.ext hB,fun L2=>(h.fats L2).kb (KB.turned t) (KB.turned t),hm,h.list.kb (KB.turned t),h.doc.kb (KB.turned t)⟩
def Cf1Rel (w:World) (B:Nat) (docs:List RDoc) (e:Edl) (lc:Array Value) (n:Nat) (v i:Value) (wr:World):Prop:=∃ k:Nat,k≤n∧i = .int .i64 k∧qNq w B docs e lc (qBx e (docs.take k)) k v wr
def Cf2Rel (w:World) (B:Nat) (docs:List RDoc) (e:Edl) (lc:Array Value) (P l:List Fat) (k m:Nat) (r:Option Nat) (w1:World) (gx:Nat) (xc:Array Value) (v i:Value) (wr:World):Prop :=
 ∃ j:Nat,j≤m∧i = .int .i64 j∧qNq w B docs e lc (P++l.take j) k v wr∧Blk wr gx 58 xc∧Keep (fun q=>r=some q) w1 wr∧(∀ q,v.ownBlock=some q→r=some q∨w1.heap.size≤q)
set_option maxHeartbeats 40000000 in
theorem qOd (docs:List RDoc) (A:Option Addr) (n c:Nat) (e:Edl) (B:Option Addr) (m d:Nat) (least:Int) (w:World) (hE:Env w) (hl:qCw w A n docs) (he:qBd w B m e.cuts) (hm:m≤1000000) (hok:qJr e) (hn:n≤1000000) (hf:qJb docs) :
 Calls Tryz.prog 26 #[.slice A n c,.agg (e.cells B m d),.int .i64 least] w (qFv docs e least w):=by
 have HL:=gH hl;have HLn:=gH hl.len;have HFit:=gH hf;have HX:=gH (((Ext.refl w).alloc (.cells (e.cells B m d) 28)).alloc (.cells qAu 52));have HB:=gH ((Blk.new w 28 (e.cells B m d)).alloc (.cells qAu 52));have HZ:=gH (Blk.new' (w:=w.alloc (.cells (e.cells B m d) 28)) (g:=w.heap.size+1) (t:=52) (cs:=qAu) (by simp));have HCk:=gH (fun w' (hx:Ext w w')=>ConCheck_any docs A n c e B m d w' (hE.ext hx) (hl.ext hx) (he.ext hx) hm hok hn hf);have HPl:=gH (fun s w' (hx:Ext w w')=>EPlayed_any e B m d s w' (hE.ext hx) (he.ext hx) hm hok);have HJn:=gH (fun w' (hx:Ext w w')=>JoinF_any e B m d w' (hE.ext hx) (he.ext hx) hm hok);have HLg:=gH (fun w' (hx:Ext w w')=>Lang_any A n c docs w' (hl.ext hx) hn);have HRg:=gH (fun w' (hx:Ext w w') (h16:n≤16) (hr:∀ d∈docs,d.doc.regs.length≤16)=>Regions_any A n c docs w' (hl.ext hx) h16 hr);have HIx:=gH (fun w' g c' (hx:Ext w w') (hB:Blk w' g 91 c'.cells)=>IndexDoc_any A n c docs g c' w' (hl.ext hx) hn hB);have HCE:Hid (conE docs e least=if qCj docs e≠0 then qCj docs e else if least<0 then 2 else if 400<(qId docs e least).evs.length then 9 else 0):=rfl;clear hl he hok hE hf;unfold Edl.cells at *
 have END:∀ (w9:World) (x:Int),Ext w w9→Blk w9 (w.heap.size+1) 52 qAu→conE docs e least=x→x≠0→∀ (tmps:Array Value),tmps.getD 6 undef = .pointer (some ⟨w.heap.size+1,0,none⟩)→tmps.getD 7 undef = .slice none 0 0→tmps.getD 8 undef = .int .i64 x →
  (results Tryz.f26 tmps).run Tryz.prog (putB w9 (w.heap.size+1) 52 qAu) = .ok (.tuple #[.agg qAu,.slice none 0 0,.int .i64 x]) (putB w9 (w.heap.size+1) 52 qAu) ∧
   qFv docs e least w (.returned (.tuple #[.agg qAu,.slice none 0 0,.int .i64 x])) (putB w9 (w.heap.size+1) 52 qAu):=fun w9 x hx hz he h0 tmps h6 h7 h8=>by
  refine ⟨?_,qOa he h0 (hx.put (by omega) _ _)⟩;have:=qGt (P:=Tryz.prog) Tryz.results26 (tmps:=tmps) (w:=putB w9 (w.heap.size+1) 52 qAu) (g:=w.heap.size+1) h6 (hz.put _) Tryz.underlying52 rfl qBh;rw [this,h7,h8]
 have HEnd:=gH END;clear END;unfold qAu at HX HB HZ;go_enter Tryz.func26,Tryz.ntmps26;go_wp2_with (refine qAc rfl 28 (.tmp 4) rfl w.heap.size 28 _ _ (by exact rfl) (by exact HB.out) Tryz.underlying28 rfl (by exact qBy) ?_);refine (HCk.out _ HX.out).mono ?_;rintro en w1 ⟨rfl,hx1⟩;have HX1:=gH (HX.out.trans hx1);have HB1:=gH (HB.out.ext hx1);have HZ1:=gH (HZ.out.ext hx1);clear hx1 HX HB HZ HCk
 by_cases h0:qCj docs e=0
 case neg =>
  (have hne:(qCj docs e != 0)=true:=by simpa using h0);have HH:=gH h0;have HR:=gH (HCE.out.trans (if_pos h0));clear h0;go_wp2_with (refine qAi rfl 52 (.tmp 6) _ rfl (w.heap.size+1) 52 _ _ (by exact rfl) (by exact rfl) (by exact HZ1.out) (by exact rfl) (by exact qBh) (by simp [Value.oneCell']) ?_);exact (fun q=>bodyPost_ret q.1 rfl q.2) (HEnd.out _ _ HX1.out HZ1.out HR.out HH.out _ (by exact rfl) (by exact rfl) (by exact rfl))
 rw [h0];have HH:=gH h0;have HC2:=gH (HCE.out.trans (if_neg (by simpa using h0)));clear h0 HCE
 by_cases hle:least<0
 · have g1:decide (least<0)=true:=decide_eq_true hle
   have HR:=gH (HC2.out.trans (if_pos hle));clear hle;go_wp2_with (refine qAi rfl 52 (.tmp 6) _ rfl (w.heap.size+1) 52 _ _ (by exact rfl) (by exact rfl) (by exact HZ1.out) (by exact rfl) (by exact qBh) (by simp [Value.oneCell']) ?_);exact (fun q=>bodyPost_ret q.1 rfl q.2) (HEnd.out _ _ HX1.out HZ1.out HR.out (by decide) _ (by exact rfl) (by exact rfl) (by exact rfl))
 have g1:decide (least<0)=false:=decide_eq_false hle;have HC3:=gH (HC2.out.trans (if_neg hle));clear hle HC2;obtain ⟨k1,k2,k3,mR,k4,k5⟩:=conErr_ok HH.out;(have hn16:n≤16:=by have:=HLn.out;omega);(have HDe:Hid (∀ x∈docs,qBm x.reel=true∧x.doc.err=0):=fun x hx=>⟨(qIr k3 x hx).1,(qIr k3 x hx).2.1⟩);have HRl:=gH (rd_reels k3).2;have HE0:=gH k1;have HRf:=gH k4;(have HK5:Hid (mR.length≤16):=by show _≤_;omega);have HPo:=gH (fun s=>plE_ok k1 s);clear k1 k2 k3 k4 k5;have hmm:=@run_makeMap Tryz.prog;have HXm:=gH (HX1.out.alloc (.map #[] 0));have HRel0:Hid (qNq w w1.heap.size docs e #[.string e.title,.int .u8 e.rate,.bool e.drop,.slice B m d] [] 0 (.slice none 0 0) (w1.alloc (.map #[] 0))):=⟨HXm.out,fun L2=>qBa.nil _ _ _,MapS.made w1 docs,HB1.out.alloc _,HZ1.out.alloc _⟩;have hwB:=HX1.out.size;go_wp2_with fail;clear hmm g1
 go_loopw [10,42] (fun v i wr=>Cf1Rel w w1.heap.size docs e #[.string e.title,.int .u8 e.rate,.bool e.drop,.slice B m d] n v i wr) (fun _ i _=>n-(intOf i).toNat)
 case atStart=>exact ⟨0,Nat.zero_le _,rfl,by simpa [qBx] using HRel0.out⟩
 case round =>
  obtain ⟨k,hk,rfl,hR⟩:=hrel;have HR:=gH hR;clear hR
  by_cases hlt:k<n
  · obtain ⟨b,off,x,h,rfl,hxk,hat,hsz,c0,c1,c2,c3,c4,c5,c6,c7,c8⟩:=HL.out.at9 hlt
    replace c0:=HR.out.ext.cell c0;replace c1:=HR.out.ext.cell c1;replace c2:=HR.out.ext.cell c2;replace c3:=HR.out.ext.cell c3;replace c4:=HR.out.ext.cell c4;replace c5:=HR.out.ext.cell c5;replace c6:=HR.out.ext.cell c6;replace c7:=HR.out.ext.cell c7;replace c8:=HR.out.ext.cell c8;obtain ⟨ra,rn,rc,ea,em,ec,ca,cn,cc⟩:=h;have hmem:=List.mem_of_getElem? hxk;obtain ⟨hnm,hde⟩:=HDe.out x hmem;(have hs16:x.reel.size≤16:=by unfold qBm at hnm;simp at hnm;exact hnm.1.1.2);have HKey:=gH (qPa hs16);have HXk:=gH hxk;have HEv:=gH hat.evs;have HS16:=gH hs16;have hel:=hat.evs.len;have HOk:=gH (qEp hde);(have hem:em≤400:=by have:=HOk.out.2.2.1;have:=hel;dsimp only at *;omega);dsimp only at HEv;have HFs:Hid (qBx e (docs.take (k+1))=qBx e (docs.take k)++qFj e x):=fats_take hxk;have HFl:=gH (qNu e docs k);have hoff:=qMv (docs:=docs) (q:=400) (fun d hd=>(qEp (HDe.out d hd).2).2.2.1) k;have HBd:=gH (Blk.new wr 58 (x.cells ⟨ra,rn,rc,ea,em,ec,ca,cn,cc⟩));have HR1:=gH (HR.out.step ((Ext.refl wr).alloc (.cells (x.cells ⟨ra,rn,rc,ea,em,ec,ca,cn,cc⟩) 58)));unfold RDoc.cells at HBd HR1;dsimp only at HBd HR1;clear hxk hat hsz hmem hnm hde hs16;obtain ⟨P,hP⟩:∃ P,P=qBx e (docs.take k):=⟨_,rfl⟩;rw [← hP] at HR1 HFs HFl;clear hP;obtain ⟨Af,cf,hv10,hcf,-,-⟩:=(HR1.out.fats 0).read;subst hv10;(have hPl:P.length≤6400:=by rw [HFl.out];omega);clear hcf hoff;go_upto_region 11 with fail
    obtain ⟨gx,hgx⟩:∃ gx,gx=wr.heap.size:=⟨_,rfl⟩;obtain ⟨w2,hw2⟩:∃ w2,w2=wr.alloc (.cells #[.string x.reel,.string x.doc.title,.string x.doc.lang,.int .u8 x.doc.rate,.bool x.doc.drop,.int .i64 x.doc.last,.slice ra rn rc,.slice ea em ec,.slice ca cn cc] 58):=⟨_,rfl⟩;rw [← hgx] at HBd;rw [← hw2] at HBd HR1 ⊢;rw [← hgx];clear hw2 hgx c0 c1 c2 c3 c4 c5 c6 c7 c8 HR;have b0:=HBd.out.cell 0;simp only [gA,gB,gC] at b0;obtain ⟨nm,Dm,hown,hnm,hmap,hatk⟩:=HR1.out.map;have HOw:=gH hown;have HNm:=gH hnm;have HOm:=gH hmap;have HAk:=gH hatk;(have hnl:nm<maxLen:=by unfold maxLen;omega);clear hown hnm hmap hatk;go_upto_region 12 with (at_mapUpdate;refine wpList_mapUpdate_in _ rfl _ _ _ 108 rfl 9 3 keyStr Tryz.underlying108 (plainElem Tryz.prog 3) w1.heap.size nm Dm rfl (by exact HOw.out) hnl _ _ (.string x.reel.data.toList) rfl rfl (by exact HKey.out) (.lit (.int .i64 (P.length:Int))) [] (plainElem_int Tryz.underlying3 (IW.wf ⟨by omega,by omega⟩)) ?_;intro w3 hown1 hturn1)
    have hne:∀ (j:Nat) (y:RDoc),j<k→docs[j]?=some y→y.reel≠x.reel:=fun j y hj hy he=>by
     obtain ⟨a1,a2⟩:=List.getElem?_eq_some_iff.1 hy;obtain ⟨b1,b2⟩:=List.getElem?_eq_some_iff.1 HXk.out;have h1:=List.pairwise_iff_getElem.1 HRl.out j k a1 b1 hj;rw [a2,b2,he] at h1;exact Bs.lt_irrefl _ h1
    have HR3:=gH (HR1.out.turned hwB hturn1 (MapS.put HNm.out HOm.out HAk.out HXk.out HS16.out hne (by rw [← HFl.out];exact hown1)));have HB3:=gH (HBd.out.kb (KB.turned hturn1));have b0':=HB3.out.cell 0;simp only [gA,gB,gC] at b0';clear hne hown1 hturn1 HOw HNm HOm HAk hnl b0 HR1 HBd HKey;go_wp2_with (refine qAc rfl 28 (.tmp 4) rfl w.heap.size 28 _ _ (by exact rfl) (by exact HR3.out.list) Tryz.underlying28 rfl (by exact qBy) ?_);refine (HPl.out x.reel _ HR3.out.ext).mono ?_;rintro en4 w4 ⟨Ap,cp,rfl,hsl,-,hx4,hfp⟩;rw [HE0.out];have HR4:=gH (HR3.out.step hx4);have HB4:=gH (HB3.out.ext hx4);have HPk:=gH (HPo.out x.reel);have hzp:=HPk.out.2.2
    have HNr:Hid (∀ ad,Ap=some ad→¬ (Value.slice Af P.length cf).ownBlock=some ad.block):=fun ad had hr=>by
     obtain ⟨xs,hxs⟩:=(HR3.out.fats 0).xs;have h1:=(qAj hxs _ hr).lt;have h2:=hfp ad had;omega
    obtain ⟨pl,hpl⟩:∃ pl,pl=plE e x.reel:=⟨_,rfl⟩;rw [← hpl] at hsl HPk hzp ⊢;have HSl:=gH hsl;have HPe:=gH hpl;obtain ⟨zp,hz⟩:∃ zp,zp=pl.length:=⟨_,rfl⟩;rw [← hz] at HSl hzp ⊢;clear hsl hfp hx4 b0' HR3 HB3 hpl hz;have b7:=HB4.out.cell 7;simp only [gA,gB,gC] at b7;go_wp2_with fail;clear b7
    go_loopw [10,62] (fun v i wq=>Cf2Rel w w1.heap.size docs e #[.string e.title,.int .u8 e.rate,.bool e.drop,.slice B m d] P (qFj e x) (k+1) em (Value.slice Af P.length cf).ownBlock w4 gx #[.string x.reel,.string x.doc.title,.string x.doc.lang,.int .u8 x.doc.rate,.bool x.doc.drop,.int .i64 x.doc.last,.slice ra rn rc,.slice ea em ec,.slice ca cn cc] v i wq) (fun _ i _=>em-(intOf i).toNat)
    case atStart=>exact ⟨0,Nat.zero_le _,rfl,by rw [List.take_zero,List.append_nil];exact HR4.out,HB4.out,Keep.refl _,fun q hq=>.inl hq⟩
    case round =>
     obtain ⟨j,hj,rfl,hR,hBx,hK,hV⟩:=hrel;have HRq:=gH hR;have HBq:=gH hBx;have HKq:=gH hK;have HVq:=gH hV;clear hR hBx hK hV
     by_cases hjt:j<em
     · obtain ⟨b2,off2,y,A',n',c',rfl,hyk,-,d0,d1,d2,d3,d4,d5,d6⟩:=HEv.out.at_ev hjt
       replace d0:=HRq.out.ext.cell d0;replace d1:=HRq.out.ext.cell d1;replace d2:=HRq.out.ext.cell d2;replace d3:=HRq.out.ext.cell d3;replace d4:=HRq.out.ext.cell d4;replace d5:=HRq.out.ext.cell d5;replace d6:=HRq.out.ext.cell d6;have hys:=ev_span ((evs_v HOk.out.2.2.2.1).each y (List.mem_of_getElem? hyk)).1;(have HT:Hid (P++(qFj e x).take (j+1)=(P++(qFj e x).take j)++[⟨x.reel,y.id,[],qKl ⟨y.inn,y.out⟩ pl,[]⟩]):=by show _=_;rw [fatsD_take hyk,List.append_assoc,HPe.out])
       have hPj:(P++(qFj e x).take j).length≤6400+400:=by
        have:=qLh e x;rw [List.length_append,List.length_take];omega
       clear hyk;have HBy:=gH (Blk.new wr 64 #[.int .i64 y.id,.int .i64 y.inn,.int .i64 y.out,.string y.region,.int .u8 y.kind,.string y.speaker,.slice A' n' c']);have HXy:=gH ((Ext.refl wr).alloc (.cells #[.int .i64 y.id,.int .i64 y.inn,.int .i64 y.out,.string y.region,.int .u8 y.kind,.string y.speaker,.slice A' n' c'] 64));obtain ⟨xs,hxs⟩:=(HRq.out.fats 0).xs;have HOs:=gH (qAh hxs HXy.out);have HOr:=gH hxs;have HSw:=gH (HKq.out.cells HSl.out HNr.out);have HLo:=gH (fun w' (hx:Ext wr w')=>Lost_any ⟨y.inn,y.out⟩ Ap zp cp pl w' (qBj.ext HSw.out hx) (by omega) hys.2.1 hys.1 (by unfold maxT;dsimp only;omega) HPk.out.1 HPk.out.2.1);have HBr:=gH (HBq.out.ext HXy.out);clear hxs hys;go_upto_region 16 with fail;generalize qKl ⟨y.inn,y.out⟩ pl=lv at *;obtain ⟨gy,hgy⟩:∃ gy,gy=wr.heap.size:=⟨_,rfl⟩;have hz2:=HXy.out.size;have hzw:=HRq.out.ext.size;obtain ⟨W2,hW2⟩:∃ W2,W2=wr.alloc (.cells #[.int .i64 y.id,.int .i64 y.inn,.int .i64 y.out,.string y.region,.int .u8 y.kind,.string y.speaker,.slice A' n' c'] 64):=⟨_,rfl⟩;rw [← hgy] at HBy;rw [← hW2] at HBy HXy HOs HBr hz2 ⊢;rw [← hgy];clear hW2 hgy d0 d1 d2 d3 d4 d5 d6;obtain ⟨os,hos⟩:∃ os,os=P++(qFj e x).take j:=⟨_,rfl⟩;rw [← hos] at HT hPj HOs HOr HRq;clear hos
       refine qAy [some 66,some 67,some 68,some 69,some 70,some 71,some 72,some 73,some 74,some 75,some 76,some 77,some 10] [[],[],[1],[],[3],[],[5],[],[6,7],[2,4,8],[9],[0,10,8],[11,11,0,1,2,3,4,5,6,7,8,9,10,11]] [8,10,11,12] [u10,.pointer (some ⟨gx,0,none⟩),.string x.reel,.pointer (some ⟨gy,0,none⟩),.int .i64 y.id,.pointer (some ⟨gy,1,none⟩),.agg #[.int .i64 y.inn,.int .i64 y.out],.slice Ap zp cp,undef,.agg #[.string x.reel,.int .i64 y.id,.slice none 0 0,.int .i64 lv,.slice none 0 0],undef,undef,undef] (PgJ 67 5 lv #[.string x.reel,.int .i64 y.id,.slice none 0 0,.int .i64 lv,.slice none 0 0] w.heap.size u10 os.length xs W2) (by kernel_rfl) (by kernel_rfl) (by kernel_rfl) (by kernel_rfl) (by kernel_rfl) (by kernel_rfl) (by kernel_rfl) (by decide) ?_ ?_ ?_ ?_
       · exact PgJ.start W2
       · intro i o ho hc a w' us K' hJ hF hlim hk
         match i,ho with
         | 0,ho =>
          simp only [gA,gB,gC,gD] at ho;subst ho;have e10:=hF.olds 3 12 10 (u10) rfl rfl (hlim 3 12 rfl rfl) rfl;simp only [Act.eval] at e10;clear hF hlim hJ;go_simp;exact hk
         | 1,ho =>
          simp only [gA,gB,gC,gD] at ho;subst ho;have e13:=hF.old 13 (.pointer (some ⟨gx,0,none⟩)) rfl rfl;simp only [Act.eval] at e13;clear hF hlim hJ;go_simp;exact hk
         | 2,ho =>
          simp only [gA,gB,gC,gD] at ho;subst ho;have e67:=hF.pure 1 67 (.pointer (some ⟨gx,0,none⟩)) rfl rfl rfl rfl;have hcl:=(HBr.out.only hJ.only (by decide)).cell 0;simp only [gA,gB,gC] at hcl;simp only [Act.eval] at e67;clear hF hlim hJ;go_simp;exact hk
         | 3,ho =>
          simp only [gA,gB,gC,gD] at ho;subst ho;have e17:=hF.old 17 (.pointer (some ⟨gy,0,none⟩)) rfl rfl;simp only [Act.eval] at e17;clear hF hlim hJ;go_simp;exact hk
         | 4,ho =>
          simp only [gA,gB,gC,gD] at ho;subst ho;have e69:=hF.pure 3 69 (.pointer (some ⟨gy,0,none⟩)) rfl rfl rfl rfl;have hcl:=(HBy.out.only hJ.only (by decide)).cell 0;simp only [gA,gB,gC] at hcl;simp only [Act.eval] at e69;clear hF hlim hJ;go_simp;exact hk
         | 5,ho =>
          simp only [gA,gB,gC,gD] at ho;subst ho;have e17:=hF.old 17 (.pointer (some ⟨gy,0,none⟩)) rfl rfl;simp only [Act.eval] at e17;clear hF hlim hJ;go_simp;exact hk
         | 6,ho =>
          simp only [gA,gB,gC,gD] at ho;subst ho;have e71:=hF.pure 5 71 (.pointer (some ⟨gy,1,none⟩)) rfl rfl rfl rfl;have hcl1:=(HBy.out.only hJ.only (by decide)).cell 1;simp only [gA,gB,gC] at hcl1;have hcl2:=(HBy.out.only hJ.only (by decide)).cell 2;simp only [gA,gB,gC] at hcl2;simp only [Act.eval] at e71;clear hF hlim hJ;go_simp;exact hk
         | 7,ho =>
          simp only [gA,gB,gC,gD] at ho;subst ho;have e14:=hF.old 14 (.slice Ap zp cp) rfl rfl;simp only [Act.eval] at e14;clear hF hlim hJ;go_simp;exact hk
         | 8,ho=>simp at hc
         | 9,ho =>
          simp only [gA,gB,gC,gD] at ho;subst ho;have e68:=hF.pure 2 68 (.string x.reel) rfl rfl rfl rfl;have e70:=hF.pure 4 70 (.int .i64 y.id) rfl rfl rfl rfl;obtain ⟨v74,hv74⟩:=qBq (hF.did 0 8 rfl rfl);have e74:=hF.link 0 8 74 _ rfl rfl rfl hv74;have hu:=hJ.val v74 hv74;subst hu;simp [Act.eval] at e68 e70 e74;clear hF hlim hJ;go_simp;exact hk
         | 10,ho | 11,ho | 12,ho=>simp at hc
         | i+13,ho=>simp at ho
       · intro p c' o hp ho a w' us K' hl hJ hF hk
         match p,hp with
         | 0,hp =>
          (obtain rfl:8=c':=by simpa using hp);simp only [gA,gB,gC,gD] at ho;subst ho;obtain rfl:us=[]:=List.eq_nil_of_length_eq_zero hl;have e72:=hF.pure 6 72 (.agg #[.int .i64 y.inn,.int .i64 y.out]) rfl rfl rfl rfl;have e73:=hF.pure 7 73 (.slice Ap zp cp) rfl rfl rfl rfl;exact qDc rfl e72 e73 Tryz.call53 (HLo.out _ (HXy.out.trans hJ.st)) (fun w5 hx5=>hk _ w5 (hJ.call hx5))
         | 1,hp =>
          (obtain rfl:10=c':=by simpa using hp);simp only [gA,gB,gC,gD] at ho;subst ho;obtain ⟨u0,rfl⟩:=qEq hl;have e75:=hF.pure 9 75 (.agg #[.string x.reel,.int .i64 y.id,.slice none 0 0,.int .i64 lv,.slice none 0 0]) rfl rfl rfl rfl;have HK:=gH (hk (.slice (some ⟨w'.heap.size,0,none⟩) 1 1) (w'.alloc (.cells #[.string x.reel,.int .i64 y.id,.slice none 0 0,.int .i64 lv,.slice none 0 0] 67)) hJ.build);simp [Act.eval] at e75;clear hk hF hJ;go_simp;exact HK.out
         | 2,hp =>
          (obtain rfl:11=c':=by simpa using hp);simp only [gA,gB,gC,gD] at ho;subst ho;obtain ⟨u0,u1,rfl⟩:=qEo hl;obtain ⟨⟨g8,rfl,hB8⟩,hx8⟩:=hJ.st;have e66:=hF.pure 0 66 (u10) rfl rfl rfl rfl;have e76:=hF.link 1 10 76 _ rfl rfl rfl rfl;exact qJo (.tmp 66) (.tmp 76) 53 rfl info_fate Tryz.underlying53 rfl (by decide) (qAh HOs.out hx8) e66 g8 _ e76 hB8 rfl (by simp [Value.oneCell']) (by omega) (by simp [maxLen];omega) (by have:=hx8.size;omega) (fun v' w9 ho9 hg9 hl9=>hk v' w9 (hJ.app (qAj (qAh HOs.out hx8)) hg9 hl9 ho9))
         | 3,hp =>
          (obtain rfl:12=c':=by simpa using hp);simp only [gA,gB,gC,gD] at ho;subst ho;obtain ⟨u0,u1,u2,rfl⟩:=qHg hl;have e77:=hF.link 2 11 77 _ rfl rfl rfl rfl;exact qCi _ _ rfl e77 (hk _ _ hJ.asg)
         | p+4,hp=>simp at hp
       intro us w5 hl hJ;obtain ⟨uu0,uu1,uu2,uu3,rfl⟩:=qLr hl
       first | (rename_i hK;refine hK _ _ ?_;clear hK) | (rename_i hK hK_1;refine hK _ _ ?_;clear hK) | (rename_i hK hK_1 hK_2;refine hK _ _ ?_;clear hK) | (rename_i hK hK_1 hK_2 hK_3;refine hK _ _ ?_;clear hK)
       generalize hL:qDx _ _ _ _=L;obtain rfl:L=[(66,u10),(67,.pointer (some ⟨gx,0,none⟩)),(68,.string x.reel),(69,.pointer (some ⟨gy,0,none⟩)),(70,.int .i64 y.id),(71,.pointer (some ⟨gy,1,none⟩)),(72,.agg #[.int .i64 y.inn,.int .i64 y.out]),(73,.slice Ap zp cp),(74,uu0),(75,.agg #[.string x.reel,.int .i64 y.id,.slice none 0 0,.int .i64 lv,.slice none 0 0]),(76,uu1),(77,uu2),(10,uu3)]:=hL.symm.trans (by kernel_rfl);clear hL hl;simp only [Act.put,List.foldl_cons,List.foldl_nil,List.setIfInBounds_toArray,List.set_cons_zero,List.set_cons_succ];obtain ⟨rfl,w6,hx6,hg6,hl6,ho6⟩:=hJ.st;have HR6:=gH (HRq.out.grown HOr.out (HXy.out.trans hx6) hg6 ho6);have HB6:=gH ((HBr.out.ext hx6).only (Only.grown hg6 (qAj (qAh HOs.out hx6))) (by decide));have HK6:=gH (((HKq.out.ext HXy.out).ext hx6).grown hg6 HVq.out)
       have HV6:Hid (∀ q,uu3.ownBlock=some q→(Value.slice Af P.length cf).ownBlock=some q∨w4.heap.size≤q):=fun q hq=>by
        rcases hl6 with h | h
        · rw [h] at hq;exact HVq.out q hq
        · rw [h] at hq
          cases hq
          have h1:=HKq.out.size;have h2:=hx6.size;exact .inr (by omega)
       clear hJ hx6 hg6 hl6 ho6;go_wp2_with fail;exact ⟨⟨j+1,by omega,by go_num,by rw [HT.out];exact HR6.out,HB6.out,HK6.out,HV6.out⟩,by simp [intOf];omega⟩
     · have hjm:j=em:=by omega
       subst hjm;(have HT:Hid (P++(qFj e x).take j=qBx e (docs.take (k+1))):=by show _=_;rw [HFs.out,List.take_of_length_le (by rw [qLh];first | omega | (dsimp only at hel;omega))]);rw [HT.out] at HRq;clear hel;go_wp2_with fail;exact ⟨⟨k+1,by omega,by go_num,HRq.out⟩,by simp [intOf];omega⟩
  · have hkn:k=n:=by omega
    subst hkn;(have HFa:Hid (qBx e (docs.take k)=qBx e docs):=by show _=_;rw [List.take_of_length_le (by have:=HLn.out;omega)]);rw [HFa.out] at HR;obtain ⟨AF,cF,hvF,-,-,-⟩:=(HR.out.fats 0).read;obtain ⟨nF,hnF⟩:∃ nF,nF=(qBx e docs).length:=⟨_,rfl⟩;rw [← hnF] at hvF;subst hvF;have HNF:=gH hnF;clear hnF;have HMp0:=gH HR.out.map;have HZ0:=gH HR.out.doc
    have HRgs:Hid (∀ w' (_:Ext w w'),Calls Tryz.prog 49 #[.slice A k c] w' fun en w2=>∃ v,en = .returned v∧w2.ownsRow w'.heap.size 105 7 v mR.length (mR.flatMap Reg.vals)∧Ext w' w2):=fun w' hx=>by
     refine (HRg.out w' hx hn16 (fun d hd=>qEu (qEp (HDe.out d hd).2).2.1)).mono ?_;rintro en w2 ⟨v,m',rfl,hp,hs,ho,hx2⟩
     have hm':m'=mR:=by
      rcases regs_same hp hs with ⟨-,h⟩ | ⟨-,h,-⟩
      · rw [HRf.out] at h;cases h
      · rw [HRf.out] at h;exact (Option.some.inj h).symm
     subst hm';exact ⟨v,rfl,ho,hx2⟩
    have HJ2:Hid (∀ w' (_:Ext w w'),Calls Tryz.prog 55 #[.agg #[.string e.title,.int .u8 e.rate,.bool e.drop,.slice B m d]] w' fun en w2=>∃ A' n' c',en = .returned (.tuple #[.agg #[.string e.title,.int .u8 e.rate,.bool e.drop,.slice A' n' c'],.int .i64 0])∧qBd w2 A' n' (qAx e.cuts)∧n'≤c'∧Ext w' w2∧∀ ad,A'=some ad→w'.heap.size≤ad.block):=fun w' hx=>by
     refine (HJn.out w' hx).mono ?_;rintro en w2 ⟨A',n',c',rfl,h1,h2,h3,h4⟩;rw [qIv HE0.out] at h1 ⊢;rw [HE0.out];exact ⟨A',n',c',rfl,h1,h2,h3,h4⟩
    have HLg2:=gH (HLg.out);have HX0:=gH HR.out.ext;clear hwB;go_upto_region 19 with fail;obtain ⟨lg,hlg⟩:∃ lg,lg=qJs docs:=⟨_,rfl⟩;rw [← hlg] at HLg2;have HLgE:=gH hlg;clear hlg HLg HRg;refine qFe [some 80,some 81,some 82,some 83,some 84,some 85,some 86,some 87,some 88,some 89,some 90,some 18,none] [[],[0],[],[2],[],[4],[],[6],[],[8,3],[1,3,5,7,9],[],[11,10,9,0,1,2,3,4,5,6,7,8,9,10,11]] [3,9,10,12] [11] [.pointer (some ⟨w.heap.size,0,none⟩),.string e.title,.slice A k c,undef,.pointer (some ⟨w.heap.size,1,none⟩),.int .u8 e.rate,.pointer (some ⟨w.heap.size,2,none⟩),.bool e.drop,.slice A k c,undef,undef,undef,undef] (fun _=>.cells qAu 52) (OdJ 11 lg (fun v=>qBc e lg 0 v (.slice none 0 0)) mR.length (mR.flatMap Reg.vals) wr) (by kernel_rfl) (by kernel_rfl) (by kernel_rfl) (by kernel_rfl) (by kernel_rfl) (by kernel_rfl) (by kernel_rfl) (by decide) (by kernel_rfl) ?_ ?_ ?_ ?_ ?_ ?_
    · exact OdJ.start wr
    · intro i o ho ha a w' K' hk
      match i,ho with
      | 0,ho | 1,ho | 2,ho | 3,ho | 4,ho | 5,ho | 6,ho | 7,ho | 8,ho | 9,ho | 10,ho=>simp at ha
      | 11,ho =>
       simp only [gA,gB,gC,gD] at ho;subst ho;exact qKm rfl hk
      | 12,ho=>simp at ha
      | i+13,ho=>simp at ho
    · intro i ha us gs w' hJ hn hlim
      match i,ha with
      | 0,ha | 1,ha | 2,ha | 3,ha | 4,ha | 5,ha | 6,ha | 7,ha | 8,ha | 9,ha | 10,ha=>simp at ha
      | 11,ha=>exact hJ.alloc (by have:=hlim 3 12 rfl rfl;omega)
      | 12,ha=>simp at ha
      | i+13,ha=>simp at ha
    · intro i o ho hc ha a w' us gs K' hJ hF hlim hk
      match i,ho with
      | 0,ho =>
       simp only [gA,gB,gC,gD] at ho;subst ho;have e4:=hF.old 4 (.pointer (some ⟨w.heap.size,0,none⟩)) rfl rfl;simp only [Act.eval] at e4;clear hF hlim hJ;go_simp;exact hk
      | 1,ho =>
       simp only [gA,gB,gC,gD] at ho;subst ho;have e80:=hF.pure 0 80 (.pointer (some ⟨w.heap.size,0,none⟩)) rfl rfl rfl rfl rfl;have hcl:w'.cell? ⟨w.heap.size,0,none⟩=some (.string e.title):=(HR.out.list.ext hJ.ext).cell 0;simp only [Act.eval] at e80;clear hF hlim hJ;go_simp;exact hk
      | 2,ho =>
       simp only [gA,gB,gC,gD] at ho;subst ho;have e0:=hF.old 0 (.slice A k c) rfl rfl;simp only [Act.eval] at e0;clear hF hlim hJ;go_simp;exact hk
      | 3,ho=>simp at hc
      | 4,ho =>
       simp only [gA,gB,gC,gD] at ho;subst ho;have e4:=hF.old 4 (.pointer (some ⟨w.heap.size,0,none⟩)) rfl rfl;simp only [Act.eval] at e4;clear hF hlim hJ;go_simp;exact hk
      | 5,ho =>
       simp only [gA,gB,gC,gD] at ho;subst ho;have e84:=hF.pure 4 84 (.pointer (some ⟨w.heap.size,1,none⟩)) rfl rfl rfl rfl rfl;have hcl:w'.cell? ⟨w.heap.size,1,none⟩=some (.int .u8 e.rate):=(HR.out.list.ext hJ.ext).cell 1;simp only [Act.eval] at e84;clear hF hlim hJ;go_simp;exact hk
      | 6,ho =>
       simp only [gA,gB,gC,gD] at ho;subst ho;have e4:=hF.old 4 (.pointer (some ⟨w.heap.size,0,none⟩)) rfl rfl;simp only [Act.eval] at e4;clear hF hlim hJ;go_simp;exact hk
      | 7,ho =>
       simp only [gA,gB,gC,gD] at ho;subst ho;have e86:=hF.pure 6 86 (.pointer (some ⟨w.heap.size,2,none⟩)) rfl rfl rfl rfl rfl;have hcl:w'.cell? ⟨w.heap.size,2,none⟩=some (.bool e.drop):=(HR.out.list.ext hJ.ext).cell 2;simp only [Act.eval] at e86;clear hF hlim hJ;go_simp;exact hk
      | 8,ho =>
       simp only [gA,gB,gC,gD] at ho;subst ho;have e0:=hF.old 0 (.slice A k c) rfl rfl;simp only [Act.eval] at e0;clear hF hlim hJ;go_simp;exact hk
      | 9,ho | 10,ho=>simp at hc
      | 11,ho=>simp at ha
      | 12,ho=>simp at hc
      | i+13,ho=>simp at ho
    · intro p c' o hp ho a w' us gs K' hl hJ hF hk
      match p,hp with
      | 0,hp =>
       (obtain rfl:3=c':=by simpa using hp);simp only [gA,gB,gC,gD] at ho;subst ho;obtain rfl:us=[]:=List.eq_nil_of_length_eq_zero hl;have e82:=hF.pure 2 82 (.slice A k c) rfl rfl rfl rfl rfl;exact qDz rfl e82 Tryz.call54 (HLg2.out _ (HX0.out.trans hJ.ext)) (fun en w5 h5=>⟨_,h5.1,hk _ w5 (hJ.c0 h5.2)⟩)
      | 1,hp =>
       (obtain rfl:9=c':=by simpa using hp);simp only [gA,gB,gC,gD] at ho;subst ho;obtain ⟨u0,rfl⟩:=qEq hl;have e88:=hF.pure 8 88 (.slice A k c) rfl rfl rfl rfl rfl;exact qDz rfl e88 Tryz.call49 (HRgs.out _ (HX0.out.trans hJ.ext)) (fun en w5 h5=>h5.elim fun v h5=>⟨v,h5.1,hk _ w5 (hJ.c1 h5.2.2 h5.2.1)⟩)
      | 2,hp =>
       (obtain rfl:10=c':=by simpa using hp);simp only [gA,gB,gC,gD] at ho;subst ho;obtain ⟨u0,u1,rfl⟩:=qEo hl;obtain rfl:=hJ.str u0 rfl;obtain ⟨A1,c1,hu1⟩:=qFb (hJ.own (by simp));obtain rfl:u1 = .slice A1 mR.length c1:=hu1;have e81:=hF.pure 1 81 (.string e.title) rfl rfl rfl rfl rfl;have e83:=hF.link 0 3 83 _ rfl rfl rfl rfl;have e85:=hF.pure 5 85 (.int .u8 e.rate) rfl rfl rfl rfl rfl;have e87:=hF.pure 7 87 (.bool e.drop) rfl rfl rfl rfl rfl;have e89:=hF.link 1 9 89 _ rfl rfl rfl rfl;have HK:=gH (hk _ _ hJ.c2);unfold qBc at HK;simp [Act.eval] at e81 e83 e85 e87 e89;clear hk hF hJ;go_simp;exact HK.out
      | 3,hp =>
       (obtain rfl:12=c':=by simpa using hp);simp only [gA,gB,gC,gD] at ho;subst ho;obtain ⟨u0,u1,u2,rfl⟩:=qHg hl;obtain ⟨A1,c1,hu1⟩:=qFb (hJ.own (by simp));obtain rfl:u1 = .slice A1 mR.length c1:=hu1;obtain ⟨g18,hg18,e18⟩:=hF.ptr 11 18 rfl rfl rfl rfl;have e90:=hF.link 2 10 90 _ rfl rfl rfl rfl;have e90':a.eval (.tmp 90) = .agg (qBc e lg 0 (.slice A1 mR.length c1) (.slice none 0 0)):=e90.trans (hJ.agg (by simp));(have hb18:Blk w' g18 52 qAu:=by simpa using (hJ.blk _ hg18).2);exact qKf 52 (.tmp 18) (.tmp 90) rfl g18 52 _ _ e18 e90' (by exact qBh) (by simp [qBc,Value.oneCell']) hb18 rfl (hk undef _ (hJ.c3 hg18))
      | p+4,hp=>simp at hp
    intro us gs w6 hl hgs hJ;obtain ⟨uu0,uu1,uu2,uu3,rfl⟩:=qLr hl;obtain ⟨g11,hg11⟩:=Option.isSome_iff_exists.1 (hgs 11 rfl)
    first | (rename_i hK;refine hK _ _ ?_;clear hK) | (rename_i hK hK_1;refine hK _ _ ?_;clear hK) | (rename_i hK hK_1 hK_2;refine hK _ _ ?_;clear hK) | (rename_i hK hK_1 hK_2 hK_3;refine hK _ _ ?_;clear hK)
    generalize hL:frameA _ _ _ _ _ _=L;obtain rfl:L=[(80,.pointer (some ⟨w.heap.size,0,none⟩)),(81,.string e.title),(82,.slice A k c),(83,uu0),(84,.pointer (some ⟨w.heap.size,1,none⟩)),(85,.int .u8 e.rate),(86,.pointer (some ⟨w.heap.size,2,none⟩)),(87,.bool e.drop),(88,.slice A k c),(89,uu1),(90,uu2),(18,.pointer ((gs 11).map fun g=>⟨g,0,none⟩))]:=hL.symm.trans (by kernel_rfl);rw [hg11];clear hL hl;simp only [Act.put,Option.map_some,List.foldl_cons,List.foldl_nil,List.setIfInBounds_toArray,List.set_cons_zero,List.set_cons_succ];obtain ⟨Ar,cr,hu1⟩:=qFb (hJ.own (by simp));(have HDoc:Hid (Blk w6 g11 52 (qBc e lg 0 uu1 (.slice none 0 0))):=by show Blk _ _ _ _;simpa using (hJ.blk _ hg11).2);have hgD:=(hJ.blk _ hg11).1;(have HRow:Hid (w6.ownsRow wr.heap.size 105 7 uu1 mR.length (mR.flatMap Reg.vals)):=by show World.ownsRow _ _ _ _ _ _ _;simpa using hJ.own (by simp));have HR6:=gH (HR.out.step hJ.ext);have hwr6:=hJ.ext.size;have hwwr:=HX0.out.size;have hgw:=Nat.le_trans hwwr hgD;clear hJ hu1 hg11 HR HRgs HLg2 HX0;go_wp2_with (refine qAc rfl 28 (.tmp 4) rfl w.heap.size 28 _ _ (by exact rfl) (by exact HR6.out.list) Tryz.underlying28 rfl (by exact qBy) ?_);refine (HJ2.out _ HR6.out.ext).mono ?_;rintro en7 w7 ⟨Aj,nj,cj,rfl,hcu,-,hx7,hfj⟩;have HR7:=gH (HR6.out.step hx7);have HCu:=gH (qBd.ext hcu ((Ext.refl w7).alloc (.cells #[.string e.title,.int .u8 e.rate,.bool e.drop,.slice Aj nj cj] 28)))
    have HCn:=gH hcu.len;have HXJ:=gH ((HR7.out.ext).alloc (.cells #[.string e.title,.int .u8 e.rate,.bool e.drop,.slice Aj nj cj] 28));have HBj:=gH (Blk.new w7 28 #[.string e.title,.int .u8 e.rate,.bool e.drop,.slice Aj nj cj]);have HDJ:=gH ((HDoc.out.ext hx7).alloc (.cells #[.string e.title,.int .u8 e.rate,.bool e.drop,.slice Aj nj cj] 28));have HZJ:=gH (HR7.out.doc.alloc (.cells #[.string e.title,.int .u8 e.rate,.bool e.drop,.slice Aj nj cj] 28));have HMpJ:=gH (HR7.out.map.ext ((Ext.refl w7).alloc (.cells #[.string e.title,.int .u8 e.rate,.bool e.drop,.slice Aj nj cj] 28)));have HRwJ:=gH (qAh (qAh HRow.out hx7) ((Ext.refl w7).alloc (.cells #[.string e.title,.int .u8 e.rate,.bool e.drop,.slice Aj nj cj] 28)));have HFJ:=gH (fun L2=>(HR7.out.fats L2).ext ((Ext.refl w7).alloc (.cells #[.string e.title,.int .u8 e.rate,.bool e.drop,.slice Aj nj cj] 28)))
    have HNj:Hid (∀ ad,Aj=some ad→¬ (ad.block=g11∨(Value.slice AF nF cF).ownBlock=some ad.block)):=fun ad had hr=>by
     have h2:=hfj ad had
     rcases hr with h | h
     · have:=HDoc.out.lt
       omega
     · obtain ⟨xs,hxs⟩:=(HR6.out.fats 0).xs
       have h1:=(qAj hxs _ h).lt;omega
    have hg7:=HDJ.out.lt
    have HNZ:Hid (¬ (w.heap.size+1=g11∨(Value.slice AF nF cF).ownBlock=some (w.heap.size+1))):=fun hr=>by
     rcases hr with h | h
     · have h1:=HR6.out.map.lt
       have h2:=HMp0.out.lt;have h3:=HZ0.out.lt;omega
     · obtain ⟨xs,hxs⟩:=(HR6.out.fats 0).xs
       exact qBf.ne (qAj hxs _ h) HR6.out.doc.typed (by decide) rfl
    have HNB:Hid (¬ (w1.heap.size=g11∨(Value.slice AF nF cF).ownBlock=some w1.heap.size)):=fun hr=>by
     rcases hr with h | h
     · have h1:=HMp0.out.lt
       omega
     · obtain ⟨xs,hxs⟩:=(HR6.out.fats 0).xs
       exact map_notCells HR6.out.map (qAj hxs _ h)
    clear hcu hx7 hfj HDoc HRow HR6 HR7 HJ2;go_upto_region 21 with fail;obtain ⟨gl,hgl⟩:∃ gl,gl=w7.heap.size:=⟨_,rfl⟩;obtain ⟨wJ,hwJ⟩:∃ wJ,wJ=w7.alloc (.cells #[.string e.title,.int .u8 e.rate,.bool e.drop,.slice Aj nj cj] 28):=⟨_,rfl⟩;rw [← hgl] at HBj;rw [← hwJ] at HCu HXJ HBj HDJ HZJ HMpJ HRwJ HFJ hg7 ⊢;rw [← hgl];clear hwJ hgl;have j3:=HBj.out.cell 3;simp only [gA,gB,gC] at j3;(have hnj:nj≤64:=by rw [← HCn.out];exact joinC_few HE0.out);have HPc:=gH (joinC_ok HE0.out)
    have HM0:Hid (MnSt w wJ g11 (.slice AF nF cF) uu1 e lg mR (fun _=>False) ⟨[],qBx e docs⟩ wJ) :=
     ⟨.slice none 0 0,⟨HXJ.out,Keep.refl _,HDJ.out,qBv.nil _ _,fun q hq=>by simp [Value.ownBlock] at hq,HFJ.out _,qLc HRwJ.out hwwr⟩⟩
    have hwJ2:=HXJ.out.size;go_wp2_with fail;clear j3
    go_loopw [99] (fun i wq=>Mn1Rel w wJ g11 (.slice AF nF cF) uu1 e lg mR docs least (qAx e.cuts) ⟨[],qBx e docs⟩ nj i wq) (fun i _=>nj-(intOf i).toNat)
    case atStart=>exact ⟨0,Nat.zero_le _,rfl,HM0.out⟩
    case round =>
     obtain ⟨q,hq,rfl,vE,hM⟩:=hrel;have HM:=gH hM;clear hM
     by_cases hqt:q<nj
     · have hCr:=HM.out.keep.cells HCu.out HNj.out
       obtain ⟨bj,offj,r,rfl,hrk,d0,d1,d2,d3,d4,d5,d6⟩:=qBd.at7 hCr hqt;have HRk:=gH hrk;have hrm:=List.mem_of_getElem? hrk;have HPr:=gH (HPc.out r hrm);have HBc:=gH (Blk.new wr 91 r.cells);have HM1:=gH (HM.out.step ((Ext.refl wr).alloc (.cells r.cells 91)));clear hCr hrk hrm;unfold Cut.cells at HBc HM1;go_upto_region 24 with fail;obtain ⟨gc,hgc⟩:∃ gc,gc=wr.heap.size:=⟨_,rfl⟩;obtain ⟨w8,hw8⟩:∃ w8,w8=wr.alloc (.cells #[.int .i64 r.num,.string r.reel,.int .i64 r.src,.int .i64 r.inn,.int .i64 r.out,.int .i64 r.n,.int .i64 r.d] 91):=⟨_,rfl⟩;rw [← hgc] at HBc;rw [← hw8] at HBc HM1 ⊢;rw [← hgc];clear hw8 hgc d0 d1 d2 d3 d4 d5 d6 HM;have HIx2:=gH (HIx.out w8 gc r HM1.out.ext HBc.out);go_wp2_with fail;refine HIx2.out.mono ?_;rintro en9 w9 ⟨rfl,hx9⟩;have HM9:=gH (HM1.out.step hx9);have HBc9:=gH (HBc.out.ext hx9);clear hx9 HIx2 HM1 HBc;have HCt:=gH (qNp (docs:=docs) (least:=least) (s:=⟨[],qBx e docs⟩) HRk.out);have hlen:=(qKc (docs:=docs) (fun d hd=>(qEp (HDe.out d hd).2).2.2.1) least ((qAx e.cuts).take q) ⟨[],qBx e docs⟩);rw [List.length_take] at hlen;have hlen1:=hlen.1;have hlen2:=hlen.2;simp only [List.length_nil,Nat.zero_add] at hlen1;have hlen3:(qBo docs least ((qAx e.cuts).take q) ⟨[],qBx e docs⟩).evs.length≤25600:=Nat.le_trans hlen1 (by omega);clear hlen hlen1;obtain ⟨s0,hs0⟩:∃ s0,s0=qBo docs least ((qAx e.cuts).take q) ⟨[],qBx e docs⟩:=⟨_,rfl⟩
       (have HPL0:Hid (PL s0):=by show PL _;rw [hs0];exact PL.cuts (PL.start e docs));rw [← hs0] at HM9 HCt hlen2 hlen3;have HLe2:=gH hlen2;clear hs0 hlen2;unfold qFi at HCt;have HIxd:Hid (ixD docs r.reel=match qHi docs r.reel with | some k=>(k:Int) | none=>-1):=rfl
       cases hfr:qHi docs r.reel with
       | none =>
        rw [hfr] at HIxd HCt;have HCt2:Hid (qBo docs least ((qAx e.cuts).take (q+1)) ⟨[],qBx e docs⟩=s0):=HCt.out;have HIv:Hid (ixD docs r.reel = -1):=HIxd.out;rw [HIv.out];clear hfr;go_wp2_with fail;exact ⟨⟨q+1,by omega,by go_num,by rw [HCt2.out];exact ⟨vE,HM9.out⟩⟩,by simp [intOf];omega⟩
       | some z =>
        rw [hfr] at HIxd HCt;have HCt2:Hid (qBo docs least ((qAx e.cuts).take (q+1)) ⟨[],qBx e docs⟩=qCr r least (offR docs z) (evsR docs z) s0):=HCt.out;have HIv:Hid (ixD docs r.reel=(z:Int)):=HIxd.out;rw [HIv.out];have hzk:=(List.findIdx?_eq_some_iff_getElem.1 hfr).1;have hzr:∃ x,docs[z]?=some x∧x.reel=r.reel:=findRd_at hfr;(have hzn:z<k:=by have:=HLn.out;omega);obtain ⟨b,off,x,h,hAe,hxz,hat,hsz,c0,c1,c2,c3,c4,c5,c6,c7,c8⟩:=HL.out.at9 hzn
        cases hAe
        obtain ⟨ra,rn,rc,ea,em,ec,ca,cn,cc⟩:=h;have HXz:=gH hxz;have hmem:=List.mem_of_getElem? hxz;obtain ⟨hnm,hde⟩:=HDe.out x hmem;have HOk:=gH (qEp hde);(have hEvs:evsR docs z=x.doc.evs:=by unfold evsR;rw [hxz])
        have HXr:Hid (x.reel=r.reel):=by
         obtain ⟨x',h1,h2⟩:=hzr;rw [hxz] at h1
         cases h1
         exact h2
        rw [hEvs] at HCt2;have HCl:=gH (fun w' (hx:Ext w w')=>DClone_any x.doc ⟨ra,rn,rc,ea,em,ec,ca,cn,cc⟩ w' (hat.ext hx) (by have:=hsz.r;dsimp only at *;omega) (by have:=hsz.e;dsimp only at *;omega) (by have:=hsz.c;dsimp only at *;omega));unfold Doc.cells at HCl;dsimp only at HCl;replace c1:=HM9.out.ext.cell c1;replace c2:=HM9.out.ext.cell c2;replace c3:=HM9.out.ext.cell c3;replace c4:=HM9.out.ext.cell c4;replace c5:=HM9.out.ext.cell c5;replace c6:=HM9.out.ext.cell c6;replace c7:=HM9.out.ext.cell c7;replace c8:=HM9.out.ext.cell c8;(have hzi:(0:Int)≤(z:Int):=by omega);(have hzi2:(z:Int)<(k:Int):=by omega);clear c0 hfr hzk hzr hxz hat hsz hmem hnm hde hEvs;go_wp2_with fail;refine (HCl.out _ HM9.out.ext).mono ?_;rintro en10 w10 ⟨⟨ra',rn',rc',ea',em',ec',ca',cn',cc'⟩,rfl,hdo,hx10⟩;unfold Doc.cells;dsimp only
        have HM10:Hid (MnF w wJ g11 (.slice AF nF cF) uu1 e lg mR (fun q=>(Value.slice ea' em' ec').ownBlock=some q) vE s0.evs.length s0 w10):=by
         have h1:=HM9.out.step hx10;refine ⟨h1.ext,h1.keep,h1.doc,h1.evs,fun q hq hq2=>?_,h1.fats,h1.regs⟩;have h2:=(HM9.out.evs.typed q hq).lt;have h3:=hdo.evs.low q hq2;omega
        have HC10:=gH (hdo.evs.le HM9.out.keep.size);have HB10:=gH (HBc9.out.ext hx10);have hem':=hdo.evs.len;have hev400:=HOk.out.2.2.1;dsimp only at HC10 hem';have HEm:=gH hem';(have hem400:em'≤400:=by omega);clear hem' hdo hx10 HCl c1 c2 c3 c4 c5 c6 c7 c8 HM9 HBc9 hzi hzi2;(have hfe:=fun w=>field_evs x.doc.title x.doc.lang x.doc.rate x.doc.last x.doc.drop (.slice ra' rn' rc') (.slice ca' cn' cc') ea' em' ec' w);go_wp2_with fail;clear hfe
        go_loopw [116] (fun i wq=>Mn2Rel w wJ g11 (.slice AF nF cF) uu1 e lg mR r least (offR docs z) x.doc.evs s0 (.slice ea' em' ec') gc em' i wq) (fun i _=>em' - (intOf i).toNat)
        case atStart=>exact ⟨0,Nat.zero_le _,rfl,⟨vE,HM10.out⟩,HC10.out,HB10.out⟩
        case round =>
         obtain ⟨j,hj,rfl,⟨vD,hM⟩,hEC,hBc⟩:=hrel;have HMj:=gH hM;have HEC:=gH hEC;have HBj:=gH hBc;clear hM hEC hBc
         by_cases hjt:j<em'
         · obtain ⟨y,hyk⟩:=qBq (l:=x.doc.evs) (p:=j) (by have:=HEm.out;omega)
           obtain ⟨gCz,A',n',c',rfl,-,hgC,-,hcs,-,hGd⟩:=qBv.head HEC.out hyk;(have d0:wr.cell? ⟨gCz,j*7,none⟩=some (.int .i64 y.id):=by simpa using hcs 0 _ rfl);have d1:=hcs 1 _ rfl;have d2:=hcs 2 _ rfl;have d3:=hcs 3 _ rfl;have d4:=hcs 4 _ rfl;have d5:=hcs 5 _ rfl;have d6:=hcs 6 _ rfl;have hys:=ev_span ((evs_v HOk.out.2.2.2.1).each y (List.mem_of_getElem? hyk)).1;have HGd:=gH hGd;have HYk:=gH hyk;have HCs:=gH (conEvs_take (c:=r) (least:=least) (i:=offR docs z) (s:=s0) hyk);have hsl:=(qJc r least (x.doc.evs.take j) (offR docs z) s0);rw [List.length_take] at hsl;have hsl1:(qCr r least (offR docs z) (x.doc.evs.take j) s0).evs.length≤26000:=Nat.le_trans hsl.1 (by have:=HEm.out;omega);have hsl2:=hsl.2;clear hsl hcs hGd hyk;obtain ⟨s,hs⟩:∃ s,s=qCr r least (offR docs z) (x.doc.evs.take j) s0:=⟨_,rfl⟩;(have HPL:Hid (PL s):=by show PL _;rw [hs];exact PL.evs HPL0.out);rw [← hs] at HMj HCs hsl1 hsl2;have HSl2:=gH hsl2;clear hs hsl2;have HPt:=gH (fun w'=>Part_any r ⟨y.inn,y.out⟩ w' HPr.out hys.1 hys.2.1 (by unfold maxT;dsimp only;omega));have HPv:Hid (partV r ⟨y.inn,y.out⟩=if qAs r.pc y.inn<qAs r.pc y.out then .tuple #[.agg #[.int .i64 (qAs r.pc y.inn),.int .i64 (qAs r.pc y.out)],.bool true] else .tuple #[.agg #[.int .i64 0,.int .i64 0],.bool false]):=rfl;have HPe:Hid (partE r y=if qAs r.pc y.inn<qAs r.pc y.out then some ⟨qAs r.pc y.inn,qAs r.pc y.out⟩ else none):=rfl
           have hrb1:=qHj HPr.out y.inn;have hrb2:=qHj HPr.out y.out;unfold qDn at HCs;generalize qAs r.pc y.inn=lo at *;generalize qAs r.pc y.out=hi at *;unfold maxT at hrb1 hrb2;have HBy:=gH (Blk.new wr 64 #[.int .i64 y.id,.int .i64 y.inn,.int .i64 y.out,.string y.region,.int .u8 y.kind,.string y.speaker,.slice A' n' c']);have HXy:=gH ((Ext.refl wr).alloc (.cells #[.int .i64 y.id,.int .i64 y.inn,.int .i64 y.out,.string y.region,.int .u8 y.kind,.string y.speaker,.slice A' n' c'] 64));go_upto_region 29 with fail;obtain ⟨gx,hgx⟩:∃ gx,gx=wr.heap.size:=⟨_,rfl⟩;obtain ⟨w11,hw11⟩:∃ w11,w11=wr.alloc (.cells #[.int .i64 y.id,.int .i64 y.inn,.int .i64 y.out,.string y.region,.int .u8 y.kind,.string y.speaker,.slice A' n' c'] 64):=⟨_,rfl⟩;rw [← hgx] at HBy;rw [← hw11] at HBy HXy ⊢;rw [← hgx];have HGx:=gH hgx;clear hw11 hgx d0 d1 d2 d3 d4 d5 d6;have HB11:=gH (HBj.out.ext HXy.out);unfold Cut.cells at HPt HB11;have y1:=HBy.out.cell 1;have y2:=HBy.out.cell 2;simp only [gA,gB,gC] at y1 y2;go_wp2_with (refine qAc rfl 91 (.tmp 22) rfl gc 91 _ _ (by exact rfl) (by exact HB11.out) Tryz.underlying91 rfl (by exact qCk) ?_);refine (HPt.out _).mono ?_;rintro en12 w12 ⟨rfl,hx12⟩;have HX12:=gH (HXy.out.trans hx12);have HBy2:=gH (HBy.out.ext hx12);have HB12:=gH (HB11.out.ext hx12);clear hx12 y1 y2 HPt HB11
           by_cases hlh:lo<hi
           case neg =>
            rw [if_neg hlh] at HPv HPe;rw [HPe.out] at HCs;rw [HPv.out];have HX13:=gH (HX12.out.alloc (.cells #[.int .i64 0,.int .i64 0] 60));clear hlh;go_wp2_with fail;exact ⟨⟨j+1,by omega,by go_num,⟨vD,by rw [HCs.out];exact HMj.out.step HX13.out⟩,HEC.out.ext HX13.out,HBj.out.ext HX13.out⟩,by simp [intOf];omega⟩
           rw [if_pos hlh] at HPv HPe;rw [HPe.out] at HCs;rw [HPv.out];have HX13:=gH (HX12.out.alloc (.cells #[.int .i64 lo,.int .i64 hi] 60));have HBs:=gH (Blk.new w12 60 #[.int .i64 lo,.int .i64 hi]);have HBy3:=gH (HBy2.out.alloc (.cells #[.int .i64 lo,.int .i64 hi] 60));have HB13:=gH (HB12.out.alloc (.cells #[.int .i64 lo,.int .i64 hi] 60));clear hlh HPv HPe HBy2 HB12;go_upto_region 31 with fail;obtain ⟨gs,hgs⟩:∃ gs,gs=w12.heap.size:=⟨_,rfl⟩;obtain ⟨w13,hw13⟩:∃ w13,w13=w12.alloc (.cells #[.int .i64 lo,.int .i64 hi] 60):=⟨_,rfl⟩;rw [← hgs] at HBs;rw [← hw13] at HX13 HBs HBy3 HB13 ⊢;rw [← hgs];clear hw13 hgs;have HM13:=gH (HMj.out.step HX13.out);have HC13:=gH (HEC.out.ext HX13.out);have hl4:w13.cell? ⟨g11,4,none⟩=some (.int .i64 (s.evs.length:Int)):=HM13.out.doc.cell 4;have hf4:=HM13.out.doc.frozen 4;have hset4:w13.setCell ⟨g11,4,none⟩ (.int .i64 ((s.evs.length:Int)+1))=putB w13 g11 52 (qBc e lg ((s.evs.length:Int)+1) uu1 vD):=qBb HM13.out.doc 4 (.int .i64 ((s.evs.length:Int)+1));go_upto_region 32 with fail;obtain ⟨L1,hL1⟩:∃ L1,L1=(s.evs.length:Int)+1:=⟨_,rfl⟩;rw [← hL1] at HCs ⊢;have HL1:=gH hL1;obtain ⟨w14,hw14⟩:∃ w14,w14=putB w13 g11 52 (qBc e lg L1 uu1 vD):=⟨_,rfl⟩;have HM14:=gH (HM13.out.putDoc hgw L1)
           have HC14:=gH (HC13.out.kb (KB.put (cs':=qBc e lg L1 uu1 vD) HM13.out.doc (by decide)) (KB.put (cs':=qBc e lg L1 uu1 vD) HM13.out.doc (by decide)) (KB.put (cs':=qBc e lg L1 uu1 vD) HM13.out.doc (by decide)));have HBy14:=gH (HBy3.out.kb (KB.put (cs':=qBc e lg L1 uu1 vD) HM13.out.doc (by decide)));have HBs14:=gH (HBs.out.kb (KB.put (cs':=qBc e lg L1 uu1 vD) HM13.out.doc (by decide)));have HB14:=gH (HB13.out.kb (KB.put (cs':=qBc e lg L1 uu1 vD) HM13.out.doc (by decide)));have HG14:=gH ((HGd.out.ext HX13.out).kb (KB.put (cs':=qBc e lg L1 uu1 vD) HM13.out.doc (by decide)) (KB.put (cs':=qBc e lg L1 uu1 vD) HM13.out.doc (by decide)));rw [← hw14] at HM14 HC14 HBy14 HBs14 HB14 HG14 ⊢
           have hvD:∀ q,vD.ownBlock=some q→q≠gx:=fun q hq=>by
            have h1:=(HMj.out.evs.typed q hq).lt;have h2:=HGx.out;omega
           have HVD:=gH hvD;(have hgCx:gCz≠gx:=by have h2:=HGx.out;omega);(have hwgx:w.heap.size≤gx:=by have h1:=HMj.out.ext.size;have h2:=HGx.out;omega);(have hJgx:wJ.heap.size≤gx:=by have h1:=HMj.out.keep.size;have h2:=HGx.out;omega);clear hvD hw14 hL1 hl4 hf4 hset4 HM13 HC13 HBy3 HBs HB13;refine qAy [some 134,some 135,some 136,some 137,none,some 138,none] [[],[0],[],[0,1],[3,1,0,1],[0,1,2,3,4],[5,2,4,0,1,2,3,4]] [4,6] [.pointer (some ⟨g11,4,none⟩),.int .i64 L1,.agg #[.int .i64 lo,.int .i64 hi],.pointer (some ⟨gx,0,none⟩),undef,.pointer (some ⟨gx,1,none⟩),undef] (E2K gx #[.int .i64 L1,.int .i64 y.inn,.int .i64 y.out,.string y.region,.int .u8 y.kind,.string y.speaker,.slice A' n' c'] #[.int .i64 L1,.int .i64 lo,.int .i64 hi,.string y.region,.int .u8 y.kind,.string y.speaker,.slice A' n' c'] w14) (by kernel_rfl) (by kernel_rfl) (by kernel_rfl) (by kernel_rfl) (by kernel_rfl) (by kernel_rfl) (by kernel_rfl) (by decide) ?_ ?_ ?_ ?_
           · exact E2K.start w14
           · intro i o ho hc a w' us K' hJ hF hlim hk
             match i,ho with
             | 0,ho =>
              simp only [gA,gB,gC,gD] at ho;subst ho;have e18:=hF.old 18 (.pointer (some ⟨g11,0,none⟩)) rfl rfl;simp only [Act.eval] at e18;clear hF hlim hJ;go_simp;exact hk
             | 1,ho =>
              simp only [gA,gB,gC,gD] at ho;subst ho;have e134:=hF.pure 0 134 (.pointer (some ⟨g11,4,none⟩)) rfl rfl rfl rfl;have hcl:w'.cell? ⟨g11,4,none⟩=some (.int .i64 L1):=(HM14.out.doc.only hJ.only (by decide)).cell 4;simp only [Act.eval] at e134;clear hF hlim hJ;go_simp;exact hk
             | 2,ho =>
              simp only [gA,gB,gC,gD] at ho;subst ho;have e26:=hF.old 26 (.pointer (some ⟨gs,0,none⟩)) rfl rfl;exact qCd 60 (.tmp 26) rfl gs 60 _ _ e26 (HBs14.out.only hJ.only (by decide)) Tryz.underlying60 rfl (by exact qHh) hk
             | 3,ho =>
              simp only [gA,gB,gC,gD] at ho;subst ho;have e25:=hF.old 25 (.pointer (some ⟨gx,0,none⟩)) rfl rfl;simp only [Act.eval] at e25;clear hF hlim hJ;go_simp;exact hk
             | 4,ho=>simp at hc
             | 5,ho =>
              simp only [gA,gB,gC,gD] at ho;subst ho;have e25:=hF.old 25 (.pointer (some ⟨gx,0,none⟩)) rfl rfl;simp only [Act.eval] at e25;clear hF hlim hJ;go_simp;exact hk
             | 6,ho=>simp at hc
             | i+7,ho=>simp at ho
           · intro p c' o hp ho a w' us K' hl hJ hF hk
             match p,hp with
             | 0,hp =>
              (obtain rfl:4=c':=by simpa using hp);simp only [gA,gB,gC,gD] at ho;subst ho;obtain rfl:us=[]:=List.eq_nil_of_length_eq_zero hl;have e137:=hF.pure 3 137 (.pointer (some ⟨gx,0,none⟩)) rfl rfl rfl rfl;have e135:=hF.pure 1 135 (.int .i64 L1) rfl rfl rfl rfl;have hb8:=HBy14.out.ext (hJ.nil rfl);have hcl:=hb8.cell 0;have hfr:=hb8.frozen 0;have hset:=qBb hb8 0 (.int .i64 L1);simp at hcl hset;have HK:=gH (hk undef _ (hJ.first HBy14.out));simp only [Act.eval] at e137 e135;clear hk hF hJ hb8;go_simp;exact HK.out
             | 1,hp =>
              (obtain rfl:6=c':=by simpa using hp);simp only [gA,gB,gC,gD] at ho;subst ho;obtain ⟨u0,rfl⟩:=qEq hl;obtain ⟨w9,hx9,rfl⟩:=hJ.one u0 rfl;have e138:=hF.pure 5 138 (.pointer (some ⟨gx,1,none⟩)) rfl rfl rfl rfl;have e136:=hF.pure 2 136 (.agg #[.int .i64 lo,.int .i64 hi]) rfl rfl rfl rfl;have hb8:=(HBy14.out.ext hx9).put #[.int .i64 L1,.int .i64 y.inn,.int .i64 y.out,.string y.region,.int .u8 y.kind,.string y.speaker,.slice A' n' c'];refine wp_store_mid 60 (.tmp 138) (.tmp 136) rfl gx 1 #[.int .i64 lo,.int .i64 hi] e138 e136 (fun j hj=>⟨?_,hb8.frozen _⟩) (by exact qHh) (by simp [Value.oneCell']) ?_
              · have hj2:j<2:=hj
                have hjx:j=0∨j=1:=by omega
                rcases hjx with rfl | rfl
                · rw [hb8.cell];rfl
                · rw [hb8.cell];rfl
              · have hw:World.setCells (putB w9 gx 64 #[.int .i64 L1,.int .i64 y.inn,.int .i64 y.out,.string y.region,.int .u8 y.kind,.string y.speaker,.slice A' n' c']) gx 1 [.int .i64 lo,.int .i64 hi]=putB w9 gx 64 #[.int .i64 L1,.int .i64 lo,.int .i64 hi,.string y.region,.int .u8 y.kind,.string y.speaker,.slice A' n' c']:=by
                 have h1:=qBb hb8 1 (.int .i64 lo);have h2:=qBb (hb8.put #[.int .i64 L1,.int .i64 lo,.int .i64 y.out,.string y.region,.int .u8 y.kind,.string y.speaker,.slice A' n' c']) 2 (.int .i64 hi);simp [qHc] at h1 h2;simp only [World.setCells];rw [h1,h2]
                have HK:=hk undef _ (hJ.second HBy14.out);rw [qHc,← hw] at HK;exact HK
             | p+2,hp=>simp at hp
           intro us w15 hl hJ;obtain ⟨p0,p1,rfl⟩:=qEo hl
           first | (rename_i hK;refine hK _ _ ?_;clear hK) | (rename_i hK hK_1;refine hK _ _ ?_;clear hK) | (rename_i hK hK_1 hK_2;refine hK _ _ ?_;clear hK) | (rename_i hK hK_1 hK_2 hK_3;refine hK _ _ ?_;clear hK)
           generalize hL:qDx _ _ _ _=L;obtain rfl:L=[(134,.pointer (some ⟨g11,4,none⟩)),(135,.int .i64 L1),(136,.agg #[.int .i64 lo,.int .i64 hi]),(137,.pointer (some ⟨gx,0,none⟩)),(138,.pointer (some ⟨gx,1,none⟩))]:=hL.symm.trans (by kernel_rfl);clear hL hl;simp only [Act.put,List.foldl_cons,List.foldl_nil,List.setIfInBounds_toArray,List.set_cons_zero,List.set_cons_succ];obtain ⟨w15a,hx15,hw15⟩:=hJ.two p0 p1 rfl;have HBa:=gH (HBy14.out.ext hx15);have HM15:=gH ((HM14.out.step hx15).poke (cs':=#[.int .i64 L1,.int .i64 lo,.int .i64 hi,.string y.region,.int .u8 y.kind,.string y.speaker,.slice A' n' c']) HBa.out hwgx hJgx HVD.out);have HC15:=gH ((HC14.out.ext hx15).same (w1:=putB w15a gx 64 #[.int .i64 L1,.int .i64 lo,.int .i64 hi,.string y.region,.int .u8 y.kind,.string y.speaker,.slice A' n' c']) (fun q hq=>by cases hq;exact putB_keep hgCx) (KB.put HBa.out (by decide)) (KB.put HBa.out (by decide)));have HBy15:=gH (HBa.out.put #[.int .i64 L1,.int .i64 lo,.int .i64 hi,.string y.region,.int .u8 y.kind,.string y.speaker,.slice A' n' c']);have HBs15:=gH ((HBs14.out.ext hx15).kb (KB.put (cs':=#[.int .i64 L1,.int .i64 lo,.int .i64 hi,.string y.region,.int .u8 y.kind,.string y.speaker,.slice A' n' c']) HBa.out (by decide)));have HB15:=gH ((HB14.out.ext hx15).kb (KB.put (cs':=#[.int .i64 L1,.int .i64 lo,.int .i64 hi,.string y.region,.int .u8 y.kind,.string y.speaker,.slice A' n' c']) HBa.out (by decide)))
           have HG15:=gH (((HG14.out.ext hx15).kb (KB.put (cs':=#[.int .i64 L1,.int .i64 lo,.int .i64 hi,.string y.region,.int .u8 y.kind,.string y.speaker,.slice A' n' c']) HBa.out (by decide)) (KB.put (cs':=#[.int .i64 L1,.int .i64 lo,.int .i64 hi,.string y.region,.int .u8 y.kind,.string y.speaker,.slice A' n' c']) HBa.out (by decide))).as L1 ⟨lo,hi⟩);rw [← hw15] at HM15 HC15 HBy15 HBs15 HB15 HG15;clear hJ hx15 hw15 HBa HM14 HC14 HBy14 HBs14 HB14 HG14;obtain ⟨xsE,hxsE⟩:=HM15.out.evs.row;have HRw:=gH hxsE;clear hxsE;have hl6:w15.cell? ⟨g11,6,none⟩=some vD:=HM15.out.doc.cell 6;have hJ15:=HM15.out.keep.size
           go_upto_region 34 with (first | (refine qAc rfl 64 (.tmp 25) rfl gx 64 _ _ (by exact rfl) (by exact HBy15.out) Tryz.underlying64 rfl (by exact qOg) ?_) | (at_builtin;refine qBn rfl (.tmp 140) (.tmp 142) 49 rfl info_evC Tryz.underlying49 rfl (by decide) (HRw.out.alloc _) (by exact rfl) w15.heap.size _ (by exact rfl) (by exact Blk.new' rfl) (by exact rfl) (by simp [Value.oneCell']) (by omega) (by simp [maxLen]<;>omega) (by first | omega | (simp;omega) | simp) ?_;intro v5 w16 hown5 hgr5 hloc5;obtain ⟨A5,c5,rfl⟩:=qFb hown5;have hD16:=(HM15.out.doc.alloc (.cells #[.int .i64 L1,.int .i64 lo,.int .i64 hi,.string y.region,.int .u8 y.kind,.string y.speaker,.slice A' n' c'] 64)).only (Only.grown hgr5 (qAj (HRw.out.alloc _))) (show 52≠64 by decide);have hset6:w16.setCell ⟨g11,6,none⟩ (.slice A5 (s.evs.length+1) c5)=putB w16 g11 52 (qBc e lg L1 uu1 (.slice A5 (s.evs.length+1) c5)):=qBb hD16 6 (.slice A5 (s.evs.length+1) c5);have hf6:=hD16.frozen 6;have hc6:w16.cell? ⟨g11,6,none⟩=some vD:=hD16.cell 6));have hE5:qFg (w15.alloc (.cells #[.int .i64 L1,.int .i64 lo,.int .i64 hi,.string y.region,.int .u8 y.kind,.string y.speaker,.slice A' n' c'] 64)) wJ.heap.size (EH.of (y.as L1 ⟨lo,hi⟩) A' n' c') (y.as L1 ⟨lo,hi⟩):=HG15.out.ext ((Ext.refl w15).alloc _)
           have HM17:=gH (HM15.out.app (v':=(.slice A5 (s.evs.length+1) c5)) (x:=y.as L1 ⟨lo,hi⟩) hgw hwJ2 ((Ext.refl w15).alloc (.cells #[.int .i64 L1,.int .i64 lo,.int .i64 hi,.string y.region,.int .u8 y.kind,.string y.speaker,.slice A' n' c'] 64)) hgr5 (fun q hq=>by cases hq;have:=(HC15.out.typed gCz rfl).lt;simp only [World.size_alloc];omega) hE5 hloc5 (fun ys hy=>by rw [qLz hy (HRw.out.alloc _)];exact hown5));have HD16:=gH hD16;have HC16:=gH ((HC15.out.ext ((Ext.refl w15).alloc (.cells #[.int .i64 L1,.int .i64 lo,.int .i64 hi,.string y.region,.int .u8 y.kind,.string y.speaker,.slice A' n' c'] 64))).same (w1:=w16) (fun q hq=>hgr5.block q (by have:=(HC15.out.typed q hq).lt;simp only [World.size_alloc];omega) (fun e=>HM15.out.sep q e.symm hq)) (KB.grown hgr5 (qAj (HRw.out.alloc _)) (by decide)) (KB.grown hgr5 (qAj (HRw.out.alloc _)) (by decide)));have HBy16:=gH ((HBy15.out.alloc (.cells #[.int .i64 L1,.int .i64 lo,.int .i64 hi,.string y.region,.int .u8 y.kind,.string y.speaker,.slice A' n' c'] 64)).awayC hgr5 HVD.out);have HBs16:=gH ((HBs15.out.alloc (.cells #[.int .i64 L1,.int .i64 lo,.int .i64 hi,.string y.region,.int .u8 y.kind,.string y.speaker,.slice A' n' c'] 64)).only (Only.grown hgr5 (qAj (HRw.out.alloc _))) (show 60≠64 by decide))
           have HB16:=gH ((HB15.out.alloc (.cells #[.int .i64 L1,.int .i64 lo,.int .i64 hi,.string y.region,.int .u8 y.kind,.string y.speaker,.slice A' n' c'] 64)).only (Only.grown hgr5 (qAj (HRw.out.alloc _))) (show 91≠64 by decide));obtain ⟨w17,hw17⟩:∃ w17,w17=putB w16 g11 52 (qBc e lg L1 uu1 (.slice A5 (s.evs.length+1) c5)):=⟨_,rfl⟩;have HC17:=gH (HC16.out.kb (KB.put (cs':=qBc e lg L1 uu1 (.slice A5 (s.evs.length+1) c5)) HD16.out (by decide)) (KB.put (cs':=qBc e lg L1 uu1 (.slice A5 (s.evs.length+1) c5)) HD16.out (by decide)) (KB.put (cs':=qBc e lg L1 uu1 (.slice A5 (s.evs.length+1) c5)) HD16.out (by decide)));have HBy17:=gH (HBy16.out.kb (KB.put (cs':=qBc e lg L1 uu1 (.slice A5 (s.evs.length+1) c5)) HD16.out (by decide)));have HBs17:=gH (HBs16.out.kb (KB.put (cs':=qBc e lg L1 uu1 (.slice A5 (s.evs.length+1) c5)) HD16.out (by decide)));have HB17:=gH (HB16.out.kb (KB.put (cs':=qBc e lg L1 uu1 (.slice A5 (s.evs.length+1) c5)) HD16.out (by decide)));rw [← hw17] at HM17 HC17 HBy17 HBs17 HB17 ⊢;clear hw17 hown5 hgr5 hloc5 hD16 hset6 hf6 hc6 hE5 hl6 HM15 HC15 HBy15 HBs15 HB15 HG15 HRw HD16 HC16 HBy16 HBs16 HB16;have hin:=fats_in (e:=e) HXz.out HYk.out;have hzo:=qMv (docs:=docs) (q:=400) (fun d hd=>(qEp (HDe.out d hd).2).2.2.1) z;(have hfl:s.fats.length=(qBx e docs).length:=by rw [HSl2.out,HLe2.out]);obtain ⟨f,hfx⟩:=qBq (l:=s.fats) (p:=offR docs z+j) (by omega)
           obtain ⟨xsF,hxsF⟩:=HM17.out.fats.xs;obtain ⟨gF,cF',hvF,-,-⟩:=qFn hxsF (by dsimp only;omega);injection hvF with hAF hx1 hx2;subst hAF;clear hx1 hx2;obtain ⟨nm,Dm,hown,hnm,hmap,hatk⟩:=HM17.out.keep.map HMpJ.out HNB.out;have HOw:=gH hown;have HKey:=gH (qPa (s:=r.reel) (by rw [← HXr.out];have hnm:=(HDe.out x (List.mem_of_getElem? HXz.out)).1;unfold qBm at hnm;simp at hnm;exact hnm.1.1.2));have HAt:=gH (hatk z x (by have h1:=(List.getElem?_eq_some_iff.1 HXz.out).1;have:=HLn.out;omega) HXz.out);rw [HXr.out] at HAt;have r1:=HB17.out.cell 1;simp only [gA,gB,gC] at r1;have HFx:=gH hfx;(have hzk2:z<k:=by have h1:=(List.getElem?_eq_some_iff.1 HXz.out).1;have:=HLn.out;omega);clear hown hnm hmap hatk hxsF hfx;obtain ⟨zo,hzoE⟩:∃ zo,zo=offR docs z:=⟨_,rfl⟩;rw [← hzoE] at HFx HAt HCs hin hzo;have HZo:=gH hzoE;have hzb:zo≤6400:=Nat.le_trans hzo (by omega);(have hnFj:zo+j<nF:=by have:=HNF.out;omega);clear hzoE hzo hin hfl;go_upto_region 35 with (at_lookup;refine wpList_lookup_own_int _ rfl _ _ 108 rfl 9 3 .i64 keyStr Tryz.underlying108 Tryz.underlying3 (qDd _) w1.heap.size nm Dm rfl (by exact HOw.out) _ _ rfl (by exact HKey.out) ?_;intro c0 hat hwc;obtain rfl:c0=(zo:Int):=(by have h:=hat;rw [HAt.out] at h;injection h with h;injection h with h1 h2;exact h2.symm);clear hat hwc);have hbd:(f.slot false).length≤26000:=Nat.le_trans (HPL.out f (List.mem_of_getElem? HFx.out)).1 hsl1
           obtain ⟨xh,hG,hLg,hTy,hcs,hcl⟩:=qBa.at_ rfl HM17.out.fats HFx.out;have HG:=gH hG;have HTy:=gH hTy;have HCl:=gH hcl;have HOi:=gH (hG.row false);have HSl:Hid (w17.cell? ⟨gF,(zo+j)*5+2,none⟩=some (xh.slot false)):=hcs 2 _ rfl;have hwk:=HM17.out.keep.size;clear hG hTy hcs hcl;go_upto_region 35 with fail;refine qAy [some 153,some 154,some 155,some 156,some 157,some 158,some 159,some 160,some 161,some 162,some 163,none] [[],[],[1],[2],[3],[],[5],[6],[4,7],[0,0,1,2,3,4,5,6,7,8],[9,0,1,2,3,4,5,6,7,8],[10,8,8,0,1,2,3,4,5,6,7,8]] [7,8,11] [.pointer (some ⟨gF,(zo+j)*5,none⟩),.pointer (some ⟨gF,(zo+j)*5,none⟩),.pointer (some ⟨gF,(zo+j)*5,none⟩),.pointer (some ⟨gF,(zo+j)*5+2,none⟩),xh.slot false,.pointer (some ⟨gx,0,none⟩),.int .i64 L1,undef,undef,.pointer (some ⟨gF,(zo+j)*5,none⟩),.pointer (some ⟨gF,(zo+j)*5+2,none⟩),undef] (NtJ wJ.heap.size (xh.slot false) (f.slot false).length ((f.slot false).flatMap intV) L1 ⟨gF,(zo+j)*5+2,none⟩ w17) (by kernel_rfl) (by kernel_rfl) (by kernel_rfl) (by kernel_rfl) (by kernel_rfl) (by kernel_rfl) (by kernel_rfl) (by decide) ?_ ?_ ?_ ?_
           · exact NtJ.start w17
           · intro i o ho hc a w' us K' hJ hF hlim hk
             match i,ho with
             | 0,ho | 1,ho =>
              simp only [gA,gB,gC,gD] at ho;subst ho;have e28:=hF.old 28 (.pointer (some ⟨gF,(zo+j)*5,none⟩)) rfl rfl;simp only [Act.eval] at e28;clear hF hlim hJ;go_simp;exact hk
             | 2,ho =>
              simp only [gA,gB,gC,gD] at ho;subst ho;have e154:=hF.pure 1 154 (.pointer (some ⟨gF,(zo+j)*5,none⟩)) rfl rfl rfl rfl;simp only [Act.eval] at e154;clear hF hlim hJ;go_simp;exact hk
             | 3,ho =>
              simp only [gA,gB,gC,gD] at ho;subst ho;have e155:=hF.pure 2 155 (.pointer (some ⟨gF,(zo+j)*5,none⟩)) rfl rfl rfl rfl;simp only [Act.eval] at e155;clear hF hlim hJ;go_simp;exact hk
             | 4,ho =>
              simp only [gA,gB,gC,gD] at ho;subst ho;have e156:=hF.pure 3 156 (.pointer (some ⟨gF,(zo+j)*5+2,none⟩)) rfl rfl rfl rfl;have hcl:w'.cell? ⟨gF,(zo+j)*5+2,none⟩=some (xh.slot false):=(qBf.cell_kb HTy.out ((hJ.only (Nat.le_trans (hlim 1 8 rfl rfl) (by decide))).kb _ (by decide)) _).trans HSl.out;simp only [Act.eval] at e156;clear hF hlim hJ;go_simp;exact hk
             | 5,ho =>
              simp only [gA,gB,gC,gD] at ho;subst ho;have e25:=hF.old 25 (.pointer (some ⟨gx,0,none⟩)) rfl rfl;simp only [Act.eval] at e25;clear hF hlim hJ;go_simp;exact hk
             | 6,ho =>
              simp only [gA,gB,gC,gD] at ho;subst ho;have e158:=hF.pure 5 158 (.pointer (some ⟨gx,0,none⟩)) rfl rfl rfl rfl;have hcl:=(HBy17.out.only (hJ.only (Nat.le_trans (hlim 0 7 rfl rfl) (by decide))) (by decide)).cell 0;simp only [gA,gB,gC] at hcl;simp only [Act.eval] at e158;clear hF hlim hJ;go_simp;exact hk
             | 7,ho | 8,ho=>simp at hc
             | 9,ho =>
              simp only [gA,gB,gC,gD] at ho;subst ho;have e153:=hF.pure 0 153 (.pointer (some ⟨gF,(zo+j)*5,none⟩)) rfl rfl rfl rfl;simp only [Act.eval] at e153;clear hF hlim hJ;go_simp;exact hk
             | 10,ho =>
              simp only [gA,gB,gC,gD] at ho;subst ho;have e162:=hF.pure 9 162 (.pointer (some ⟨gF,(zo+j)*5,none⟩)) rfl rfl rfl rfl;simp only [Act.eval] at e162;clear hF hlim hJ;go_simp;exact hk
             | 11,ho=>simp at hc
             | i+12,ho=>simp at ho
           · intro p c' o hp ho a w' us K' hl hJ hF hk
             match p,hp with
             | 0,hp =>
              (obtain rfl:7=c':=by simpa using hp);simp only [gA,gB,gC,gD] at ho;subst ho;obtain rfl:us=[]:=List.eq_nil_of_length_eq_zero hl;have e159:=hF.pure 6 159 (.int .i64 L1) rfl rfl rfl rfl;have HK:=gH (hk (.slice (some ⟨w'.heap.size,0,none⟩) 1 1) (w'.alloc (.cells #[.int .i64 L1] 2)) hJ.build);simp [Act.eval] at e159;clear hk hF hJ;go_simp;exact HK.out
             | 1,hp =>
              (obtain rfl:8=c':=by simpa using hp);simp only [gA,gB,gC,gD] at ho;subst ho;obtain ⟨u0,rfl⟩:=qEq hl;obtain ⟨hx8,g8,hg8,hB8⟩:=hJ.e1 rfl;obtain rfl:u0 = .slice (some ⟨g8,0,none⟩) 1 1:=hg8;have e157:=hF.pure 4 157 (xh.slot false) rfl rfl rfl rfl;have e160:=hF.link 0 7 160 _ rfl rfl rfl rfl;exact qJo (.tmp 157) (.tmp 160) 65 rfl qLq Tryz.underlying65 rfl (by decide) (qAh HOi.out hx8) e157 g8 _ e160 hB8 rfl (by simp [Value.oneCell']) (by omega) (by simp [maxLen];omega) (by have:=hx8.size;omega) (fun v' w9 ho9 hg9 hl9=>hk v' w9 (hJ.app (qAj (qAh HOi.out hx8)) hg9 hl9 ho9))
             | 2,hp =>
              (obtain rfl:11=c':=by simpa using hp);simp only [gA,gB,gC,gD] at ho;subst ho;obtain ⟨u0,u1,rfl⟩:=qEo hl;obtain ⟨A9,c9,hu9⟩:=qFb ((hJ.e2 rfl).elim fun w h=>h.2.2.2);obtain rfl:u1 = .slice A9 _ c9:=hu9;have e163:=hF.pure 10 163 (.pointer (some ⟨gF,(zo+j)*5+2,none⟩)) rfl rfl rfl rfl;have e161:=hF.link 1 8 161 _ rfl rfl rfl rfl;have hcl:w'.cell? ⟨gF,(zo+j)*5+2,none⟩=some (xh.slot false):=(qBf.cell_kb HTy.out ((hJ.only (by simp)).kb _ (by decide)) _).trans HSl.out;have hfr:=(HTy.out.kb ((hJ.only (by simp)).kb _ (by decide))).frozen ((zo+j)*5+2);have HK:=gH (hk undef _ hJ.store);simp only [Act.eval] at e163 e161;clear hk hF hJ;go_simp;exact HK.out
             | p+3,hp=>simp at hp
           intro us w18 hl hJ;obtain ⟨q0,q1,q2,rfl⟩:=qHg hl
           first | (rename_i hK;refine hK _ _ ?_;clear hK) | (rename_i hK hK_1;refine hK _ _ ?_;clear hK) | (rename_i hK hK_1 hK_2;refine hK _ _ ?_;clear hK) | (rename_i hK hK_1 hK_2 hK_3;refine hK _ _ ?_;clear hK)
           generalize hL:qDx _ _ _ _=L;obtain rfl:L=[(153,.pointer (some ⟨gF,(zo+j)*5,none⟩)),(154,.pointer (some ⟨gF,(zo+j)*5,none⟩)),(155,.pointer (some ⟨gF,(zo+j)*5,none⟩)),(156,.pointer (some ⟨gF,(zo+j)*5+2,none⟩)),(157,xh.slot false),(158,.pointer (some ⟨gx,0,none⟩)),(159,.int .i64 L1),(160,q0),(161,q1),(162,.pointer (some ⟨gF,(zo+j)*5,none⟩)),(163,.pointer (some ⟨gF,(zo+j)*5+2,none⟩))]:=hL.symm.trans (by kernel_rfl);clear hL hl;simp only [Act.put,List.foldl_cons,List.foldl_nil,List.setIfInBounds_toArray,List.set_cons_zero,List.set_cons_succ];obtain ⟨w18a,w18b,hx18,hg18,hl18,ho18,hw18⟩:=hJ.e3 rfl;have HM18:=gH (MnF.note (x:=xh) (f:=f) (b:=false) (y:=L1) (i:=zo+j) HM17.out hwJ2 rfl HTy.out hLg HG.out hx18 hg18 (HCl.out false w18a w18b q1 L1 hx18 hg18 ho18 hl18));(have hNt:∀ T,T≠2→T≠67→KB T w17 (w18b.setCell ⟨gF,(zo+j)*5+2,none⟩ q1):=fun T h1 h2=>(KB.ext hx18).trans (((Only.grown hg18 (qAj (qAh HOi.out hx18))).kb T h1).trans (KB.set ((HTy.out.ext hx18).kb ((Only.grown hg18 (qAj (qAh HOi.out hx18))).kb _ (by decide))) h2)));have hw18':w18=w18b.setCell ⟨gF,(zo+j)*5+2,none⟩ q1:=hw18;rw [← hw18'] at hNt
           (replace HM18:Hid (MnF w wJ g11 (.slice (some ⟨gF,0,none⟩) nF cF) uu1 e lg mR (fun q=>(Value.slice (some ⟨gCz,0,none⟩) em' ec').ownBlock=some q) (.slice A5 (s.evs.length+1) c5) L1 ⟨s.evs++[y.as L1 ⟨lo,hi⟩],s.fats.modify (zo+j) fun f=>f.push false L1⟩ w18):=by show MnF _ _ _ _ _ _ _ _ _ _ _ _ _;rw [hw18'];exact HM18.out);have HC18:=gH (HC17.out.kb (hNt _ (by decide) (by decide)) (hNt _ (by decide) (by decide)) (hNt _ (by decide) (by decide)));have HBy18:=gH (HBy17.out.kb (hNt _ (by decide) (by decide)));have HBs18:=gH (HBs17.out.kb (hNt _ (by decide) (by decide)));have HB18:=gH (HB17.out.kb (hNt _ (by decide) (by decide)));clear hw18 hw18' hx18 hg18 hl18 ho18 hJ hNt HOi HSl HTy HCl HG HM17 HC17 HBy17 HBs17 HB17;have HCs2:Hid (qCr r least zo (x.doc.evs.take (j+1)) s0=⟨s.evs++[y.as L1 ⟨lo,hi⟩],s.fats.modify (zo+j) fun f=>f.note L1 (decide (hi-lo<least))⟩):=HCs.out;(have HLen:Hid (((s.evs++[y.as L1 ⟨lo,hi⟩]).length:Int)=L1):=by show _=_;rw [HL1.out];simp);have s0c:=HBs18.out.cell 0;have s1c:=HBs18.out.cell 1;simp only [gA,gB,gC] at s0c s1c
           by_cases hsh:hi-lo<least
           case neg =>
            have hdc:decide (hi-lo<least)=false:=decide_eq_false hsh;(have HMn:Hid ((s.fats.modify (zo+j) fun f=>f.note L1 (decide (hi-lo<least)))=s.fats.modify (zo+j) fun f=>f.push false L1):=by show _=_;rw [qHp,hdc];rfl);clear hsh;go_wp2_with fail;exact ⟨⟨j+1,by omega,by go_num,⟨_,by rw [← HZo.out,HCs2.out,HMn.out];dsimp only;rw [HLen.out];exact HM18.out⟩,HC18.out,HB18.out⟩,by simp [intOf];omega⟩
           have hdc:decide (hi-lo<least)=true:=decide_eq_true hsh;(have HMn:Hid ((s.fats.modify (zo+j) fun f=>f.note L1 (decide (hi-lo<least)))=(s.fats.modify (zo+j) fun f=>f.push false L1).modify (zo+j) fun f=>f.push true L1):=by show _=_;rw [qHp,hdc];rfl);(have HFx2:Hid ((s.fats.modify (zo+j) fun f=>f.push false L1)[zo+j]?=some (f.push false L1)):=by show _=_;rw [List.getElem?_modify,HFx.out];simp);obtain ⟨f2,hf2⟩:∃ f2,f2=f.push false L1:=⟨_,rfl⟩;rw [← hf2] at HFx2;(have HF2:Hid (f2.slot true=f.slot true):=by show _=_;rw [hf2];rfl);clear hsh hf2;(have hbd2:(f2.slot true).length≤26000:=by rw [HF2.out];exact Nat.le_trans (HPL.out f (List.mem_of_getElem? HFx.out)).2 hsl1);obtain ⟨xh2,hG2,hLg2,hTy2,hcs2,hcl2⟩:=qBa.at_ rfl HM18.out.fats HFx2.out;have HG2:=gH hG2;have HTy2:=gH hTy2;have HCl2:=gH hcl2;have HOi2:=gH (hG2.row true);have HSl2:Hid (w18.cell? ⟨gF,(zo+j)*5+4,none⟩=some (xh2.slot true)):=hcs2 4 _ rfl;have hwk2:=HM18.out.keep.size;clear hG2 hTy2 hcs2 hcl2;go_upto_region 37 with fail
           refine qAy [some 171,some 172,some 173,some 174,some 175,some 176,some 177,some 178,some 179,some 180,some 181,none] [[],[],[1],[2],[3],[],[5],[6],[4,7],[0,0,1,2,3,4,5,6,7,8],[9,0,1,2,3,4,5,6,7,8],[10,8,8,0,1,2,3,4,5,6,7,8]] [7,8,11] [.pointer (some ⟨gF,(zo+j)*5,none⟩),.pointer (some ⟨gF,(zo+j)*5,none⟩),.pointer (some ⟨gF,(zo+j)*5,none⟩),.pointer (some ⟨gF,(zo+j)*5+4,none⟩),xh2.slot true,.pointer (some ⟨gx,0,none⟩),.int .i64 L1,undef,undef,.pointer (some ⟨gF,(zo+j)*5,none⟩),.pointer (some ⟨gF,(zo+j)*5+4,none⟩),undef] (NtJ wJ.heap.size (xh2.slot true) (f2.slot true).length ((f2.slot true).flatMap intV) L1 ⟨gF,(zo+j)*5+4,none⟩ w18) (by kernel_rfl) (by kernel_rfl) (by kernel_rfl) (by kernel_rfl) (by kernel_rfl) (by kernel_rfl) (by kernel_rfl) (by decide) ?_ ?_ ?_ ?_
           · exact NtJ.start w18
           · intro i o ho hc a w' us K' hJ hF hlim hk
             match i,ho with
             | 0,ho | 1,ho =>
              simp only [gA,gB,gC,gD] at ho;subst ho;have e28:=hF.old 28 (.pointer (some ⟨gF,(zo+j)*5,none⟩)) rfl rfl;simp only [Act.eval] at e28;clear hF hlim hJ;go_simp;exact hk
             | 2,ho =>
              simp only [gA,gB,gC,gD] at ho;subst ho;have e172:=hF.pure 1 172 (.pointer (some ⟨gF,(zo+j)*5,none⟩)) rfl rfl rfl rfl;simp only [Act.eval] at e172;clear hF hlim hJ;go_simp;exact hk
             | 3,ho =>
              simp only [gA,gB,gC,gD] at ho;subst ho;have e173:=hF.pure 2 173 (.pointer (some ⟨gF,(zo+j)*5,none⟩)) rfl rfl rfl rfl;simp only [Act.eval] at e173;clear hF hlim hJ;go_simp;exact hk
             | 4,ho =>
              simp only [gA,gB,gC,gD] at ho;subst ho;have e174:=hF.pure 3 174 (.pointer (some ⟨gF,(zo+j)*5+4,none⟩)) rfl rfl rfl rfl;have hcl:w'.cell? ⟨gF,(zo+j)*5+4,none⟩=some (xh2.slot true):=(qBf.cell_kb HTy2.out ((hJ.only (Nat.le_trans (hlim 1 8 rfl rfl) (by decide))).kb _ (by decide)) _).trans HSl2.out;simp only [Act.eval] at e174;clear hF hlim hJ;go_simp;exact hk
             | 5,ho =>
              simp only [gA,gB,gC,gD] at ho;subst ho;have e25:=hF.old 25 (.pointer (some ⟨gx,0,none⟩)) rfl rfl;simp only [Act.eval] at e25;clear hF hlim hJ;go_simp;exact hk
             | 6,ho =>
              simp only [gA,gB,gC,gD] at ho;subst ho;have e176:=hF.pure 5 176 (.pointer (some ⟨gx,0,none⟩)) rfl rfl rfl rfl;have hcl:=(HBy18.out.only (hJ.only (Nat.le_trans (hlim 0 7 rfl rfl) (by decide))) (by decide)).cell 0;simp only [gA,gB,gC] at hcl;simp only [Act.eval] at e176;clear hF hlim hJ;go_simp;exact hk
             | 7,ho | 8,ho=>simp at hc
             | 9,ho =>
              simp only [gA,gB,gC,gD] at ho;subst ho;have e171:=hF.pure 0 171 (.pointer (some ⟨gF,(zo+j)*5,none⟩)) rfl rfl rfl rfl;simp only [Act.eval] at e171;clear hF hlim hJ;go_simp;exact hk
             | 10,ho =>
              simp only [gA,gB,gC,gD] at ho;subst ho;have e180:=hF.pure 9 180 (.pointer (some ⟨gF,(zo+j)*5,none⟩)) rfl rfl rfl rfl;simp only [Act.eval] at e180;clear hF hlim hJ;go_simp;exact hk
             | 11,ho=>simp at hc
             | i+12,ho=>simp at ho
           · intro p c' o hp ho a w' us K' hl hJ hF hk
             match p,hp with
             | 0,hp =>
              (obtain rfl:7=c':=by simpa using hp);simp only [gA,gB,gC,gD] at ho;subst ho;obtain rfl:us=[]:=List.eq_nil_of_length_eq_zero hl;have e177:=hF.pure 6 177 (.int .i64 L1) rfl rfl rfl rfl;have HK:=gH (hk (.slice (some ⟨w'.heap.size,0,none⟩) 1 1) (w'.alloc (.cells #[.int .i64 L1] 2)) hJ.build);simp [Act.eval] at e177;clear hk hF hJ;go_simp;exact HK.out
             | 1,hp =>
              (obtain rfl:8=c':=by simpa using hp);simp only [gA,gB,gC,gD] at ho;subst ho;obtain ⟨u0,rfl⟩:=qEq hl;obtain ⟨hx8,g8,hg8,hB8⟩:=hJ.e1 rfl;obtain rfl:u0 = .slice (some ⟨g8,0,none⟩) 1 1:=hg8;have e175:=hF.pure 4 175 (xh2.slot true) rfl rfl rfl rfl;have e178:=hF.link 0 7 178 _ rfl rfl rfl rfl;exact qJo (.tmp 175) (.tmp 178) 65 rfl qLq Tryz.underlying65 rfl (by decide) (qAh HOi2.out hx8) e175 g8 _ e178 hB8 rfl (by simp [Value.oneCell']) (by omega) (by simp [maxLen];omega) (by have:=hx8.size;omega) (fun v' w9 ho9 hg9 hl9=>hk v' w9 (hJ.app (qAj (qAh HOi2.out hx8)) hg9 hl9 ho9))
             | 2,hp =>
              (obtain rfl:11=c':=by simpa using hp);simp only [gA,gB,gC,gD] at ho;subst ho;obtain ⟨u0,u1,rfl⟩:=qEo hl;obtain ⟨A9,c9,hu9⟩:=qFb ((hJ.e2 rfl).elim fun w h=>h.2.2.2);obtain rfl:u1 = .slice A9 _ c9:=hu9;have e181:=hF.pure 10 181 (.pointer (some ⟨gF,(zo+j)*5+4,none⟩)) rfl rfl rfl rfl;have e179:=hF.link 1 8 179 _ rfl rfl rfl rfl;have hcl:w'.cell? ⟨gF,(zo+j)*5+4,none⟩=some (xh2.slot true):=(qBf.cell_kb HTy2.out ((hJ.only (by simp)).kb _ (by decide)) _).trans HSl2.out;have hfr:=(HTy2.out.kb ((hJ.only (by simp)).kb _ (by decide))).frozen ((zo+j)*5+4);have HK:=gH (hk undef _ hJ.store);simp only [Act.eval] at e181 e179;clear hk hF hJ;go_simp;exact HK.out
             | p+3,hp=>simp at hp
           intro us w19 hl hJ;obtain ⟨r0,r1,r2,rfl⟩:=qHg hl
           first | (rename_i hK;refine hK _ _ ?_;clear hK) | (rename_i hK hK_1;refine hK _ _ ?_;clear hK) | (rename_i hK hK_1 hK_2;refine hK _ _ ?_;clear hK) | (rename_i hK hK_1 hK_2 hK_3;refine hK _ _ ?_;clear hK)
           generalize hL:qDx _ _ _ _=L;obtain rfl:L=[(171,.pointer (some ⟨gF,(zo+j)*5,none⟩)),(172,.pointer (some ⟨gF,(zo+j)*5,none⟩)),(173,.pointer (some ⟨gF,(zo+j)*5,none⟩)),(174,.pointer (some ⟨gF,(zo+j)*5+4,none⟩)),(175,xh2.slot true),(176,.pointer (some ⟨gx,0,none⟩)),(177,.int .i64 L1),(178,r0),(179,r1),(180,.pointer (some ⟨gF,(zo+j)*5,none⟩)),(181,.pointer (some ⟨gF,(zo+j)*5+4,none⟩))]:=hL.symm.trans (by kernel_rfl);clear hL hl;simp only [Act.put,List.foldl_cons,List.foldl_nil,List.setIfInBounds_toArray,List.set_cons_zero,List.set_cons_succ];obtain ⟨w19a,w19b,hx19,hg19,hl19,ho19,hw19⟩:=hJ.e3 rfl;have HM19:=gH (MnF.note (x:=xh2) (f:=f2) (b:=true) (y:=L1) (i:=zo+j) HM18.out hwJ2 rfl HTy2.out hLg2 HG2.out hx19 hg19 (HCl2.out true w19a w19b r1 L1 hx19 hg19 ho19 hl19));(have hNt2:∀ T,T≠2→T≠67→KB T w18 (w19b.setCell ⟨gF,(zo+j)*5+4,none⟩ r1):=fun T h1 h2=>(KB.ext hx19).trans (((Only.grown hg19 (qAj (qAh HOi2.out hx19))).kb T h1).trans (KB.set ((HTy2.out.ext hx19).kb ((Only.grown hg19 (qAj (qAh HOi2.out hx19))).kb _ (by decide))) h2)));have hw19':w19=w19b.setCell ⟨gF,(zo+j)*5+4,none⟩ r1:=hw19;rw [← hw19'] at hNt2
           (replace HM19:Hid (MnF w wJ g11 (.slice (some ⟨gF,0,none⟩) nF cF) uu1 e lg mR (fun q=>(Value.slice (some ⟨gCz,0,none⟩) em' ec').ownBlock=some q) (.slice A5 (s.evs.length+1) c5) L1 ⟨s.evs++[y.as L1 ⟨lo,hi⟩],(s.fats.modify (zo+j) fun f=>f.push false L1).modify (zo+j) fun f=>f.push true L1⟩ w19):=by show MnF _ _ _ _ _ _ _ _ _ _ _ _ _;rw [hw19'];exact HM19.out);have HC19:=gH (HC18.out.kb (hNt2 _ (by decide) (by decide)) (hNt2 _ (by decide) (by decide)) (hNt2 _ (by decide) (by decide)));have HBy19:=gH (HBy18.out.kb (hNt2 _ (by decide) (by decide)));have HBs19:=gH (HBs18.out.kb (hNt2 _ (by decide) (by decide)));have HB19:=gH (HB18.out.kb (hNt2 _ (by decide) (by decide)));clear hw19 hw19' hx19 hg19 hl19 ho19 hJ hNt2 HOi2 HSl2 HTy2 HCl2 HG2 HM18 HC18 HBy18 HBs18 HB18;go_wp2_with fail;exact ⟨⟨j+1,by omega,by go_num,⟨_,by rw [← HZo.out,HCs2.out,HMn.out];dsimp only;rw [HLen.out];exact HM19.out⟩,HC19.out,HB19.out⟩,by simp [intOf];omega⟩
         · have hjm:j=em':=by omega
           subst hjm;(have HT:Hid (qCr r least (offR docs z) (x.doc.evs.take j) s0=qBo docs least ((qAx e.cuts).take (q+1)) ⟨[],qBx e docs⟩):=by show _=_;rw [List.take_of_length_le (by have:=HEm.out;omega)];exact HCt2.out.symm);rw [HT.out] at HMj;go_wp2_with fail;exact ⟨⟨q+1,by omega,by go_num,⟨vD,HMj.out.weaken⟩⟩,by simp [intOf];omega⟩
     · have hqn:q=nj:=by omega
       subst hqn;(have HT:Hid (qBo docs least ((qAx e.cuts).take q) ⟨[],qBx e docs⟩=qId docs e least):=by show _=_;rw [List.take_of_length_le (by have:=HCn.out;omega)];rfl);rw [HT.out] at HM;have HZe:=gH (HM.out.keep.blk HZJ.out HNZ.out);obtain ⟨AE,cE,rfl,-,-,-⟩:=HM.out.evs.at_;obtain ⟨AFt,cFt,hvF,-,-,-⟩:=HM.out.fats.read;injection hvF with hx1 hx2 hx3;obtain ⟨ARg,cRg,hvR,-,-⟩:=qIz HM.out.regs;subst hvR;obtain ⟨sE,hsE⟩:∃ sE,sE=qId docs e least:=⟨_,rfl⟩;rw [← hsE] at HM HC3 hx2;have HsE:=gH hsE;have HNf:=gH hx2;have HNs:=gH hsE;clear hsE hx1 hx2 hx3;have e6:wr.cell? ⟨g11,6,none⟩=some (.slice AE sE.evs.length cE):=HM.out.doc.cell 6;obtain ⟨nE,hnE⟩:∃ nE,nE=sE.evs.length:=⟨_,rfl⟩;rw [← hnE] at e6 HC3;have HNE:=gH hnE
       by_cases h4:400<nE
       · have g1:decide ((nE:Int) > 400)=true:=decide_eq_true (by omega)
         have g2:decide ((400:Int)<nE)=true:=decide_eq_true (by omega);have HR9:=gH (HC3.out.trans (if_pos h4));clear h4 hnE;go_wp2_with (refine qAi rfl 52 (.tmp 6) _ rfl (w.heap.size+1) 52 _ _ (by exact rfl) (by exact rfl) (by exact HZe.out) (by exact rfl) (by exact qBh) (by simp [Value.oneCell']) ?_);exact (fun q=>bodyPost_ret q.1 rfl q.2) (HEnd.out _ _ HM.out.ext HZe.out HR9.out (by decide) _ (by exact rfl) (by exact rfl) (by exact rfl))
       · have g1:decide ((nE:Int) > 400)=false:=decide_eq_false (by omega)
         have g2:decide ((400:Int)<nE)=false:=decide_eq_false (by omega);have HR0:=gH (HC3.out.trans (if_neg h4));(have HN4:Hid (nE≤400):=by show _≤_;omega);(have HDc:Hid (Blk wr g11 52 #[.string e.title,.string lg,.int .u8 e.rate,.bool e.drop,.int .i64 (nE:Int),.slice ARg mR.length cRg,.slice AE nE cE,.slice none 0 0]):=by show Blk _ _ _ _;rw [hnE];exact HM.out.doc);clear h4 hnE;go_wp2_with (first | (refine qAc rfl 52 (.tmp 18) rfl g11 52 _ _ (by exact rfl) (by exact HDc.out) Tryz.underlying52 rfl (by exact qBh) ?_) | (refine qAi rfl 52 (.tmp 6) _ rfl (w.heap.size+1) 52 _ _ (by exact rfl) (by exact rfl) (by exact HZe.out) (by exact rfl) (by exact qBh) (by simp [Value.oneCell']) ?_));obtain ⟨hfE,hfF,hfR⟩:=HM.out.final HZe.out #[.string e.title,.string lg,.int .u8 e.rate,.bool e.drop,.int .i64 (nE:Int),.slice ARg mR.length cRg,.slice AE nE cE,.slice none 0 0];obtain ⟨A1,c1,hv1,-,-,hE1⟩:=hfE.at_;injection hv1 with hA1 _ _;subst hA1;obtain ⟨A2,c2,hv2,-,hF2,-⟩:=hfF.read;injection hv2 with hA2 _ _;subst hA2;obtain ⟨A3,c3,hv3,-,hR3⟩:=qIz hfR;injection hv3 with hA3 _ _;subst hA3;refine bodyPost_ret (v:=.tuple #[.agg #[.string e.title,.string lg,.int .u8 e.rate,.bool e.drop,.int .i64 (nE:Int),.slice ARg mR.length cRg,.slice AE nE cE,.slice none 0 0],.slice AF nF cF,.int .i64 0]) ?_ rfl ?_
         · exact qGt (P:=Tryz.prog) Tryz.results26 (g:=w.heap.size+1) rfl (by exact HZe.out.put _) Tryz.underlying52 rfl qBh
         · have:=conPost_ok (cRg:=cRg) (cE:=cE) (cF:=cF) HR0.out HsE.out HRf.out HLgE.out hR3 hE1 hF2 HK5.out (by have:=HNE.out;have:=HN4.out;omega) (HM.out.ext.put (by omega) _ _)
           rw [← HNE.out,← HNf.out] at this;exact this
end
end Go.Proofs.YtablhmobekmflaaGreatDoor