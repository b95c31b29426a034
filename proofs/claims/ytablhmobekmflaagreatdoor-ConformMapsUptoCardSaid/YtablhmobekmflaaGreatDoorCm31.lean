/- Texts laid together. -/
import Derived.Test.YtablhmobekmflaaGreatDoorCm27
import Derived.Test.YtablhmobekmflaaGreatDoorCm22
import Derived.Test.YtablhmobekmflaaGreatDoorCm29
import Derived.Test.YtablhmobekmflaaGreatDoorCm30
set_option linter.unusedVariables false
set_option linter.unusedSimpArgs false
set_option maxRecDepth 100000
namespace Go.Proofs.YtablhmobekmflaaGreatDoor
section
open Go.RowKit Go.Maps
structure OrJ (al:Nat) (s:ByteArray) (cs:Array Value) (W:World) (us:List Value) (gs:Nat→Option Nat) (w':World):Prop where
 ext:Ext W w'
 blk:∀ g,gs al=some g→W.heap.size≤g∧Blk w' g 52 (if us.length≤2 then qAu else cs)
 str:∀ u,us[0]?=some u→u = .string s
 agg:∀ u,us[1]?=some u→u = .agg cs
section
variable {al:Nat} {s:ByteArray} {cs:Array Value} {W w' w2:World} {us:List Value} {gs:Nat→Option Nat} {u0 u1:Value}
theorem OrJ.start (W:World):OrJ al s cs W [] (fun _=>none) W.drew :=
 ⟨(Ext.refl W).drew,fun g h=>(by have h2:(none:Option Nat)=some g:=h;exact absurd h2 (by simp)),fun u h=>by simp at h,fun u h=>by simp at h⟩
theorem OrJ.alloc (j:OrJ al s cs W us gs w') (hl:us.length≤2):OrJ al s cs W us (upd gs al w'.heap.size) (w'.alloc (.cells qAu 52)):=by
 refine ⟨j.ext.alloc _,fun g hg=>?_,j.str,j.agg⟩;rw [qGo] at hg
 cases hg
 exact ⟨j.ext.size,by rw [if_pos hl];exact Blk.new _ _ _⟩
theorem OrJ.c0 (j:OrJ al s cs W [] gs w') (hx:Ext w' w2):OrJ al s cs W ([]++[.string s]) gs w2 :=
 ⟨j.ext.trans hx,fun g hg=>⟨(j.blk g hg).1,(j.blk g hg).2.ext hx⟩,fun u hu=>by simpa using hu.symm,fun u hu=>by simp at hu⟩
theorem OrJ.c1 (j:OrJ al s cs W [u0] gs w'):OrJ al s cs W ([u0]++[.agg cs]) gs w' :=
 ⟨j.ext,fun g hg=>⟨(j.blk g hg).1,(j.blk g hg).2⟩,fun u hu=>j.str u (by simpa using hu),fun u hu=>by simpa using hu.symm⟩
theorem OrJ.c2 {g:Nat} {v:Value} (j:OrJ al s cs W [u0,u1] gs w') (hg:gs al=some g):OrJ al s cs W ([u0,u1]++[v]) gs (putB w' g 52 cs):=by
 refine ⟨j.ext.put (j.blk g hg).1 _ _,fun g' hg'=>?_,fun u hu=>j.str u (by simpa using hu),fun u hu=>j.agg u (by simpa using hu)⟩;rw [hg] at hg'
 cases hg'
 exact ⟨(j.blk g hg).1,(j.blk g hg).2.put _⟩
end
structure NcJ (P:World→Prop) (W:World) (us:List Value) (w':World):Prop where
 nil:us=[]→Ext W w'
 one:∀ u,us=[u]→P w'
theorem NcJ.start (P:World→Prop) (W:World):NcJ P W [] W.drew:=⟨fun _=>(Ext.refl W).drew,fun u h=>by simp at h⟩
theorem NcJ.call {P:World→Prop} {W w2:World} {v:Value} (h:P w2):NcJ P W ([]++[v]) w2:=⟨fun h=>by simp at h,fun _ _=>h⟩
theorem wp_call5P {P:Program} {o:Oper} {a:Act} {w:World} {K:Act→World→Prop} {Q:Exit→Act→World→Prop} {f:FuncId} {x0 x1 x2 x3 x4:Operand} {ts:Array TypeId} {v0 v1 v2 v3 v4:Value} (ho:o.op = .call { callee:=.value (.func f),args:=#[x0,x1,x2,x3,x4],argTypes:=ts }) (h0:a.eval x0=v0) (h1:a.eval x1=v1) (h2:a.eval x2=v2) (h3:a.eval x3=v3) (h4:a.eval x4=v4)
 (hent:∀ args w,(callFunc f args).run P w = .ok (.enter f args) w) {R:Ending→World→Prop} (hc:Calls P f #[v0,v1,v2,v3,v4] w R) (h:∀ en w',R en w'→∃ r,en = .returned r∧K (a.put o.dst r) w'):o.wp P a w K Q:=by
 have h6:Calls P f #[v0,v1,v2,v3,v4] w (fun
  | .returned u,w''=>K (a.put o.dst u) w''
  | .panicked chain,w''=>Q (.panic chain) a w''
  | .outgrown,_=>LetsOut Q):=hc.mono fun en w' hr=>by
  obtain ⟨u,rfl,hk⟩:=h en w' hr;exact hk
 unfold Oper.wp execOp;simp only [ho];have hev:a.eval (.func f) = .func (.func f) #[] #[]:=rfl;simp [resolve,invoke,hev,h0,h1,h2,h3,h4,hent,Sem.run_bind,Deferred.ofValue];exact h6
theorem E2K.keep {R:Nat→Prop} {C:Nat} {cs1 cs2:Array Value} {w0 W w':World} {us:List Value} (h:E2K C cs1 cs2 W us w') (hl:us.length≤1) (k:Keep R w0 W) (hC:R C):Keep R w0 w':=by
 match us,h,hl with
 | [],h,_=>exact k.ext (h.nil rfl)
 | [u],h,_ =>
  obtain ⟨w5,hx,rfl⟩:=h.one u rfl;exact (k.ext hx).put (.inl hC)
 | u :: v :: us,_,hl=>simp at hl
theorem qBa.low {w:World} {L L' L2:Nat} {v:Value} {l:List Fat} (h:qBa w L L2 v l) (hl:L'≤L):qBa w L' L2 v l:=by
 obtain ⟨hs,h1,h2⟩:=h;exact ⟨hs,qLc h1 hl,h2⟩
theorem qBd.low {w:World} {A:Option Addr} {n:Nat} {l:List Cut} (h:qBd w A n l) (hn:0<n):∀ ad,A=some ad→ad.block<w.heap.size:=by
 obtain ⟨b,off,hA,hC⟩:=h.2 hn;intro ad had;rw [hA] at had
 cases had
 (have hl:0<l.length:=by rw [h.1];exact hn);exact World.block_lt_of_cell? w _ (hC 0 l[0] (List.getElem?_eq_getElem hl) 0 _ rfl)
def Rn2Rel (w wJ:World) (gDz:Nat) (uF ur:Value) (e:Edl) (lg:ByteArray) (mR:List Reg) (c:Cut) (least:Int) (off:Nat) (evs:List Ev) (s0:qCv) (gc gp n:Nat) (pc:Array Value) (i:Value) (wr:World):Prop :=
 ∃ j:Nat,j≤n∧i = .int .i64 j∧MnSt w wJ gDz uF ur e lg mR (fun _=>False) (qCr c least off (evs.take j) s0) wr∧Blk wr gc 91 c.cells∧Blk wr gp 95 pc
theorem conEvs_note {docs:List RDoc} {c:Cut} {least:Int} {z j:Nat} {x:RDoc} {y:Ev} {l:List Ev} {s0 s:qCv} {p:Spn} (hz:docs[z]?=some x) (hy:x.doc.evs[j]?=some y) (hr:x.reel=c.reel) (hn:(qMj docs).Nodup) (hs:s.fats.map Fat.key=qMj docs) (hp:partE c y=some p) :
 qDn c least (offR docs z+j) y s=⟨s.evs++[y.as ((s.evs.length:Int)+1) p],qDv c.reel y.id ((s.evs.length:Int)+1) (decide (p.out-p.inn<least)) s.fats⟩:=by
 unfold qDn;rw [hp];simp only;rw [note_modify (i:=offR docs z+j) (by rw [hs];exact hn) (by rw [hs,keys_at hz hy,hr])]
theorem qNd (docs:List RDoc) (least:Int):∀ (l:List Cut) (s:qCv),(qBo docs least l s).fats.map Fat.key=s.fats.map Fat.key
 | [],_=>rfl
 | c :: l,s=>(qNd docs least l _).trans (conCut_keys docs least s c)
set_option maxHeartbeats 40000000 in
theorem RConform_any (docs:List RDoc) (A:Option Addr) (n c:Nat) (e:Edl) (B:Option Addr) (m d:Nat) (least:Int) (w:World) (hE:Env w) (hl:qCw w A n docs) (he:qBd w B m e.cuts) (hm:m≤1000000) (hok:qJr e) (hn:n≤1000000) (hf:qJb docs) :
 Calls Tryz.prog 37 #[.slice A n c,.agg (e.cells B m d),.int .i64 least] w (qFv docs e least w):=by
 have HL:=gH hl;have HLn:=gH hl.len;have HX:=gH (((Ext.refl w).alloc (.cells (e.cells B m d) 25)).alloc (.cells qAu 52));have HB:=gH ((Blk.new w 25 (e.cells B m d)).alloc (.cells qAu 52));have HZ:=gH (Blk.new' (w:=w.alloc (.cells (e.cells B m d) 25)) (g:=w.heap.size+1) (t:=52) (cs:=qAu) (by simp));have HCk:=gH (fun w' (hx:Ext w w')=>RConCheck_any docs A n c e B m d w' (hE.ext hx) (hl.ext hx) (he.ext hx) hm hok hn hf);have HJn:=gH (fun w' (hx:Ext w w')=>RJoinF_any e B m d w' (he.ext hx) hm hok);have HFt:=gH (fun w' (hx:Ext w w') (h16:n≤16) (h0:qAn e=0) (hd:∀ x∈docs,x.doc.err=0)=>RFates_any docs A n c e B m d w' (hE.ext hx) (hl.ext hx) (he.ext hx) hm hok h16 h0 hd);have HLg:=gH (fun w' (hx:Ext w w')=>RLang_any A n c docs w' (hl.ext hx) hn);have HRg:=gH (fun w' (hx:Ext w w') (h16:n≤16) (hr:∀ d∈docs,d.doc.regs.length≤16)=>qMz A n c docs w' (hl.ext hx) h16 hr);have HIx:=gH (fun s w' (hx:Ext w w')=>RPlace46_any A n c docs s w' (hl.ext hx) hn);have HCE:Hid (conE docs e least=if qCj docs e≠0 then qCj docs e else if least<0 then 2 else if 400<(qId docs e least).evs.length then 9 else 0):=rfl;clear hl he hok hE hf;unfold Edl.cells at *
 have END:∀ (w9:World) (x:Int),Ext w w9→Blk w9 (w.heap.size+1) 52 qAu→conE docs e least=x→x≠0→∀ (tmps:Array Value),tmps.getD 6 undef = .pointer (some ⟨w.heap.size+1,0,none⟩)→tmps.getD 7 undef = .slice none 0 0→tmps.getD 8 undef = .int .i64 x →
  (results Tryz.f37 tmps).run Tryz.prog (putB w9 (w.heap.size+1) 52 qAu) = .ok (.tuple #[.agg qAu,.slice none 0 0,.int .i64 x]) (putB w9 (w.heap.size+1) 52 qAu) ∧
   qFv docs e least w (.returned (.tuple #[.agg qAu,.slice none 0 0,.int .i64 x])) (putB w9 (w.heap.size+1) 52 qAu):=fun w9 x hx hz he h0 tmps h6 h7 h8=>by
  refine ⟨?_,qOa he h0 (hx.put (by omega) _ _)⟩;have:=qGt (P:=Tryz.prog) Tryz.results37 (tmps:=tmps) (w:=putB w9 (w.heap.size+1) 52 qAu) (g:=w.heap.size+1) h6 (hz.put _) Tryz.underlying52 rfl qBh;rw [this,h7,h8]
 have HEnd:=gH END;clear END;unfold qAu at HX HB HZ;go_enter Tryz.func37,Tryz.ntmps37;go_wp2_with (refine qAc rfl 25 (.tmp 4) rfl w.heap.size 25 _ _ (by exact rfl) (by exact HB.out) Tryz.underlying25 rfl (by exact qBl) ?_);refine (HCk.out _ HX.out).mono ?_;rintro en w1 ⟨rfl,hx1⟩;have HX1:=gH (HX.out.trans hx1);have HB1:=gH (HB.out.ext hx1);have HZ1:=gH (HZ.out.ext hx1);clear hx1 HX HB HZ HCk
 by_cases h0:qCj docs e=0
 case neg =>
  (have hne:(qCj docs e != 0)=true:=by simpa using h0);have HH:=gH h0;have HR:=gH (HCE.out.trans (if_pos h0));clear h0;go_wp2_with (refine qAi rfl 52 (.tmp 6) _ rfl (w.heap.size+1) 52 _ _ (by exact rfl) (by exact rfl) (by exact HZ1.out) (by exact rfl) (by exact qBh) (by simp [Value.oneCell']) ?_);exact (fun q=>bodyPost_ret q.1 rfl q.2) (HEnd.out _ _ HX1.out HZ1.out HR.out HH.out _ (by exact rfl) (by exact rfl) (by exact rfl))
 rw [h0];have HH:=gH h0;have HC2:=gH (HCE.out.trans (if_neg (by simpa using h0)));clear h0 HCE
 by_cases hle:least<0
 · have g1:decide (least<0)=true:=decide_eq_true hle
   have HR:=gH (HC2.out.trans (if_pos hle));clear hle;go_wp2_with (refine qAi rfl 52 (.tmp 6) _ rfl (w.heap.size+1) 52 _ _ (by exact rfl) (by exact rfl) (by exact HZ1.out) (by exact rfl) (by exact qBh) (by simp [Value.oneCell']) ?_);exact (fun q=>bodyPost_ret q.1 rfl q.2) (HEnd.out _ _ HX1.out HZ1.out HR.out (by decide) _ (by exact rfl) (by exact rfl) (by exact rfl))
 have g1:decide (least<0)=false:=decide_eq_false hle;have HC3:=gH (HC2.out.trans (if_neg hle));clear hle HC2;obtain ⟨k1,k2,k3,mR,k4,k5⟩:=conErr_ok HH.out;(have hn16:n≤16:=by have:=HLn.out;omega);(have HDe:Hid (∀ x∈docs,qBm x.reel=true∧x.doc.err=0):=fun x hx=>⟨(qIr k3 x hx).1,(qIr k3 x hx).2.1⟩);have HKy:=gH (keys_nodup k3);have HE0:=gH k1;have HRf:=gH k4;(have HK5:Hid (mR.length≤16):=by show _≤_;omega);clear k1 k2 k3 k4 k5
 have HJ2:Hid (∀ w' (_:Ext w w'),Calls Tryz.prog 74 #[.agg #[.string e.title,.int .u8 e.rate,.bool e.drop,.slice B m d]] w' fun en w2=>∃ A' n' c',en = .returned (.tuple #[.agg #[.string e.title,.int .u8 e.rate,.bool e.drop,.slice A' n' c'],.int .i64 0])∧qBd w2 A' n' (qAx e.cuts)∧n'≤c'∧Ext w' w2):=fun w' hx=>by
  refine (HJn.out w' hx).mono ?_;rintro en w2 ⟨A',n',c',rfl,h1,h2,h3,h4⟩;rw [qIv HE0.out] at h1 ⊢;rw [HE0.out];exact ⟨A',n',c',rfl,h1,h2,h3⟩
 have HRgs:Hid (∀ w' (_:Ext w w'),Calls Tryz.prog 52 #[.slice A n c] w' fun en w2=>∃ v,en = .returned (.tuple #[v,.bool true])∧w2.ownsRow w'.heap.size 105 7 v mR.length (mR.flatMap Reg.vals)∧Ext w' w2):=fun w' hx=>by
  refine (HRg.out w' hx hn16 (fun d hd=>qEu (qEp (HDe.out d hd).2).2.1)).mono ?_;rintro en w2 ⟨hx2,h | ⟨v,m',h1,rfl,h2⟩⟩
  · rw [HRf.out] at h;cases h.1
  · rw [HRf.out] at h1
    obtain rfl:=Option.some.inj h1;exact ⟨v,rfl,h2,hx2⟩
 have HFt2:=gH (fun w' (hx:Ext w w')=>HFt.out w' hx hn16 HE0.out (fun x hx=>(HDe.out x hx).2));unfold FtPost at HFt2;clear HJn HRg HFt;go_wp2_with (refine qAc rfl 25 (.tmp 4) rfl w.heap.size 25 _ _ (by exact rfl) (by exact HB1.out) Tryz.underlying25 rfl (by exact qBl) ?_);refine (HJ2.out _ HX1.out).mono ?_;rintro en2 w2 ⟨Aj,nj,cj,rfl,hcu,-,hx2⟩;have HCn:=gH hcu.len;have HX2:=gH ((HX1.out.trans hx2).alloc (.cells #[.string e.title,.int .u8 e.rate,.bool e.drop,.slice Aj nj cj] 25));have HB2:=gH ((HB1.out.ext hx2).alloc (.cells #[.string e.title,.int .u8 e.rate,.bool e.drop,.slice Aj nj cj] 25));have HZ2:=gH ((HZ1.out.ext hx2).alloc (.cells #[.string e.title,.int .u8 e.rate,.bool e.drop,.slice Aj nj cj] 25));have HBj:=gH (Blk.new w2 25 #[.string e.title,.int .u8 e.rate,.bool e.drop,.slice Aj nj cj]);have HCu:=gH (qBd.ext hcu ((Ext.refl w2).alloc (.cells #[.string e.title,.int .u8 e.rate,.bool e.drop,.slice Aj nj cj] 25)));clear hcu hx2 HX1 HB1 HZ1 HJ2 g1;go_upto_region 7 with fail;obtain ⟨gl,hgl⟩:∃ gl,gl=w2.heap.size:=⟨_,rfl⟩;obtain ⟨w3,hw3⟩:∃ w3,w3=w2.alloc (.cells #[.string e.title,.int .u8 e.rate,.bool e.drop,.slice Aj nj cj] 25):=⟨_,rfl⟩;rw [← hgl] at HBj;rw [← hw3] at HX2 HB2 HZ2 HBj HCu ⊢;rw [← hgl];clear hw3 hgl;go_wp2_with (refine qAc rfl 25 (.tmp 4) rfl w.heap.size 25 _ _ (by exact rfl) (by exact HB2.out) Tryz.underlying25 rfl (by exact qBl) ?_);refine (HFt2.out _ HX2.out).mono ?_
 rintro en4 w4 ⟨vF,rfl,hft,hx4⟩;have HX4:=gH (HX2.out.trans hx4);have HB4:=gH (HB2.out.ext hx4);have HZ4:=gH (HZ2.out.ext hx4);have HBj4:=gH (HBj.out.ext hx4);have HCu4:=gH (qBd.ext HCu.out hx4);obtain ⟨AF,cF,hvF,-,-,-⟩:=(hft 0).read;obtain ⟨nF,hnF⟩:∃ nF,nF=(qBx e docs).length:=⟨_,rfl⟩;rw [← hnF] at hvF;subst hvF;have HNF:=gH hnF
 have HFF:Hid (∀ q,(Value.slice AF nF cF).ownBlock=some q→w3.heap.size≤q):=fun q hq=>by
  obtain ⟨xs,hxs⟩:=(hft 0).xs;exact qAp hxs q hq
 have hs23:=HX2.out.size;have hs34:=hx4.size;have HF4:=gH (fun L2=>qBa.low (hft L2) hs23);clear hft hx4 hnF HX2 HB2 HZ2 HBj HFt2;go_wp2_with fail;refine (HRgs.out _ HX4.out).mono ?_;rintro en5 w5 ⟨vR,rfl,hrg,hx5⟩;obtain ⟨ARg,cRg,hvR⟩:=qFb hrg;subst hvR;have HX5:=gH (HX4.out.trans hx5);have HB5:=gH (HB4.out.ext hx5);have HZ5:=gH (HZ4.out.ext hx5);have HBj5:=gH (HBj4.out.ext hx5);have HCu5:=gH (qBd.ext HCu4.out hx5);have HF5:=gH (fun L2=>(HF4.out L2).ext hx5);have HR5:=gH (qLc hrg HX4.out.size);have hs45:=hx5.size;have hs35:w3.heap.size≤w5.heap.size:=Nat.le_trans hs34 hs45;clear hrg hx5 HX4 HB4 HZ4 HBj4 HCu4 HF4 HRgs;have HLg2:=gH (HLg.out);go_upto_region 9 with fail;obtain ⟨lg,hlg⟩:∃ lg,lg=qJs docs:=⟨_,rfl⟩;rw [← hlg] at HLg2;have HLgE:=gH hlg;clear hlg HLg
 refine qFe [some 48,some 49,some 50,some 51,some 52,some 53,some 54,some 55,some 56,some 57,some 15,none] [[],[0],[],[2],[],[4],[],[6],[],[1,3,5,7,8],[],[10,9,3,0,1,2,3,4,5,6,7,8,9,10]] [3,9,11] [10] [.pointer (some ⟨w.heap.size,0,none⟩),.string e.title,.slice A n c,undef,.pointer (some ⟨w.heap.size,1,none⟩),.int .u8 e.rate,.pointer (some ⟨w.heap.size,2,none⟩),.bool e.drop,.slice ARg mR.length cRg,undef,undef,undef] (fun _=>.cells qAu 52) (OrJ 10 lg (qBc e lg 0 (.slice ARg mR.length cRg) (.slice none 0 0)) w5) (by kernel_rfl) (by kernel_rfl) (by kernel_rfl) (by kernel_rfl) (by kernel_rfl) (by kernel_rfl) (by kernel_rfl) (by decide) (by kernel_rfl) ?_ ?_ ?_ ?_ ?_ ?_
 · exact OrJ.start w5
 · intro i o ho ha a w' K' hk
   match i,ho with
   | 0,ho | 1,ho | 2,ho | 3,ho | 4,ho | 5,ho | 6,ho | 7,ho | 8,ho | 9,ho=>simp at ha
   | 10,ho =>
    simp only [gA,gB,gC,gD] at ho;subst ho;exact qKm rfl hk
   | 11,ho=>simp at ha
   | i+12,ho=>simp at ho
 · intro i ha us gs w' hJ hn hlim
   match i,ha with
   | 0,ha | 1,ha | 2,ha | 3,ha | 4,ha | 5,ha | 6,ha | 7,ha | 8,ha | 9,ha=>simp at ha
   | 10,ha=>exact hJ.alloc (by have:=hlim 2 11 rfl rfl;omega)
   | 11,ha=>simp at ha
   | i+12,ha=>simp at ha
 · intro i o ho hc ha a w' us gs K' hJ hF hlim hk
   match i,ho with
   | 0,ho =>
    simp only [gA,gB,gC,gD] at ho;subst ho;have e4:=hF.old 4 (.pointer (some ⟨w.heap.size,0,none⟩)) rfl rfl;simp only [Act.eval] at e4;clear hF hlim hJ;go_simp;exact hk
   | 1,ho =>
    simp only [gA,gB,gC,gD] at ho;subst ho;have e48:=hF.pure 0 48 (.pointer (some ⟨w.heap.size,0,none⟩)) rfl rfl rfl rfl rfl;have hcl:w'.cell? ⟨w.heap.size,0,none⟩=some (.string e.title):=(HB5.out.ext hJ.ext).cell 0;simp only [Act.eval] at e48;clear hF hlim hJ;go_simp;exact hk
   | 2,ho =>
    simp only [gA,gB,gC,gD] at ho;subst ho;have e0:=hF.old 0 (.slice A n c) rfl rfl;simp only [Act.eval] at e0;clear hF hlim hJ;go_simp;exact hk
   | 3,ho=>simp at hc
   | 4,ho =>
    simp only [gA,gB,gC,gD] at ho;subst ho;have e4:=hF.old 4 (.pointer (some ⟨w.heap.size,0,none⟩)) rfl rfl;simp only [Act.eval] at e4;clear hF hlim hJ;go_simp;exact hk
   | 5,ho =>
    simp only [gA,gB,gC,gD] at ho;subst ho;have e52:=hF.pure 4 52 (.pointer (some ⟨w.heap.size,1,none⟩)) rfl rfl rfl rfl rfl;have hcl:w'.cell? ⟨w.heap.size,1,none⟩=some (.int .u8 e.rate):=(HB5.out.ext hJ.ext).cell 1;simp only [Act.eval] at e52;clear hF hlim hJ;go_simp;exact hk
   | 6,ho =>
    simp only [gA,gB,gC,gD] at ho;subst ho;have e4:=hF.old 4 (.pointer (some ⟨w.heap.size,0,none⟩)) rfl rfl;simp only [Act.eval] at e4;clear hF hlim hJ;go_simp;exact hk
   | 7,ho =>
    simp only [gA,gB,gC,gD] at ho;subst ho;have e54:=hF.pure 6 54 (.pointer (some ⟨w.heap.size,2,none⟩)) rfl rfl rfl rfl rfl;have hcl:w'.cell? ⟨w.heap.size,2,none⟩=some (.bool e.drop):=(HB5.out.ext hJ.ext).cell 2;simp only [Act.eval] at e54;clear hF hlim hJ;go_simp;exact hk
   | 8,ho =>
    simp only [gA,gB,gC,gD] at ho;subst ho;have e13:=hF.old 13 (.slice ARg mR.length cRg) rfl rfl;simp only [Act.eval] at e13;clear hF hlim hJ;go_simp;exact hk
   | 9,ho=>simp at hc
   | 10,ho=>simp at ha
   | 11,ho=>simp at hc
   | i+12,ho=>simp at ho
 · intro p c' o hp ho a w' us gs K' hl hJ hF hk
   match p,hp with
   | 0,hp =>
    (obtain rfl:3=c':=by simpa using hp);simp only [gA,gB,gC,gD] at ho;subst ho;obtain rfl:us=[]:=List.eq_nil_of_length_eq_zero hl;have e50:=hF.pure 2 50 (.slice A n c) rfl rfl rfl rfl rfl;exact qDz rfl e50 Tryz.call76 (HLg2.out _ (HX5.out.trans hJ.ext)) (fun en w5 h5=>⟨_,h5.1,hk _ w5 (hJ.c0 h5.2)⟩)
   | 1,hp =>
    (obtain rfl:9=c':=by simpa using hp);simp only [gA,gB,gC,gD] at ho;subst ho;obtain ⟨u0,rfl⟩:=qEq hl;obtain rfl:=hJ.str u0 rfl;have e49:=hF.pure 1 49 (.string e.title) rfl rfl rfl rfl rfl;have e51:=hF.link 0 3 51 _ rfl rfl rfl rfl;have e53:=hF.pure 5 53 (.int .u8 e.rate) rfl rfl rfl rfl rfl;have e55:=hF.pure 7 55 (.bool e.drop) rfl rfl rfl rfl rfl;have e56:=hF.pure 8 56 (.slice ARg mR.length cRg) rfl rfl rfl rfl rfl;have HK:=gH (hk _ _ hJ.c1);unfold qBc at HK;simp [Act.eval] at e49 e51 e53 e55 e56;clear hk hF hJ;go_simp;exact HK.out
   | 2,hp =>
    (obtain rfl:11=c':=by simpa using hp);simp only [gA,gB,gC,gD] at ho;subst ho;obtain ⟨u0,u1,rfl⟩:=qEo hl;obtain rfl:=hJ.agg u1 rfl;obtain ⟨g15,hg15,e15⟩:=hF.ptr 10 15 rfl rfl rfl rfl;have e57:=hF.link 1 9 57 _ rfl rfl rfl rfl;(have hb15:Blk w' g15 52 qAu:=by simpa using (hJ.blk _ hg15).2);exact qKf 52 (.tmp 15) (.tmp 57) rfl g15 52 _ _ e15 e57 (by exact qBh) (by simp [qBc,Value.oneCell']) hb15 rfl (hk undef _ (hJ.c2 hg15))
   | p+3,hp=>simp at hp
 intro us gs w6 hl hgs hJ;obtain ⟨uu0,uu1,uu2,rfl⟩:=qHg hl;obtain ⟨g10,hg10⟩:=Option.isSome_iff_exists.1 (hgs 10 rfl)
 first | (rename_i hK;refine hK _ _ ?_;clear hK) | (rename_i hK hK_1;refine hK _ _ ?_;clear hK) | (rename_i hK hK_1 hK_2;refine hK _ _ ?_;clear hK) | (rename_i hK hK_1 hK_2 hK_3;refine hK _ _ ?_;clear hK)
 generalize hL:frameA _ _ _ _ _ _=L;obtain rfl:L=[(48,.pointer (some ⟨w.heap.size,0,none⟩)),(49,.string e.title),(50,.slice A n c),(51,uu0),(52,.pointer (some ⟨w.heap.size,1,none⟩)),(53,.int .u8 e.rate),(54,.pointer (some ⟨w.heap.size,2,none⟩)),(55,.bool e.drop),(56,.slice ARg mR.length cRg),(57,uu1),(15,.pointer ((gs 10).map fun g=>⟨g,0,none⟩))]:=hL.symm.trans (by kernel_rfl);rw [hg10];clear hL hl;simp only [Act.put,Option.map_some,List.foldl_cons,List.foldl_nil,List.setIfInBounds_toArray,List.set_cons_zero,List.set_cons_succ];(have HDoc:Hid (Blk w6 g10 52 (qBc e lg 0 (.slice ARg mR.length cRg) (.slice none 0 0))):=by show Blk _ _ _ _;simpa using (hJ.blk _ hg10).2);have hgD:=(hJ.blk _ hg10).1;have HX6:=gH (HX5.out.trans hJ.ext);have HZ6:=gH (HZ5.out.ext hJ.ext);have HBj6:=gH (HBj5.out.ext hJ.ext);have HCu6:=gH (qBd.ext HCu5.out hJ.ext);have HF6:=gH (fun L2=>(HF5.out L2).ext hJ.ext);have HR6:=gH (qAh HR5.out hJ.ext);have hwJ2:=HX6.out.size;have hgw:w.heap.size≤g10:=Nat.le_trans HX5.out.size hgD
 have HNj:Hid (0<nj→∀ ad,Aj=some ad→¬ (ad.block=g10∨(Value.slice AF nF cF).ownBlock=some ad.block)):=fun h0 ad had hr=>by
  have h2:=qBd.low HCu.out h0 ad had
  rcases hr with h | h
  · omega
  · have:=HFF.out _ h
    omega
 have HNZ:Hid (¬ (w.heap.size+1=g10∨(Value.slice AF nF cF).ownBlock=some (w.heap.size+1))):=fun hr=>by
  have hz:=HZ5.out.lt
  rcases hr with h | h
  · omega
  · obtain ⟨xs,hxs⟩:=(HF6.out 0).xs
    exact qBf.ne (qAj hxs _ h) HZ6.out.typed (by decide) rfl
 clear hJ hg10 HX5 HB5 HZ5 HBj5 HCu5 HF5 HR5 HLg2;have j3:=HBj6.out.cell 3;simp only [gA,gB,gC] at j3;(have hnj:nj≤64:=by rw [← HCn.out];exact joinC_few HE0.out);have HPc:=gH (joinC_ok HE0.out)
 have HM0:Hid (MnSt w w6 g10 (.slice AF nF cF) (.slice ARg mR.length cRg) e lg mR (fun _=>False) ⟨[],qBx e docs⟩ w6) :=
  ⟨.slice none 0 0,⟨HX6.out,Keep.refl _,HDoc.out,qBv.nil _ _,fun q hq=>by simp [Value.ownBlock] at hq,HF6.out _,HR6.out⟩⟩
 clear HDoc HF6 HR6;go_wp2_with fail;clear j3
 go_loopw [61] (fun i wq=>Mn1Rel w w6 g10 (.slice AF nF cF) (.slice ARg mR.length cRg) e lg mR docs least (qAx e.cuts) ⟨[],qBx e docs⟩ nj i wq) (fun i _=>nj-(intOf i).toNat)
 case atStart=>exact ⟨0,Nat.zero_le _,rfl,HM0.out⟩
 case round =>
  obtain ⟨q,hq,rfl,vE,hM⟩:=hrel;have HM:=gH hM;clear hM
  by_cases hqt:q<nj
  · have hCr:=HM.out.keep.cells HCu6.out (HNj.out (by omega))
    obtain ⟨bj,offj,r,rfl,hrk,d0,d1,d2,d3,d4,d5,d6⟩:=qBd.at7 hCr hqt;have HRk:=gH hrk;have hrm:=List.mem_of_getElem? hrk;have HPr:=gH (HPc.out r hrm);have HBc:=gH (Blk.new wr 91 r.cells);have HM1:=gH (HM.out.step ((Ext.refl wr).alloc (.cells r.cells 91)));clear hCr hrk hrm;unfold Cut.cells at HBc HM1;go_upto_region 13 with fail;obtain ⟨gc,hgc⟩:∃ gc,gc=wr.heap.size:=⟨_,rfl⟩;obtain ⟨w8,hw8⟩:∃ w8,w8=wr.alloc (.cells #[.int .i64 r.num,.string r.reel,.int .i64 r.src,.int .i64 r.inn,.int .i64 r.out,.int .i64 r.n,.int .i64 r.d] 91):=⟨_,rfl⟩;rw [← hgc] at HBc;rw [← hw8] at HBc HM1 ⊢;rw [← hgc];clear hw8 hgc d0 d1 d2 d3 d4 d5 d6 HM;have HIx2:=gH (HIx.out r.reel w8 HM1.out.ext);have r1:=HBc.out.cell 1;simp only [gA,gB,gC] at r1;go_wp2_with fail;refine HIx2.out.mono ?_;rintro en9 w9 ⟨rfl,hx9⟩;have HM9:=gH (HM1.out.step hx9);have HBc9:=gH (HBc.out.ext hx9);clear hx9 HIx2 HM1 HBc r1;have HCt:=gH (qNp (docs:=docs) (least:=least) (s:=⟨[],qBx e docs⟩) HRk.out);have HKs:Hid ((qBo docs least ((qAx e.cuts).take q) ⟨[],qBx e docs⟩).fats.map Fat.key=qMj docs):=(qNd docs least _ _).trans (keys_fats e docs);have hlen:=(qKc (docs:=docs) (fun d hd=>(qEp (HDe.out d hd).2).2.2.1) least ((qAx e.cuts).take q) ⟨[],qBx e docs⟩);rw [List.length_take] at hlen;have hlen1:=hlen.1;have hlen2:=hlen.2;simp only [List.length_nil,Nat.zero_add] at hlen1
    have hlen3:(qBo docs least ((qAx e.cuts).take q) ⟨[],qBx e docs⟩).evs.length≤25600:=Nat.le_trans hlen1 (by omega);clear hlen hlen1;obtain ⟨s0,hs0⟩:∃ s0,s0=qBo docs least ((qAx e.cuts).take q) ⟨[],qBx e docs⟩:=⟨_,rfl⟩;(have HPL0:Hid (PL s0):=by show PL _;rw [hs0];exact PL.cuts (PL.start e docs));rw [← hs0] at HM9 HCt hlen2 hlen3 HKs;have HLe2:=gH hlen2;clear hs0 hlen2;unfold qFi at HCt;have HIxd:Hid (ixD docs r.reel=match qHi docs r.reel with | some k=>(k:Int) | none=>-1):=rfl
    cases hfr:qHi docs r.reel with
    | none =>
     rw [hfr] at HIxd HCt;have HCt2:Hid (qBo docs least ((qAx e.cuts).take (q+1)) ⟨[],qBx e docs⟩=s0):=HCt.out;have HIv:Hid (ixD docs r.reel = -1):=HIxd.out;rw [HIv.out];clear hfr;go_wp2_with fail;exact ⟨⟨q+1,by omega,by go_num,by rw [HCt2.out];exact ⟨vE,HM9.out⟩⟩,by simp [intOf];omega⟩
    | some z =>
     rw [hfr] at HIxd HCt;have HCt2:Hid (qBo docs least ((qAx e.cuts).take (q+1)) ⟨[],qBx e docs⟩=qCr r least (offR docs z) (evsR docs z) s0):=HCt.out;have HIv:Hid (ixD docs r.reel=(z:Int)):=HIxd.out;rw [HIv.out];have hzk:=(List.findIdx?_eq_some_iff_getElem.1 hfr).1;have hzr:∃ x,docs[z]?=some x∧x.reel=r.reel:=findRd_at hfr;(have hzn:z<n:=by have:=HLn.out;omega);obtain ⟨b,off,x,h,hAe,hxz,hat,hsz,c0,c1,c2,c3,c4,c5,c6,c7,c8⟩:=HL.out.at9 hzn
     cases hAe
     obtain ⟨ra,rn,rc,ea,em,ec,ca,cn,cc⟩:=h;have HXz:=gH hxz;have hmem:=List.mem_of_getElem? hxz;obtain ⟨hnm,hde⟩:=HDe.out x hmem;have HOk:=gH (qEp hde);(have hEvs:evsR docs z=x.doc.evs:=by unfold evsR;rw [hxz])
     have HXr:Hid (x.reel=r.reel):=by
      obtain ⟨x',h1,h2⟩:=hzr;rw [hxz] at h1
      cases h1
      exact h2
     rw [hEvs] at HCt2;have HEV:=gH hat.evs;have hem':=hat.evs.len;have hev400:=HOk.out.2.2.1;dsimp only at HEV hem';have HEm:=gH hem';(have hem400:em≤400:=by omega);(have hzi:(0:Int)≤(z:Int):=by omega);(have hzi2:(z:Int)<(n:Int):=by omega);have hzi3:decide ((z:Int)<0)=false:=decide_eq_false (by omega);clear c0 c1 c2 c3 c4 c5 c6 c8 hfr hzk hzr hxz hat hsz hmem hnm hde hEvs hem';(have hcc:=fun o=>HBc9.out.cell o);go_upto_region 16 with fail;clear hcc;have HM10:=gH (HM9.out.step ((Ext.refl w9).alloc (.cells #[.int .i64 r.inn,.int .i64 r.out,.int .i64 r.src,.int .i64 r.n,.int .i64 r.d] 95)));have HBc10:=gH (HBc9.out.alloc (.cells #[.int .i64 r.inn,.int .i64 r.out,.int .i64 r.src,.int .i64 r.n,.int .i64 r.d] 95));have HBp:=gH (Blk.new w9 95 #[.int .i64 r.inn,.int .i64 r.out,.int .i64 r.src,.int .i64 r.n,.int .i64 r.d]);obtain ⟨gp,hgp⟩:∃ gp,gp=w9.heap.size:=⟨_,rfl⟩;obtain ⟨w10,hw10⟩:∃ w10,w10=w9.alloc (.cells #[.int .i64 r.inn,.int .i64 r.out,.int .i64 r.src,.int .i64 r.n,.int .i64 r.d] 95):=⟨_,rfl⟩;rw [← hgp] at HBp;rw [← hw10] at HM10 HBc10 HBp ⊢;rw [← hgp];clear hw10 hgp HM9 HBc9;replace c7:=HM10.out.ext.cell c7;go_wp2_with fail;clear c7
     go_loopw [90] (fun i wq=>Rn2Rel w w6 g10 (.slice AF nF cF) (.slice ARg mR.length cRg) e lg mR r least (offR docs z) x.doc.evs s0 gc gp em #[.int .i64 r.inn,.int .i64 r.out,.int .i64 r.src,.int .i64 r.n,.int .i64 r.d] i wq) (fun i _=>em-(intOf i).toNat)
     case atStart=>exact ⟨0,Nat.zero_le _,rfl,⟨vE,HM10.out⟩,HBc10.out,HBp.out⟩
     case round =>
      obtain ⟨j,hj,rfl,⟨vD,hM⟩,hBc,hBp⟩:=hrel;have HMj:=gH hM;have HBj:=gH hBc;have HPj:=gH hBp;clear hM hBc hBp
      by_cases hjt:j<em
      · obtain ⟨b2,off2,y,A',n',c',hA2,hyk,hya,d0,d1,d2,d3,d4,d5,d6⟩:=(HEV.out.ext HMj.out.ext).at_ev hjt
        subst hA2;have hys:=ev_span ((evs_v HOk.out.2.2.2.1).each y (List.mem_of_getElem? hyk)).1;have HYk:=gH hyk;have HYa:=gH hya;have HCs:=gH (conEvs_take (c:=r) (least:=least) (i:=offR docs z) (s:=s0) hyk);have hsl:=(qJc r least (x.doc.evs.take j) (offR docs z) s0);rw [List.length_take] at hsl;have hsl1:(qCr r least (offR docs z) (x.doc.evs.take j) s0).evs.length≤26000:=Nat.le_trans hsl.1 (by have:=HEm.out;omega);(have HSl2:Hid ((qCr r least (offR docs z) (x.doc.evs.take j) s0).fats.length=nF):=by show _=_;rw [hsl.2,HLe2.out,HNF.out]);have HK2:Hid ((qCr r least (offR docs z) (x.doc.evs.take j) s0).fats.map Fat.key=qMj docs):=(qJz r least _ _ _).trans HKs.out;clear hsl hyk hya;obtain ⟨s,hs⟩:∃ s,s=qCr r least (offR docs z) (x.doc.evs.take j) s0:=⟨_,rfl⟩;(have HPL:Hid (PL s):=by show PL _;rw [hs];exact PL.evs HPL0.out);rw [← hs] at HMj HCs hsl1 HSl2 HK2;clear hs;have HPt:=gH (fun w' (hb:PcsAt w' (some ⟨gp,0,none⟩) 1 [r.pc])=>R6Preimage_any (some ⟨gp,0,none⟩) 1 1 [r.pc] ⟨y.inn,y.out⟩ w' hb (one_map HPr.out) hys.1 hys.2.1 (by unfold maxT;dsimp only;omega));have HPJ:Hid (qDf (preL ⟨y.inn,y.out⟩ [r.pc])=if qAs r.pc y.inn<qAs r.pc y.out then [⟨qAs r.pc y.inn,qAs r.pc y.out⟩] else []):=join_one _;have HPe:Hid (partE r y=if qAs r.pc y.inn<qAs r.pc y.out then some ⟨qAs r.pc y.inn,qAs r.pc y.out⟩ else none):=rfl;have hrb1:=qHj HPr.out y.inn
        have hrb2:=qHj HPr.out y.out;unfold qCf at HPt;rw [HPJ.out] at HPt;clear HPJ;generalize qAs r.pc y.inn=lo at *;generalize qAs r.pc y.out=hi at *;unfold maxT at hrb1 hrb2;have HBy:=gH (Blk.new wr 64 #[.int .i64 y.id,.int .i64 y.inn,.int .i64 y.out,.string y.region,.int .u8 y.kind,.string y.speaker,.slice A' n' c']);have HXy:=gH ((Ext.refl wr).alloc (.cells #[.int .i64 y.id,.int .i64 y.inn,.int .i64 y.out,.string y.region,.int .u8 y.kind,.string y.speaker,.slice A' n' c'] 64));go_upto_region 19 with fail;obtain ⟨gy,hgy⟩:∃ gy,gy=wr.heap.size:=⟨_,rfl⟩;obtain ⟨w11,hw11⟩:∃ w11,w11=wr.alloc (.cells #[.int .i64 y.id,.int .i64 y.inn,.int .i64 y.out,.string y.region,.int .u8 y.kind,.string y.speaker,.slice A' n' c'] 64):=⟨_,rfl⟩;rw [← hgy] at HBy;rw [← hw11] at HBy HXy ⊢;rw [← hgy];have HGy:=gH hgy;clear hw11 hgy d0 d1 d2 d3 d4 d5 d6;have HPa:=gH (Pc.one (p:=r.pc) (HPj.out.ext HXy.out));have y1:=HBy.out.cell 1;have y2:=HBy.out.cell 2;simp only [gA,gB,gC] at y1 y2;go_wp2_with fail;refine (HPt.out _ HPa.out).mono ?_;rintro en12 w12 ⟨As,cs,rfl,hsp,-,hx12,hfs⟩;have HX12:=gH (HXy.out.trans hx12);have HBy2:=gH (HBy.out.ext hx12);have hz11:=HBy.out.lt;clear hx12 y1 y2 HPt HPa
        by_cases hlh:lo<hi
        case neg =>
         rw [if_neg hlh] at HPe hsp ⊢;unfold qDn at HCs;rw [HPe.out] at HCs;clear hlh hsp hfs;simp only [List.length_nil];go_wp2_with fail;exact ⟨⟨j+1,by omega,by go_num,⟨vD,by rw [HCs.out];exact HMj.out.step HX12.out⟩,HBj.out.ext HX12.out,HPj.out.ext HX12.out⟩,by simp [intOf];omega⟩
        rw [if_pos hlh] at HPe hsp ⊢;rw [conEvs_note (p:=⟨lo,hi⟩) (l:=[]) (s0:=s0) HXz.out HYk.out HXr.out HKy.out HK2.out HPe.out] at HCs;obtain ⟨bs,os,sp,hAs,hsp0,hsc⟩:=hsp.at_ (i:=0) (by simp);simp only [List.getElem?_cons_zero,Option.some.injEq] at hsp0;subst hsp0 hAs;(have hlo:w12.cell? ⟨bs,os,none⟩=some (.int .i64 lo):=by simpa using hsc 0 _ rfl);(have hhi:w12.cell? ⟨bs,os+1,none⟩=some (.int .i64 hi):=by simpa using hsc 1 _ rfl);have hbs1:=hfs _ rfl;have hbs2:=World.block_lt_of_cell? w12 _ hlo;have HLo:=gH hlo;have HHi:=gH hhi;dsimp only at hbs1 hbs2;clear hsp hsc hfs hlo hhi HPe;have HCl:=gH (REClone_own y A' n' c' w12 (HYa.out.ext HX12.out));unfold EOwnPost Ev.cells at HCl;simp only [List.length_cons,List.length_nil,Nat.zero_add];go_wp2_with (refine qAc rfl 64 (.tmp 21) rfl gy 64 _ _ (by exact rfl) (by exact HBy2.out) Tryz.underlying64 rfl (by exact qOg) ?_);refine HCl.out.mono ?_;rintro en13 w13a ⟨A2,c2,rfl,hc2,hro,hx13⟩;have hn24:=HYa.out.2.2;have HX13a:=gH (HX12.out.trans hx13);have HX13:=gH (HX13a.out.alloc (.cells #[.int .i64 y.id,.int .i64 y.inn,.int .i64 y.out,.string y.region,.int .u8 y.kind,.string y.speaker,.slice A2 n' c2] 64));have HBx:=gH (Blk.new w13a 64 #[.int .i64 y.id,.int .i64 y.inn,.int .i64 y.out,.string y.region,.int .u8 y.kind,.string y.speaker,.slice A2 n' c2])
        have HBy3:=gH ((HBy2.out.ext hx13).alloc (.cells #[.int .i64 y.id,.int .i64 y.inn,.int .i64 y.out,.string y.region,.int .u8 y.kind,.string y.speaker,.slice A2 n' c2] 64));have hw12s:=hx13.size;have HKp:=gH ((Keep.refl (R:=fun q=>q=g10∨vD.ownBlock=some q∨q=w13a.heap.size) w12).ext (hx13.alloc (.cells #[.int .i64 y.id,.int .i64 y.inn,.int .i64 y.out,.string y.region,.int .u8 y.kind,.string y.speaker,.slice A2 n' c2] 64)));have hmjs:=HMj.out.keep.size;have HG13:Hid (qFg (w13a.alloc (.cells #[.int .i64 y.id,.int .i64 y.inn,.int .i64 y.out,.string y.region,.int .u8 y.kind,.string y.speaker,.slice A2 n' c2] 64)) w6.heap.size (EH.of y A2 n' c2) y):=qFg.ext ⟨rfl,hc2,hn24,(hro.le (by have:=HX12.out.size;omega)).fresh⟩ ((Ext.refl w13a).alloc _);clear hro hc2 hn24 hx13 HCl HBy HBy2;go_upto_region 22 with fail;obtain ⟨gx,hgx⟩:∃ gx,gx=w13a.heap.size:=⟨_,rfl⟩;obtain ⟨w13,hw13⟩:∃ w13,w13=w13a.alloc (.cells #[.int .i64 y.id,.int .i64 y.inn,.int .i64 y.out,.string y.region,.int .u8 y.kind,.string y.speaker,.slice A2 n' c2] 64):=⟨_,rfl⟩;rw [← hgx] at HBx HKp;rw [← hw13] at HX13 HBx HBy3 HG13 HKp ⊢;rw [← hgx];have HGx:=gH hgx;(have hgxs:wr.heap.size<gx:=by have:=HGy.out;omega);clear hw13 hgx;have HM13:=gH (HMj.out.step HX13.out);have HBc13:=gH (HBj.out.ext HX13.out);have HBp13:=gH (HPj.out.ext HX13.out)
        have HNb:Hid (¬ (bs=g10∨vD.ownBlock=some bs∨bs=gx)):=fun hr=>by
         have h1:=HGy.out;have h2:=HMj.out.doc.lt;have h3:=HGx.out
         rcases hr with h | h | h
         · omega
         · have:=(HMj.out.evs.typed bs h).lt;omega
         · omega
        have hl4:w13.cell? ⟨g10,4,none⟩=some (.int .i64 (s.evs.length:Int)):=HM13.out.doc.cell 4;have hf4:=HM13.out.doc.frozen 4;have hset4:w13.setCell ⟨g10,4,none⟩ (.int .i64 ((s.evs.length:Int)+1))=putB w13 g10 52 (qBc e lg ((s.evs.length:Int)+1) (.slice ARg mR.length cRg) vD):=qBb HM13.out.doc 4 (.int .i64 ((s.evs.length:Int)+1));go_upto_region 23 with fail;obtain ⟨L1,hL1⟩:∃ L1,L1=(s.evs.length:Int)+1:=⟨_,rfl⟩;rw [← hL1] at HCs ⊢;have HL1:=gH hL1;obtain ⟨w14,hw14⟩:∃ w14,w14=putB w13 g10 52 (qBc e lg L1 (.slice ARg mR.length cRg) vD):=⟨_,rfl⟩;have HM14:=gH (HM13.out.putDoc hgw L1);have HBx14:=gH (HBx.out.kb (KB.put (cs':=qBc e lg L1 (.slice ARg mR.length cRg) vD) HM13.out.doc (by decide)));have HBy14:=gH (HBy3.out.kb (KB.put (cs':=qBc e lg L1 (.slice ARg mR.length cRg) vD) HM13.out.doc (by decide)));have HB14:=gH (HBc13.out.kb (KB.put (cs':=qBc e lg L1 (.slice ARg mR.length cRg) vD) HM13.out.doc (by decide)));have HP14:=gH (HBp13.out.kb (KB.put (cs':=qBc e lg L1 (.slice ARg mR.length cRg) vD) HM13.out.doc (by decide)));have HG14:=gH (HG13.out.kb (KB.put (cs':=qBc e lg L1 (.slice ARg mR.length cRg) vD) HM13.out.doc (by decide)) (KB.put (cs':=qBc e lg L1 (.slice ARg mR.length cRg) vD) HM13.out.doc (by decide)));have HK14:=gH (HKp.out.put (T:=52) (cs:=qBc e lg L1 (.slice ARg mR.length cRg) vD) (g:=g10) (.inl (.inl rfl)));rw [← hw14] at HM14 HBx14 HBy14 HB14 HP14 HG14 HK14 ⊢
        have HVD:Hid (∀ q,vD.ownBlock=some q→q≠gx):=fun q hq=>by
         have h1:=(HMj.out.evs.typed q hq).lt;omega
        have HVY:Hid (∀ q,vD.ownBlock=some q→q≠gy):=fun q hq=>by
         have h1:=(HMj.out.evs.typed q hq).lt;have h2:=HGy.out;omega
        (have hgyx:gy≠gx:=by have h1:=HGy.out;omega);(have hwgx:w.heap.size≤gx:=by have h1:=HMj.out.ext.size;omega);(have hJgx:w6.heap.size≤gx:=by omega);clear hw14 hL1 hl4 hf4 hset4 HM13 HBy3 HBx HBc13 HBp13 HG13 HKp;refine qAy [some 110,some 111,some 112,some 113,some 114,some 115,none,some 116,none] [[],[0],[],[2],[3],[0,1],[5,1,0,1],[0,1,2,3,4,5,6],[7,4,6,0,1,2,3,4,5,6]] [6,8] [.pointer (some ⟨g10,4,none⟩),.int .i64 L1,.slice (some ⟨bs,os,none⟩) 1 cs,.pointer (some ⟨bs,os,none⟩),.agg #[.int .i64 lo,.int .i64 hi],.pointer (some ⟨gx,0,none⟩),undef,.pointer (some ⟨gx,1,none⟩),undef] (E2K gx #[.int .i64 L1,.int .i64 y.inn,.int .i64 y.out,.string y.region,.int .u8 y.kind,.string y.speaker,.slice A2 n' c2] #[.int .i64 L1,.int .i64 lo,.int .i64 hi,.string y.region,.int .u8 y.kind,.string y.speaker,.slice A2 n' c2] w14) (by kernel_rfl) (by kernel_rfl) (by kernel_rfl) (by kernel_rfl) (by kernel_rfl) (by kernel_rfl) (by kernel_rfl) (by decide) ?_ ?_ ?_ ?_
        · exact E2K.start w14
        · intro i o ho hc a w' us K' hJ hF hlim hk
          match i,ho with
          | 0,ho =>
           simp only [gA,gB,gC,gD] at ho;subst ho;have e15:=hF.old 15 (.pointer (some ⟨g10,0,none⟩)) rfl rfl;simp only [Act.eval] at e15;clear hF hlim hJ;go_simp;exact hk
          | 1,ho =>
           simp only [gA,gB,gC,gD] at ho;subst ho;have e110:=hF.pure 0 110 (.pointer (some ⟨g10,4,none⟩)) rfl rfl rfl rfl;have hcl:w'.cell? ⟨g10,4,none⟩=some (.int .i64 L1):=(HM14.out.doc.only hJ.only (by decide)).cell 4;simp only [Act.eval] at e110;clear hF hlim hJ;go_simp;exact hk
          | 2,ho =>
           simp only [gA,gB,gC,gD] at ho;subst ho;have e22:=hF.old 22 (.slice (some ⟨bs,os,none⟩) 1 cs) rfl rfl;simp only [Act.eval] at e22;clear hF hlim hJ;go_simp;exact hk
          | 3,ho =>
           simp only [gA,gB,gC,gD] at ho;subst ho;have e112:=hF.pure 2 112 (.slice (some ⟨bs,os,none⟩) 1 cs) rfl rfl rfl rfl;simp only [Act.eval] at e112;clear hF hlim hJ;go_simp;exact hk
          | 4,ho =>
           simp only [gA,gB,gC,gD] at ho;subst ho;have e113:=hF.pure 3 113 (.pointer (some ⟨bs,os,none⟩)) rfl rfl rfl rfl;have hcl:w'.cell? ⟨bs,os,none⟩=some (.int .i64 lo):=(E2K.keep hJ (hlim 1 8 rfl rfl) HK14.out (.inr (.inr rfl))).cell HNb.out HLo.out;have hcl2:w'.cell? ⟨bs,os+1,none⟩=some (.int .i64 hi):=(E2K.keep hJ (hlim 1 8 rfl rfl) HK14.out (.inr (.inr rfl))).cell HNb.out HHi.out;simp only [Act.eval] at e113;clear hF hlim hJ;go_simp;exact hk
          | 5,ho =>
           simp only [gA,gB,gC,gD] at ho;subst ho;have e24:=hF.old 24 (.pointer (some ⟨gx,0,none⟩)) rfl rfl;simp only [Act.eval] at e24;clear hF hlim hJ;go_simp;exact hk
          | 6,ho=>simp at hc
          | 7,ho =>
           simp only [gA,gB,gC,gD] at ho;subst ho;have e24:=hF.old 24 (.pointer (some ⟨gx,0,none⟩)) rfl rfl;simp only [Act.eval] at e24;clear hF hlim hJ;go_simp;exact hk
          | 8,ho=>simp at hc
          | i+9,ho=>simp at ho
        · intro p c' o hp ho a w' us K' hl hJ hF hk
          match p,hp with
          | 0,hp =>
           (obtain rfl:6=c':=by simpa using hp);simp only [gA,gB,gC,gD] at ho;subst ho;obtain rfl:us=[]:=List.eq_nil_of_length_eq_zero hl;have e115:=hF.pure 5 115 (.pointer (some ⟨gx,0,none⟩)) rfl rfl rfl rfl;have e111:=hF.pure 1 111 (.int .i64 L1) rfl rfl rfl rfl;have hb8:=HBx14.out.ext (hJ.nil rfl);have hcl:=hb8.cell 0;have hfr:=hb8.frozen 0;have hset:=qBb hb8 0 (.int .i64 L1);simp at hcl hset;have HK:=gH (hk undef _ (hJ.first HBx14.out));simp only [Act.eval] at e115 e111;clear hk hF hJ hb8;go_simp;exact HK.out
          | 1,hp =>
           (obtain rfl:8=c':=by simpa using hp);simp only [gA,gB,gC,gD] at ho;subst ho;obtain ⟨u0,rfl⟩:=qEq hl;obtain ⟨w9,hx9,rfl⟩:=hJ.one u0 rfl;have e116:=hF.pure 7 116 (.pointer (some ⟨gx,1,none⟩)) rfl rfl rfl rfl;have e114:=hF.pure 4 114 (.agg #[.int .i64 lo,.int .i64 hi]) rfl rfl rfl rfl;have hb8:=(HBx14.out.ext hx9).put #[.int .i64 L1,.int .i64 y.inn,.int .i64 y.out,.string y.region,.int .u8 y.kind,.string y.speaker,.slice A2 n' c2];refine wp_store_mid 60 (.tmp 116) (.tmp 114) rfl gx 1 #[.int .i64 lo,.int .i64 hi] e116 e114 (fun j hj=>⟨?_,hb8.frozen _⟩) (by exact qHh) (by simp [Value.oneCell']) ?_
           · have hj2:j<2:=hj
             have hjx:j=0∨j=1:=by omega
             rcases hjx with rfl | rfl
             · rw [hb8.cell];rfl
             · rw [hb8.cell];rfl
           · have hw:World.setCells (putB w9 gx 64 #[.int .i64 L1,.int .i64 y.inn,.int .i64 y.out,.string y.region,.int .u8 y.kind,.string y.speaker,.slice A2 n' c2]) gx 1 [.int .i64 lo,.int .i64 hi]=putB w9 gx 64 #[.int .i64 L1,.int .i64 lo,.int .i64 hi,.string y.region,.int .u8 y.kind,.string y.speaker,.slice A2 n' c2]:=by
              have h1:=qBb hb8 1 (.int .i64 lo);have h2:=qBb (hb8.put #[.int .i64 L1,.int .i64 lo,.int .i64 y.out,.string y.region,.int .u8 y.kind,.string y.speaker,.slice A2 n' c2]) 2 (.int .i64 hi);simp [qHc] at h1 h2;simp only [World.setCells];rw [h1,h2]
             have HK:=hk undef _ (hJ.second HBx14.out);rw [qHc,← hw] at HK;exact HK
          | p+2,hp=>simp at hp
        intro us w15 hl hJ;obtain ⟨p0,p1,rfl⟩:=qEo hl
        first | (rename_i hK;refine hK _ _ ?_;clear hK) | (rename_i hK hK_1;refine hK _ _ ?_;clear hK) | (rename_i hK hK_1 hK_2;refine hK _ _ ?_;clear hK) | (rename_i hK hK_1 hK_2 hK_3;refine hK _ _ ?_;clear hK)
        generalize hL:qDx _ _ _ _=L;obtain rfl:L=[(110,.pointer (some ⟨g10,4,none⟩)),(111,.int .i64 L1),(112,.slice (some ⟨bs,os,none⟩) 1 cs),(113,.pointer (some ⟨bs,os,none⟩)),(114,.agg #[.int .i64 lo,.int .i64 hi]),(115,.pointer (some ⟨gx,0,none⟩)),(116,.pointer (some ⟨gx,1,none⟩))]:=hL.symm.trans (by kernel_rfl);clear hL hl;simp only [Act.put,List.foldl_cons,List.foldl_nil,List.setIfInBounds_toArray,List.set_cons_zero,List.set_cons_succ];obtain ⟨w15a,hx15,hw15⟩:=hJ.two p0 p1 rfl;have HBa:=gH (HBx14.out.ext hx15);have HM15:=gH ((HM14.out.step hx15).poke (cs':=#[.int .i64 L1,.int .i64 lo,.int .i64 hi,.string y.region,.int .u8 y.kind,.string y.speaker,.slice A2 n' c2]) HBa.out hwgx hJgx HVD.out);have HBx15:=gH (HBa.out.put #[.int .i64 L1,.int .i64 lo,.int .i64 hi,.string y.region,.int .u8 y.kind,.string y.speaker,.slice A2 n' c2]);have HBy15:=gH ((HBy14.out.ext hx15).put_other (g':=gx) (t':=64) (fun e=>hgyx e.symm) #[.int .i64 L1,.int .i64 lo,.int .i64 hi,.string y.region,.int .u8 y.kind,.string y.speaker,.slice A2 n' c2]);have HB15:=gH ((HB14.out.ext hx15).kb (KB.put (cs':=#[.int .i64 L1,.int .i64 lo,.int .i64 hi,.string y.region,.int .u8 y.kind,.string y.speaker,.slice A2 n' c2]) HBa.out (by decide)));have HP15:=gH ((HP14.out.ext hx15).kb (KB.put (cs':=#[.int .i64 L1,.int .i64 lo,.int .i64 hi,.string y.region,.int .u8 y.kind,.string y.speaker,.slice A2 n' c2]) HBa.out (by decide)))
        have HG15:=gH (((HG14.out.ext hx15).kb (KB.put (cs':=#[.int .i64 L1,.int .i64 lo,.int .i64 hi,.string y.region,.int .u8 y.kind,.string y.speaker,.slice A2 n' c2]) HBa.out (by decide)) (KB.put (cs':=#[.int .i64 L1,.int .i64 lo,.int .i64 hi,.string y.region,.int .u8 y.kind,.string y.speaker,.slice A2 n' c2]) HBa.out (by decide))).as L1 ⟨lo,hi⟩);have HK15:=gH ((HK14.out.ext hx15).put (T:=64) (cs:=#[.int .i64 L1,.int .i64 lo,.int .i64 hi,.string y.region,.int .u8 y.kind,.string y.speaker,.slice A2 n' c2]) (g:=gx) (.inl (.inr (.inr rfl))));rw [← hw15] at HM15 HBx15 HBy15 HB15 HP15 HG15 HK15;clear hJ hx15 hw15 HBa HM14 HBx14 HBy14 HB14 HP14 HG14 HK14;obtain ⟨xsE,hxsE⟩:=HM15.out.evs.row;have HRw:=gH hxsE;clear hxsE;have hl6:w15.cell? ⟨g10,6,none⟩=some vD:=HM15.out.doc.cell 6;have hJ15:=HM15.out.keep.size
        go_upto_region 25 with (first | (refine qAc rfl 64 (.tmp 24) rfl gx 64 _ _ (by exact rfl) (by exact HBx15.out) Tryz.underlying64 rfl (by exact qOg) ?_) | (at_builtin;refine qBn rfl (.tmp 118) (.tmp 120) 49 rfl info_evC Tryz.underlying49 rfl (by decide) (HRw.out.alloc _) (by exact rfl) w15.heap.size _ (by exact rfl) (by exact Blk.new' rfl) (by exact rfl) (by simp [Value.oneCell']) (by omega) (by simp [maxLen]<;>omega) (by first | omega | (simp;omega) | simp) ?_;intro v5 w16 hown5 hgr5 hloc5;obtain ⟨A5,c5,rfl⟩:=qFb hown5;have hD16:=(HM15.out.doc.alloc (.cells #[.int .i64 L1,.int .i64 lo,.int .i64 hi,.string y.region,.int .u8 y.kind,.string y.speaker,.slice A2 n' c2] 64)).only (Only.grown hgr5 (qAj (HRw.out.alloc _))) (show 52≠64 by decide);have hset6:w16.setCell ⟨g10,6,none⟩ (.slice A5 (s.evs.length+1) c5)=putB w16 g10 52 (qBc e lg L1 (.slice ARg mR.length cRg) (.slice A5 (s.evs.length+1) c5)):=qBb hD16 6 (.slice A5 (s.evs.length+1) c5);have hf6:=hD16.frozen 6;have hc6:w16.cell? ⟨g10,6,none⟩=some vD:=hD16.cell 6));have hE5:qFg (w15.alloc (.cells #[.int .i64 L1,.int .i64 lo,.int .i64 hi,.string y.region,.int .u8 y.kind,.string y.speaker,.slice A2 n' c2] 64)) w6.heap.size (EH.of (y.as L1 ⟨lo,hi⟩) A2 n' c2) (y.as L1 ⟨lo,hi⟩):=HG15.out.ext ((Ext.refl w15).alloc _)
        have HM17:=gH (HM15.out.app (v':=(.slice A5 (s.evs.length+1) c5)) (x:=y.as L1 ⟨lo,hi⟩) hgw hwJ2 ((Ext.refl w15).alloc (.cells #[.int .i64 L1,.int .i64 lo,.int .i64 hi,.string y.region,.int .u8 y.kind,.string y.speaker,.slice A2 n' c2] 64)) hgr5 (fun q hq=>hq.elim) hE5 hloc5 (fun ys hy=>by rw [qLz hy (HRw.out.alloc _)];exact hown5));have HD16:=gH hD16;have HBx16:=gH ((HBx15.out.alloc (.cells #[.int .i64 L1,.int .i64 lo,.int .i64 hi,.string y.region,.int .u8 y.kind,.string y.speaker,.slice A2 n' c2] 64)).awayC hgr5 HVD.out);have HBy16:=gH ((HBy15.out.alloc (.cells #[.int .i64 L1,.int .i64 lo,.int .i64 hi,.string y.region,.int .u8 y.kind,.string y.speaker,.slice A2 n' c2] 64)).awayC hgr5 HVY.out);have HB16:=gH ((HB15.out.alloc (.cells #[.int .i64 L1,.int .i64 lo,.int .i64 hi,.string y.region,.int .u8 y.kind,.string y.speaker,.slice A2 n' c2] 64)).only (Only.grown hgr5 (qAj (HRw.out.alloc _))) (show 91≠64 by decide));have HP16:=gH ((HP15.out.alloc (.cells #[.int .i64 L1,.int .i64 lo,.int .i64 hi,.string y.region,.int .u8 y.kind,.string y.speaker,.slice A2 n' c2] 64)).only (Only.grown hgr5 (qAj (HRw.out.alloc _))) (show 95≠64 by decide));have HK16:=gH ((HK15.out.ext ((Ext.refl w15).alloc (.cells #[.int .i64 L1,.int .i64 lo,.int .i64 hi,.string y.region,.int .u8 y.kind,.string y.speaker,.slice A2 n' c2] 64))).grown hgr5 (fun q hq=>.inl (.inr (.inl hq))))
        obtain ⟨w17,hw17⟩:∃ w17,w17=putB w16 g10 52 (qBc e lg L1 (.slice ARg mR.length cRg) (.slice A5 (s.evs.length+1) c5)):=⟨_,rfl⟩;have HBx17:=gH (HBx16.out.kb (KB.put (cs':=qBc e lg L1 (.slice ARg mR.length cRg) (.slice A5 (s.evs.length+1) c5)) HD16.out (by decide)));have HBy17:=gH (HBy16.out.kb (KB.put (cs':=qBc e lg L1 (.slice ARg mR.length cRg) (.slice A5 (s.evs.length+1) c5)) HD16.out (by decide)));have HB17:=gH (HB16.out.kb (KB.put (cs':=qBc e lg L1 (.slice ARg mR.length cRg) (.slice A5 (s.evs.length+1) c5)) HD16.out (by decide)));have HP17:=gH (HP16.out.kb (KB.put (cs':=qBc e lg L1 (.slice ARg mR.length cRg) (.slice A5 (s.evs.length+1) c5)) HD16.out (by decide)));have HK17:=gH (HK16.out.put (T:=52) (cs:=qBc e lg L1 (.slice ARg mR.length cRg) (.slice A5 (s.evs.length+1) c5)) (g:=g10) (.inl (.inl rfl)));rw [← hw17] at HM17 HBx17 HBy17 HB17 HP17 HK17 ⊢;clear hw17 hown5 hgr5 hloc5 hD16 hset6 hf6 hc6 hE5 hl6 HM15 HBx15 HBy15 HB15 HP15 HG15 HRw HD16 HBx16 HBy16 HB16 HP16 HK15 HK16;have HLo17:=gH (HK17.out.cell HNb.out HLo.out);have HHi17:=gH (HK17.out.cell HNb.out HHi.out)
        have hnf9:nF≤100000:=by
         have h1:=qMv (docs:=docs) (q:=400) (fun d hd=>(qEp (HDe.out d hd).2).2.2.1) docs.length;have h2:=qNu e docs docs.length;rw [List.take_length] at h2;have h3:=HNF.out;have h4:=HLn.out;omega
        have HNt:=gH (fun w' (hx:Ext w17 w')=>RNote_any AF nF cF r.reel y.id L1 (decide (hi-lo<least)) (HM17.out.step hx) hwJ2 HSl2.out hnf9 (fun f hf=>⟨Nat.le_trans (HPL.out f hf).1 (by omega),Nat.le_trans (HPL.out f hf).2 (by omega)⟩));have hwr:IntKind.i64.wrap (hi-lo)=hi-lo:=qCq (by omega) (by omega);clear HLo HHi HK17
        refine qNt [some 123,some 124,some 125,some 126,some 127,some 128,some 129,some 130,some 131,some 132,some 133,some 134,some 135,some 136,some 137,some 138,some 139,some 140,some 141] [[],[],[1],[],[3],[],[5],[],[7],[8],[9],[],[11],[12],[13],[10,14],[],[15,16],[0,2,4,6,17]] [18] [.slice AF nF cF,.pointer (some ⟨gc,1,none⟩),.string r.reel,.pointer (some ⟨gy,0,none⟩),.int .i64 y.id,.pointer (some ⟨gx,0,none⟩),.int .i64 L1,.slice (some ⟨bs,os,none⟩) 1 cs,.pointer (some ⟨bs,os,none⟩),.pointer (some ⟨bs,os+1,none⟩),.int .i64 hi,.slice (some ⟨bs,os,none⟩) 1 cs,.pointer (some ⟨bs,os,none⟩),.pointer (some ⟨bs,os,none⟩),.int .i64 lo,.int .i64 (hi-lo),.int .i64 least,.bool (decide (hi-lo<least)),undef] (NcJ (fun w'=>MnF w w6 g10 (.slice AF nF cF) (.slice ARg mR.length cRg) e lg mR (fun _=>False) (.slice A5 (s.evs.length+1) c5) L1 ⟨s.evs++[y.as L1 ⟨lo,hi⟩],qDv r.reel y.id L1 (decide (hi-lo<least)) s.fats⟩ w'∧∀ T,T≠2→T≠67→KB T w17 w') w17) (by kernel_rfl) (by kernel_rfl) (by kernel_rfl) (by kernel_rfl) (by kernel_rfl) (by kernel_rfl) (by kernel_rfl) (by decide) ?_ ?_ ?_ ?_
        · exact NcJ.start _ w17
        · intro i o ho hc a w' us K' hJ hF hlim hk
          match i,ho with
          | 0,ho =>
           simp only [gA,gB,gC,gD] at ho;subst ho;have e12:=hF.old 12 (.slice AF nF cF) rfl rfl;simp only [Act.eval] at e12;clear hF hlim hJ;go_simp;exact hk
          | 1,ho =>
           simp only [gA,gB,gC,gD] at ho;subst ho;have e17:=hF.old 17 (.pointer (some ⟨gc,0,none⟩)) rfl rfl;simp only [Act.eval] at e17;clear hF hlim hJ;go_simp;exact hk
          | 2,ho =>
           simp only [gA,gB,gC,gD] at ho;subst ho;have e124:=hF.pure 1 124 (.pointer (some ⟨gc,1,none⟩)) rfl rfl rfl rfl;have hxn:Ext w17 w':=hJ.nil (List.eq_nil_of_length_eq_zero (Nat.le_zero.1 (hlim 0 18 rfl (by kernel_rfl))));have hcl:w'.cell? ⟨gc,1,none⟩=some (.string r.reel):=(HB17.out.ext hxn).cell 1;simp only [Act.eval] at e124;clear hF hlim hJ;go_simp;exact hk
          | 3,ho =>
           simp only [gA,gB,gC,gD] at ho;subst ho;have e21:=hF.old 21 (.pointer (some ⟨gy,0,none⟩)) rfl rfl;simp only [Act.eval] at e21;clear hF hlim hJ;go_simp;exact hk
          | 4,ho =>
           simp only [gA,gB,gC,gD] at ho;subst ho;have e126:=hF.pure 3 126 (.pointer (some ⟨gy,0,none⟩)) rfl rfl rfl rfl;have hxn:Ext w17 w':=hJ.nil (List.eq_nil_of_length_eq_zero (Nat.le_zero.1 (hlim 0 18 rfl (by kernel_rfl))));have hcl:w'.cell? ⟨gy,0,none⟩=some (.int .i64 y.id):=(HBy17.out.ext hxn).cell 0;simp only [Act.eval] at e126;clear hF hlim hJ;go_simp;exact hk
          | 5,ho =>
           simp only [gA,gB,gC,gD] at ho;subst ho;have e24:=hF.old 24 (.pointer (some ⟨gx,0,none⟩)) rfl rfl;simp only [Act.eval] at e24;clear hF hlim hJ;go_simp;exact hk
          | 6,ho =>
           simp only [gA,gB,gC,gD] at ho;subst ho;have e128:=hF.pure 5 128 (.pointer (some ⟨gx,0,none⟩)) rfl rfl rfl rfl;have hxn:Ext w17 w':=hJ.nil (List.eq_nil_of_length_eq_zero (Nat.le_zero.1 (hlim 0 18 rfl (by kernel_rfl))));have hcl:w'.cell? ⟨gx,0,none⟩=some (.int .i64 L1):=(HBx17.out.ext hxn).cell 0;simp only [Act.eval] at e128;clear hF hlim hJ;go_simp;exact hk
          | 7,ho =>
           simp only [gA,gB,gC,gD] at ho;subst ho;have e22:=hF.old 22 (.slice (some ⟨bs,os,none⟩) 1 cs) rfl rfl;simp only [Act.eval] at e22;clear hF hlim hJ;go_simp;exact hk
          | 8,ho =>
           simp only [gA,gB,gC,gD] at ho;subst ho;have e130:=hF.pure 7 130 (.slice (some ⟨bs,os,none⟩) 1 cs) rfl rfl rfl rfl;simp only [Act.eval] at e130;clear hF hlim hJ;go_simp;exact hk
          | 9,ho =>
           simp only [gA,gB,gC,gD] at ho;subst ho;have e131:=hF.pure 8 131 (.pointer (some ⟨bs,os,none⟩)) rfl rfl rfl rfl;simp only [Act.eval] at e131;clear hF hlim hJ;go_simp;exact hk
          | 10,ho =>
           simp only [gA,gB,gC,gD] at ho;subst ho;have e132:=hF.pure 9 132 (.pointer (some ⟨bs,os+1,none⟩)) rfl rfl rfl rfl;have hxn:Ext w17 w':=hJ.nil (List.eq_nil_of_length_eq_zero (Nat.le_zero.1 (hlim 0 18 rfl (by kernel_rfl))));have hcl:w'.cell? ⟨bs,os+1,none⟩=some (.int .i64 hi):=hxn.cell HHi17.out;simp only [Act.eval] at e132;clear hF hlim hJ;go_simp;exact hk
          | 11,ho =>
           simp only [gA,gB,gC,gD] at ho;subst ho;have e22:=hF.old 22 (.slice (some ⟨bs,os,none⟩) 1 cs) rfl rfl;simp only [Act.eval] at e22;clear hF hlim hJ;go_simp;exact hk
          | 12,ho =>
           simp only [gA,gB,gC,gD] at ho;subst ho;have e134:=hF.pure 11 134 (.slice (some ⟨bs,os,none⟩) 1 cs) rfl rfl rfl rfl;simp only [Act.eval] at e134;clear hF hlim hJ;go_simp;exact hk
          | 13,ho =>
           simp only [gA,gB,gC,gD] at ho;subst ho;have e135:=hF.pure 12 135 (.pointer (some ⟨bs,os,none⟩)) rfl rfl rfl rfl;simp only [Act.eval] at e135;clear hF hlim hJ;go_simp;exact hk
          | 14,ho =>
           simp only [gA,gB,gC,gD] at ho;subst ho;have e136:=hF.pure 13 136 (.pointer (some ⟨bs,os,none⟩)) rfl rfl rfl rfl;have hxn:Ext w17 w':=hJ.nil (List.eq_nil_of_length_eq_zero (Nat.le_zero.1 (hlim 0 18 rfl (by kernel_rfl))));have hcl:w'.cell? ⟨bs,os,none⟩=some (.int .i64 lo):=hxn.cell HLo17.out;simp only [Act.eval] at e136;clear hF hlim hJ;go_simp;exact hk
          | 15,ho =>
           simp only [gA,gB,gC,gD] at ho;subst ho;have e133:=hF.pure 10 133 (.int .i64 hi) rfl rfl rfl rfl;have e137:=hF.pure 14 137 (.int .i64 lo) rfl rfl rfl rfl;simp only [Act.eval] at e137 e133;clear hF hlim hJ;go_simp;exact hk
          | 16,ho =>
           simp only [gA,gB,gC,gD] at ho;subst ho;have e2:=hF.old 2 (.int .i64 least) rfl rfl;simp only [Act.eval] at e2;clear hF hlim hJ;go_simp;exact hk
          | 17,ho =>
           simp only [gA,gB,gC,gD] at ho;subst ho;have e138:=hF.pure 15 138 (.int .i64 (hi-lo)) rfl rfl rfl rfl;have e139:=hF.pure 16 139 (.int .i64 least) rfl rfl rfl rfl;simp only [Act.eval] at e138 e139;clear hF hlim hJ;go_simp;exact hk
          | 18,ho=>simp at hc
          | i+19,ho=>simp at ho
        · intro p c' o hp ho a w' us K' hl hJ hF hk
          match p,hp with
          | 0,hp =>
           (obtain rfl:18=c':=by simpa using hp);simp only [gA,gB,gC,gD] at ho;subst ho;obtain rfl:us=[]:=List.eq_nil_of_length_eq_zero hl;have e123:=hF.pure 0 123 (.slice AF nF cF) rfl rfl rfl rfl;have e125:=hF.pure 2 125 (.string r.reel) rfl rfl rfl rfl;have e127:=hF.pure 4 127 (.int .i64 y.id) rfl rfl rfl rfl;have e129:=hF.pure 6 129 (.int .i64 L1) rfl rfl rfl rfl;have e140:=hF.pure 17 140 (.bool (decide (hi-lo<least))) rfl rfl rfl rfl;exact wp_call5P rfl e123 e125 e127 e129 e140 Tryz.call80 (HNt.out _ (hJ.nil rfl)) (fun en w5 h5=>⟨_,h5.1,hk _ w5 (NcJ.call ⟨h5.2.1,fun T h1 h2=>(KB.ext (hJ.nil rfl)).trans (h5.2.2 T h1 h2)⟩)⟩)
          | p+1,hp=>simp at hp
        intro us w18 hl hJ;obtain ⟨n0,rfl⟩:=qEq hl
        first | (rename_i hK;refine hK _ _ ?_;clear hK) | (rename_i hK hK_1;refine hK _ _ ?_;clear hK) | (rename_i hK hK_1 hK_2;refine hK _ _ ?_;clear hK) | (rename_i hK hK_1 hK_2 hK_3;refine hK _ _ ?_;clear hK)
        generalize hL:qDx _ _ _ _=L;obtain rfl:L=[(123,.slice AF nF cF),(124,.pointer (some ⟨gc,1,none⟩)),(125,.string r.reel),(126,.pointer (some ⟨gy,0,none⟩)),(127,.int .i64 y.id),(128,.pointer (some ⟨gx,0,none⟩)),(129,.int .i64 L1),(130,.slice (some ⟨bs,os,none⟩) 1 cs),(131,.pointer (some ⟨bs,os,none⟩)),(132,.pointer (some ⟨bs,os+1,none⟩)),(133,.int .i64 hi),(134,.slice (some ⟨bs,os,none⟩) 1 cs),(135,.pointer (some ⟨bs,os,none⟩)),(136,.pointer (some ⟨bs,os,none⟩)),(137,.int .i64 lo),(138,.int .i64 (hi-lo)),(139,.int .i64 least),(140,.bool (decide (hi-lo<least))),(141,n0)]:=hL.symm.trans (by kernel_rfl);clear hL hl;simp only [Act.put,List.foldl_cons,List.foldl_nil,List.setIfInBounds_toArray,List.set_cons_zero,List.set_cons_succ];obtain ⟨hM18,hK18⟩:=hJ.one n0 rfl;have HM18:=gH hM18;have HB18:=gH (HB17.out.kb (hK18 _ (by decide) (by decide)));have HP18:=gH (HP17.out.kb (hK18 _ (by decide) (by decide)));(have HLen:Hid (((s.evs++[y.as L1 ⟨lo,hi⟩]).length:Int)=L1):=by show _=_;rw [HL1.out];simp);clear hM18 hK18 hJ HM17 HBx17 HBy17 HB17 HP17 HNt HLo17 HHi17;go_wp2_with fail;exact ⟨⟨j+1,by omega,by go_num,⟨_,by rw [HCs.out];dsimp only;rw [HLen.out];exact HM18.out⟩,HB18.out,HP18.out⟩,by simp [intOf];omega⟩
      · have hjm:j=em:=by omega
        subst hjm;(have HT:Hid (qCr r least (offR docs z) (x.doc.evs.take j) s0=qBo docs least ((qAx e.cuts).take (q+1)) ⟨[],qBx e docs⟩):=by show _=_;rw [List.take_of_length_le (by have:=HEm.out;omega)];exact HCt2.out.symm);rw [HT.out] at HMj;go_wp2_with fail;exact ⟨⟨q+1,by omega,by go_num,⟨vD,HMj.out⟩⟩,by simp [intOf];omega⟩
  · have hqn:q=nj:=by omega
    subst hqn;(have HT:Hid (qBo docs least ((qAx e.cuts).take q) ⟨[],qBx e docs⟩=qId docs e least):=by show _=_;rw [List.take_of_length_le (by have:=HCn.out;omega)];rfl);rw [HT.out] at HM;have HZe:=gH (HM.out.keep.blk HZ6.out HNZ.out);obtain ⟨AE,cE,rfl,-,-,-⟩:=HM.out.evs.at_;obtain ⟨AFt,cFt,hvF,-,-,-⟩:=HM.out.fats.read;injection hvF with hx1 hx2 hx3;obtain ⟨sE,hsE⟩:∃ sE,sE=qId docs e least:=⟨_,rfl⟩;rw [← hsE] at HM HC3 hx2;have HsE:=gH hsE;have HNf:=gH hx2;clear hsE hx1 hx2 hx3;have e6:wr.cell? ⟨g10,6,none⟩=some (.slice AE sE.evs.length cE):=HM.out.doc.cell 6;obtain ⟨nE,hnE⟩:∃ nE,nE=sE.evs.length:=⟨_,rfl⟩;rw [← hnE] at e6 HC3;have HNE:=gH hnE
    by_cases h4:400<nE
    · have g1:decide ((nE:Int) > 400)=true:=decide_eq_true (by omega)
      have g2:decide ((400:Int)<nE)=true:=decide_eq_true (by omega);have HR9:=gH (HC3.out.trans (if_pos h4));clear h4 hnE;go_wp2_with (refine qAi rfl 52 (.tmp 6) _ rfl (w.heap.size+1) 52 _ _ (by exact rfl) (by exact rfl) (by exact HZe.out) (by exact rfl) (by exact qBh) (by simp [Value.oneCell']) ?_);exact (fun q=>bodyPost_ret q.1 rfl q.2) (HEnd.out _ _ HM.out.ext HZe.out HR9.out (by decide) _ (by exact rfl) (by exact rfl) (by exact rfl))
    · have g1:decide ((nE:Int) > 400)=false:=decide_eq_false (by omega)
      have g2:decide ((400:Int)<nE)=false:=decide_eq_false (by omega);have HR0:=gH (HC3.out.trans (if_neg h4));(have HN4:Hid (nE≤400):=by show _≤_;omega);(have HDc:Hid (Blk wr g10 52 #[.string e.title,.string lg,.int .u8 e.rate,.bool e.drop,.int .i64 (nE:Int),.slice ARg mR.length cRg,.slice AE nE cE,.slice none 0 0]):=by show Blk _ _ _ _;rw [hnE];exact HM.out.doc);clear h4 hnE;go_wp2_with (first | (refine qAc rfl 52 (.tmp 15) rfl g10 52 _ _ (by exact rfl) (by exact HDc.out) Tryz.underlying52 rfl (by exact qBh) ?_) | (refine qAi rfl 52 (.tmp 6) _ rfl (w.heap.size+1) 52 _ _ (by exact rfl) (by exact rfl) (by exact HZe.out) (by exact rfl) (by exact qBh) (by simp [Value.oneCell']) ?_));obtain ⟨hfE,hfF,hfR⟩:=HM.out.final HZe.out #[.string e.title,.string lg,.int .u8 e.rate,.bool e.drop,.int .i64 (nE:Int),.slice ARg mR.length cRg,.slice AE nE cE,.slice none 0 0];obtain ⟨A1,c1,hv1,-,-,hE1⟩:=hfE.at_;injection hv1 with hA1 _ _;subst hA1;obtain ⟨A2,c2,hv2,-,hF2,-⟩:=hfF.read;injection hv2 with hA2 _ _;subst hA2;obtain ⟨A3,c3,hv3,-,hR3⟩:=qIz hfR;injection hv3 with hA3 _ _;subst hA3;refine bodyPost_ret (v:=.tuple #[.agg #[.string e.title,.string lg,.int .u8 e.rate,.bool e.drop,.int .i64 (nE:Int),.slice ARg mR.length cRg,.slice AE nE cE,.slice none 0 0],.slice AF nF cF,.int .i64 0]) ?_ rfl ?_
      · exact qGt (P:=Tryz.prog) Tryz.results37 (g:=w.heap.size+1) rfl (by exact HZe.out.put _) Tryz.underlying52 rfl qBh
      · have:=conPost_ok (cRg:=cRg) (cE:=cE) (cF:=cF) HR0.out HsE.out HRf.out HLgE.out hR3 hE1 hF2 HK5.out (by have:=HNE.out;have:=HN4.out;omega) (HM.out.ext.put (by omega) _ _)
        rw [← HNE.out,← HNf.out] at this;exact this
end
end Go.Proofs.YtablhmobekmflaaGreatDoor