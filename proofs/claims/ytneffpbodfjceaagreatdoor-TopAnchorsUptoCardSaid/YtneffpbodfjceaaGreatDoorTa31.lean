/- Texts laid together. -/
import Derived.Test.YtneffpbodfjceaaGreatDoorTa30
import Derived.OpenShut
import Derived.Deep.DeepWitnessRowRef
set_option linter.unusedVariables false
set_option linter.unusedSimpArgs false
set_option maxRecDepth 100000
set_option maxHeartbeats 16000000
namespace Go.Proofs.YtneffpbodfjceaaGreatDoor
section
open Go.RowKit
structure PutW where
 row:Int
 at_:Int
 text:ByteArray
def PutW.vals (p:PutW):List Value:=[.int .i64 p.row,.int .i64 p.at_,.string p.text]
def zMe (w:World) (A:Option Addr) (n:Nat) (l:List PutW):Prop:=Sl w 3 (Cells PutW.vals) A n l
theorem zIa {d:Doc} (h:qCf d):qCf d.six :=
 ⟨⟨h.ok.r0,h.ok.r1,h.ok.title,h.ok.lang⟩,fun r hr=>h.regs r (List.mem_of_mem_take hr),fun e he=>h.evs e (List.mem_of_mem_take he),fun e he=>h.ids e (List.mem_of_mem_take he),fun c hc=>h.coms c (List.mem_of_mem_take hc)⟩
theorem qKi {d:Doc} (h:d.err=0):d.regs.length<=1000/\d.evs.length<=1000/\d.coms.length<=1000:=by
 have hv:=qXq h;have h1:=hv.en;have h2:=hv.cn;have h3:=hv.regs;unfold qEc at h3
 split at h3
 . omega
 . omega
theorem zAv (n:Int):IntKind.u64.wrap n=n % 18446744073709551616:=by
 unfold IntKind.wrap;simp [IntKind.signed,IntKind.bits]
theorem zGx (row:Int) {n:Nat} (h0:n≠0) (h4:n<=4):∃ j:Nat,wrap64 ((IntKind.u64.wrap row).tmod (n:Int))=j/\j<n:=by
 rw [zAv];have h1:0<=row % 18446744073709551616:=Int.emod_nonneg _ (by decide);rw [Int.tmod_eq_emod_of_nonneg h1];have h2:0<=row % 18446744073709551616 % (n:Int):=Int.emod_nonneg _ (by omega);have h3:row % 18446744073709551616 % (n:Int)<n:=Int.emod_lt_of_pos _ (by omega);refine ⟨(row % 18446744073709551616 % (n:Int)).toNat,?_,by omega⟩;generalize row % 18446744073709551616 % (n:Int)=q at *;unfold wrap64;omega
theorem qOo {r:Row} (h:qCg r=0):r.length<=16:=by
 unfold qCg at h
 split at h
 . rename_i h1;exact absurd h h1
 . rename_i h1
   (have h2:qCu r=0:=by simpa using h1);unfold qCu at h2
   split at h2
   . omega
   . omega
def RepQ (l:Row) (s:ByteArray) (o:Row):Prop:=o=[]\/∃ u v,rch l=u++v/\RQ l (u++(qAo s 0++v)) (qAe l+s.size+qAe l) (l.length+1+l.length) o
def RwJ (r:Row) (s:ByteArray) (p:Addr) (W:World):List Value->World->Prop
 | [],w'=>Ext W w'
 | [u0],w'=>∃ A c,∃ o:Row,u0 = .agg #[.slice A o.length c]/\w'.ownsRow W.heap.size 102 5 (.slice A o.length c) o.length (o.flatMap Run.cells)/\Ext W w'/\RepQ r s o
 | [_,_],w'=>∃ w6 A c,∃ o:Row,w6.ownsRow W.heap.size 102 5 (.slice A o.length c) o.length (o.flatMap Run.cells)/\Ext W w6/\RepQ r s o/\w'=w6.setCell p (.slice A o.length c)
 | _,_=>False
theorem zKz {w:World} {g j:Nat} {v:Value} (h:w.cell? ⟨g,j,none⟩=some v):∀ i u,(#[v]:Array Value)[i]?=some u->w.cell? ⟨g,j+i,none⟩=some u:=fun i u hu=>by
 (have hi:i=0:=by have:=(Array.getElem?_eq_some_iff.1 hu).1;simp at this;omega);subst hi;simp at hu;subst hu;exact h
theorem zIv {P:Program} {op:Oper} {a:Act} {w:World} {Q:Exit->Act->World->Prop} {K:Act->World->Prop} (ty:TypeId) (x:Operand) (ho:op.op = .load ty x) (g off:Nat) (cs:Array Value) (d:TypeDesc) (hx:a.eval x = .pointer (some ⟨g,off,none⟩))
 (hc:∀ j v,cs[j]?=some v->w.cell? ⟨g,off+j,none⟩=some v) (hu:P.underlying ty=some d) (hd:d.isRow=true) (hi:(P.info? ty).map (·.size)=some cs.size) (h:K (a.put op.dst (.agg cs)) w):op.wp P a w K Q:=by
 refine wp_load_mid ty x ho g off hx cs.toList d (fun j v hv=>hc j v (by simpa using hv)) hu hd (by simpa using hi) (by simpa using h)
theorem zIu {P:Program} {a:Act} {w:World} {Q:Exit->Act->World->Prop} {K:Act->World->Prop} {f:FuncId} {x0 x1 x2 x3:Operand} {ts:Array TypeId} {v0 v1 v2 v3:Value} {o:Oper} {R:Ending->World->Prop} (ho:o.op = .call { callee:=.value (.func f),args:=#[x0,x1,x2,x3],argTypes:=ts })
 (h0:a.eval x0=v0) (h1:a.eval x1=v1) (h2:a.eval x2=v2) (h3:a.eval x3=v3) (hcall:∀ args w,(callFunc f args).run P w = .ok (.enter f args) w) (hc:Calls P f #[v0,v1,v2,v3] w R)
 (h:∀ e w',R e w'->∃ v,e = .returned v/\K (a.put o.dst v) w'):o.wp P a w K Q:=by
 have h4:Calls P f #[v0,v1,v2,v3] w (fun
  | .returned u,w''=>K (a.put o.dst u) w''
  | .panicked chain,w''=>Q (.panic chain) a w''
  | .outgrown,_=>LetsOut Q):=hc.mono fun en w' hr=>by
  obtain ⟨u,rfl,hk⟩:=h en w' hr;exact hk
 unfold Oper.wp execOp;simp only [ho];have hev:a.eval (.func f) = .func (.func f) #[] #[]:=rfl;simp [resolve,invoke,hev,h0,h1,h2,h3,hcall,Sem.run_bind,Deferred.ofValue];exact h4
theorem zEk {d:Doc} {ev fr til:Int} {au tx:ByteArray} (h:(d.apNote ev fr til au tx).2=0):d.addErr ev fr til au tx=0/\d.apNote ev fr til au tx=(d.addD ev fr til au tx,0):=by
 unfold Doc.apNote at *
 split at h
 . rename_i h1;exact absurd h h1
 . split at h
   . rename_i h1;exact absurd h h1
   . rename_i h1 h2
     rw [if_neg h1,if_neg h2];have h3:d.addErr ev fr til au tx=0:=h;refine ⟨h3,?_⟩;unfold Doc.added;rw [h3];rfl
def TaRel (w:World) (rm:Array Value) (id ev:Int) (n:Nat) (wasv i:Value) (wr:World):Prop :=
 ∃ (k:Nat) (d:Doc) (h:DocH) (c:Com) (x:Ev),k<=n/\i = .int .i64 k/\Ext w wr/\Blk wr w.heap.size 27 (d.cells h)/\Blk wr (w.heap.size+1) 29 rm/\qAw wr w.heap.size d h/\qCf d/\Anc d id ev c x/\wasv = .string (d.quX id).1
theorem zOi (d:Doc) (h:DocH) (ev fr til:Int) (au tx:ByteArray) (B:Option Addr) (n q:Nat) (l:List PutW) (w:World) (hE:Env w) (hT:TabX w) (hat:qCx w d h) (hf:qCf d) (c1:h.rn<=h.rc) (c2:h.en<=h.ec) (c3:h.cn<=h.cc)
 (hau:au.size<=9223372036854775807) (htx:tx.size<=9223372036854775807) (hl:zMe w B n l) (hpt:∀ p∈l,p.text.size<=1048576/\IW p.row/\IW p.at_) :
 Calls Tryz.prog 3 #[.agg (d.cells h),.agg #[.int .i64 ev,.int .i64 fr,.int .i64 til,.string au,.string tx],.slice B n q] w fun e w'=>e = .returned (.bool true)/\Ext w w':=by
 have HX0:=gH (((Ext.refl w).alloc (.cells (d.cells h) 27)).alloc (.cells #[.int .i64 ev,.int .i64 fr,.int .i64 til,.string au,.string tx] 29));have HB0:=gH ((Blk.new w 27 (d.cells h)).alloc (.cells #[.int .i64 ev,.int .i64 fr,.int .i64 til,.string au,.string tx] 29));have HM0:=gH (Blk.new' (w:=w.alloc (.cells (d.cells h) 27)) (g:=w.heap.size+1) (t:=29) (cs:=#[.int .i64 ev,.int .i64 fr,.int .i64 til,.string au,.string tx]) (by simp));have HAw:=gH (fun w' (hx:Ext w w')=>qVc w' (hE.ext hx) (hT.ext hx));have HSx:=gH (fun w'=>zOv d h w' c1 c2 c3);have HE:=gH hE;have HAt:=gH (qWn hat);have HF:=gH (zIa hf);have HL:=gH hl;have HPt:=gH hpt;have hl1:h.six.rn=d.six.regs.length:=(qWn hat).regs.len.symm;have hl2:h.six.en=d.six.evs.length:=(qWn hat).evs.len.symm;have hl3:h.six.cn=d.six.coms.length:=(qWn hat).coms.len.symm;(have b1:d.six.regs.length<=4:=by show (d.regs.take 4).length<=4;rw [List.length_take];omega);(have b2:d.six.evs.length<=6:=by show (d.evs.take 6).length<=6;rw [List.length_take];omega);(have b3:d.six.coms.length<=4:=by show (d.coms.take 4).length<=4;rw [List.length_take];omega)
 have HNt:Hid (∀ w',Ext w w'->Calls Tryz.prog 6 #[.agg (d.six.cells h.six),.agg (edC 17 ev fr til au tx (.slice none 0 0))] w' (qHk (d.six.apNote ev fr til au tx) w')) :=
  gH (fun w' hx=>zBk d.six h.six ev fr til au tx w' (hE.ext hx) ((qWn hat).ext hx) (zIa hf) (by omega) (by omega) (by omega) (by omega) hau htx)
 have HAu:=gH hau;clear hE hT hat hf c1 c2 c3 hau htx hl hpt hl1 hl2 hl3 b1 b2 b3;obtain ⟨X,hX⟩:∃ X,X=d.six.apNote ev fr til au tx:=⟨_,rfl⟩;rw [← hX] at HNt;have HXX:=gH hX;clear hX;unfold qHk at HNt;unfold edC at HNt;unfold Doc.cells at HSx HNt HB0 HM0 HX0 ⊢;go_enter Tryz.func3,Tryz.ntmps3;go_wp2_with fail;refine (HAw.out _ HX0.out).mono ?_;rintro e w1 ⟨rfl,hx1⟩;have HX1:=gH (HX0.out.trans hx1);have HB1:=gH (HB0.out.ext hx1);have HM1:=gH (HM0.out.ext hx1);clear hx1 HX0 HB0 HM0 HAw;go_wp2_with (refine qAa rfl 27 (.tmp 3) rfl w.heap.size 27 _ _ (by exact rfl) (by exact HB1.out) Tryz.underlying27 rfl (by exact qAb) ?_);refine (HSx.out _).mono ?_;rintro e w2 ⟨rfl,hx2⟩;have HX2:=gH (HX1.out.trans hx2);have HB2:=gH (HB1.out.ext hx2);have HM2:=gH (HM1.out.ext hx2);clear hx2 HX1 HB1 HM1 HSx;have HX3:=gH (HX2.out.put (Nat.le_refl _) 27 #[.string d.six.title,.string d.six.lang,.int .u8 d.six.rate,.bool d.six.drop,.int .i64 d.six.last,.slice h.six.ra h.six.rn h.six.rc,.slice h.six.ea h.six.en h.six.ec,.slice h.six.ca h.six.cn h.six.cc]);have HB3:=gH (HB2.out.put #[.string d.six.title,.string d.six.lang,.int .u8 d.six.rate,.bool d.six.drop,.int .i64 d.six.last,.slice h.six.ra h.six.rn h.six.rc,.slice h.six.ea h.six.en h.six.ec,.slice h.six.ca h.six.cn h.six.cc])
 have HM3:=gH (HM2.out.put_other (g':=w.heap.size) (t':=27) (by omega) #[.string d.six.title,.string d.six.lang,.int .u8 d.six.rate,.bool d.six.drop,.int .i64 d.six.last,.slice h.six.ra h.six.rn h.six.rc,.slice h.six.ea h.six.en h.six.ec,.slice h.six.ca h.six.cn h.six.cc]);(have km:=fun o=>HM3.out.cell o);(go_wp2_with first | (refine qAa rfl 27 (.tmp 3) rfl w.heap.size 27 #[.string d.six.title,.string d.six.lang,.int .u8 d.six.rate,.bool d.six.drop,.int .i64 d.six.last,.slice h.six.ra h.six.rn h.six.rc,.slice h.six.ea h.six.en h.six.ec,.slice h.six.ca h.six.cn h.six.cc] _ (by exact rfl) (by exact HB3.out) Tryz.underlying27 rfl (by exact qAb) ?_) | (refine qAc rfl 27 (.tmp 3) _ rfl w.heap.size 27 _ #[.string d.six.title,.string d.six.lang,.int .u8 d.six.rate,.bool d.six.drop,.int .i64 d.six.last,.slice h.six.ra h.six.rn h.six.rc,.slice h.six.ea h.six.en h.six.ec,.slice h.six.ca h.six.cn h.six.cc] (by exact rfl) (by exact rfl) (by exact HB2.out) (by exact rfl) (by exact qAb) (by simp [Value.oneCell']) ?_));refine (HNt.out _ HX3.out).mono ?_;rintro e w4 ⟨h4,rfl,ho4,hx4⟩;have HX4:=gH (HX3.out.trans hx4);have HB4:=gH (HB3.out.ext hx4);have HM4:=gH (HM3.out.ext hx4);have HO4:=gH (ho4.le HX3.out.size);clear hx4 HX2 HB2 HM2 HX3 HB3 HM3 km HNt ho4
 have HX5:=gH (HX4.out.put (Nat.le_refl _) 27 #[.string X.1.title,.string X.1.lang,.int .u8 X.1.rate,.bool X.1.drop,.int .i64 X.1.last,.slice h4.ra h4.rn h4.rc,.slice h4.ea h4.en h4.ec,.slice h4.ca h4.cn h4.cc]);have HB5:=gH (HB4.out.put #[.string X.1.title,.string X.1.lang,.int .u8 X.1.rate,.bool X.1.drop,.int .i64 X.1.last,.slice h4.ra h4.rn h4.rc,.slice h4.ea h4.en h4.ec,.slice h4.ca h4.cn h4.cc]);have HM5:=gH (HM4.out.put_other (g':=w.heap.size) (t':=27) (by omega) #[.string X.1.title,.string X.1.lang,.int .u8 X.1.rate,.bool X.1.drop,.int .i64 X.1.last,.slice h4.ra h4.rn h4.rc,.slice h4.ea h4.en h4.ec,.slice h4.ca h4.cn h4.cc]);have HO5:=gH (HO4.out.put HB4.out #[.string X.1.title,.string X.1.lang,.int .u8 X.1.rate,.bool X.1.drop,.int .i64 X.1.last,.slice h4.ra h4.rn h4.rc,.slice h4.ea h4.en h4.ec,.slice h4.ca h4.cn h4.cc]);obtain ⟨W5,hW5⟩:∃ W,W=putB w4 w.heap.size 27 #[.string X.1.title,.string X.1.lang,.int .u8 X.1.rate,.bool X.1.drop,.int .i64 X.1.last,.slice h4.ra h4.rn h4.rc,.slice h4.ea h4.en h4.ec,.slice h4.ca h4.cn h4.cc]:=⟨_,rfl⟩;rw [← hW5] at HX5 HB5 HM5 HO5;have HW5:=gH hW5;clear hW5
 by_cases hx0:X.2=0
 case neg =>
  (have q1:(X.2 != 0)=true:=by simpa using hx0);(have q2:(X.2 == 0)=false:=by simpa using hx0)
  go_wp2_with
   (refine qAc rfl 27 (.tmp 3) _ rfl w.heap.size 27 _ #[.string X.1.title,.string X.1.lang,.int .u8 X.1.rate,.bool X.1.drop,.int .i64 X.1.last,.slice h4.ra h4.rn h4.rc,.slice h4.ea h4.en h4.ec,.slice h4.ca h4.cn h4.cc] (by exact rfl) (by exact rfl) (by exact HB4.out) (by exact rfl) (by exact qAb) (by simp [Value.oneCell']) ?_
    rw [← HW5.out])
  go_ret;exact ⟨rfl,HX5.out⟩
 case pos =>
  rw [HXX.out] at hx0;obtain ⟨hadd,hXe⟩:=zEk hx0;rw [← HXX.out] at hXe;obtain ⟨x,hanc⟩:=zNk hadd;have hfit:=zNi HF.out hadd HAu.out;obtain ⟨d1,hd1⟩:∃ q,q=d.six.addD ev fr til au tx:=⟨_,rfl⟩;(have hid:d1.last=d.six.last+1:=by rw [hd1];rfl);rw [← hd1] at hXe hanc hfit;rw [hXe] at HB5 HO5 HW5 ⊢;dsimp only at HB5 HO5 HW5 ⊢;rw [← hid] at hanc;have hat5:=HO5.out.at_;have g1:h4.rn=d1.regs.length:=hat5.regs.len.symm;have g2:h4.en=d1.evs.length:=hat5.evs.len.symm;have g3:h4.cn=d1.coms.length:=hat5.coms.len.symm;obtain ⟨b1,b2,b3⟩:=qKi hanc.err;have HQ:=gH (qPv d1 h4 d1.last W5 (HE.out.ext HX5.out) hat5 hfit (by omega) (by omega) (by omega));(have hq2:(d1.quX d1.last).2=0:=by rw [hanc.quote]);rw [hq2] at HQ;have HAnc:=gH hanc;have HFit:=gH hfit;unfold Doc.cells at HQ;(have kd:=fun o=>HB5.out.cell o);clear hx0 hadd hXe hid hanc hfit hd1 hat5 g1 g2 g3 b1 b2 b3 hq2 HXX HF HAu
  go_wp2_with
   first
   | (refine qAa rfl 27 (.tmp 3) rfl w.heap.size 27 _ _ (by exact rfl) (by exact HB5.out) Tryz.underlying27 rfl (by exact qAb) ?_)
   | (refine qAc rfl 27 (.tmp 3) _ rfl w.heap.size 27 _ #[.string d1.title,.string d1.lang,.int .u8 d1.rate,.bool d1.drop,.int .i64 d1.last,.slice h4.ra h4.rn h4.rc,.slice h4.ea h4.en h4.ec,.slice h4.ca h4.cn h4.cc] (by exact rfl) (by exact rfl) (by exact HB4.out) (by exact rfl) (by exact qAb) (by simp [Value.oneCell']) ?_
      rw [← HW5.out])
  refine HQ.out.mono ?_;rintro e w6 ⟨rfl,hx6⟩;have HX6:=gH (HX5.out.trans hx6);have HB6:=gH (HB5.out.ext hx6);have HM6:=gH (HM5.out.ext hx6);have HO6:=gH (HO5.out.ext hx6);clear hx6 HX4 HB4 HM4 HO4 HX5 HB5 HM5 HO5 HW5 HQ kd;go_wp2_with fail
  go_loopw [9,52] (fun v i wr=>TaRel w #[.int .i64 ev,.int .i64 fr,.int .i64 til,.string au,.string tx] d1.last ev n v i wr) (fun _ i _=>n-(intOf i).toNat)
  case atStart=>exact ⟨0,d1,h4,_,x,Nat.zero_le _,rfl,HX6.out,HB6.out,HM6.out,HO6.out,HFit.out,HAnc.out,rfl⟩
  case round =>
   obtain ⟨k,d',h',c',x',hk,rfl,hx,hb,hm,ho,hfit',hanc',rfl⟩:=hrel;have HX:=gH hx;have HB:=gH hb;have HM:=gH hm;have HO:=gH ho;have HFt:=gH hfit';have HAn:=gH hanc'
   have hpos:((d'.quX d1.last).1.toList.isEmpty)=false:=by
    have h0:=hanc'.pos
    cases hq:(d'.quX d1.last).1.toList.isEmpty
    . rfl
    . have:=zAt (s:=(d'.quX d1.last).1) (by simpa using hq)
      omega
   clear hx hb hm ho hfit' hanc' HX6 HB6 HM6 HO6 HFit HAnc
   by_cases hlt:k<n
   . have hxo:=HX.out
     obtain ⟨b,off,pw,rfl,hpk,hcl⟩:=(Sl.ext (Cells.stays _) HL.out hxo).at_ hlt;have c0:=hcl 0 _ rfl;have c1:=hcl 1 _ rfl;have c2:=hcl 2 _ rfl;obtain ⟨hpt1,hpt2,hpt3⟩:=HPt.out pw (List.mem_of_getElem? hpk);have HP1:=gH hpt1;have HP2:=gH hpt2;simp only [Nat.add_zero] at c0;(have kd:=fun o=>(HB.out.alloc (.cells #[.int .i64 pw.row,.int .i64 pw.at_,.string pw.text] 52)).cell o);(have km:=fun o=>(HM.out.alloc (.cells #[.int .i64 pw.row,.int .i64 pw.at_,.string pw.text] 52)).cell o);have HXa:=gH (HX.out.alloc (.cells #[.int .i64 pw.row,.int .i64 pw.at_,.string pw.text] 52));have HBa:=gH (HB.out.alloc (.cells #[.int .i64 pw.row,.int .i64 pw.at_,.string pw.text] 52));have HMa:=gH (HM.out.alloc (.cells #[.int .i64 pw.row,.int .i64 pw.at_,.string pw.text] 52));have HOa:=gH (HO.out.ext ((Ext.refl wr).alloc (.cells #[.int .i64 pw.row,.int .i64 pw.at_,.string pw.text] 52)));have HPa:=gH (Blk.new wr 52 #[.int .i64 pw.row,.int .i64 pw.at_,.string pw.text]);obtain ⟨bb1,bb2,bb3⟩:=qKi HAn.out.err;have g2:h'.en=d'.evs.length:=HO.out.at_.evs.len.symm;have HA1:=gH (zQi d' h' ev _ HOa.out.at_ (by omega));unfold zLz at HA1;unfold Doc.cells at HA1 HB HBa kd;clear hpk hcl hpt1 hpt2 hpt3 hxo HX HM HO bb1 bb2 bb3 g2;go_wp2_with (refine qAa rfl 27 (.tmp 3) rfl w.heap.size 27 _ _ (by exact rfl) (by exact HBa.out) Tryz.underlying27 rfl (by exact qAb) ?_);refine HA1.out.mono ?_;rintro e w3 ⟨hx3,hcase⟩;obtain ⟨m0,hm0,hm1⟩:=HAn.out.evt
     rcases hcase with ⟨hn0,-⟩ | ⟨m,x2,Ar,nr,cr,hf2,hx2,rfl,hev2⟩
     . rw [hm0] at hn0
       cases hn0
     . have hx2e:x2=x':=by
        rw [hm0] at hf2
        cases hf2
        rw [hm1] at hx2;exact (Option.some.inj hx2).symm
       subst hx2e;have hy3:=hx3.alloc (.cells #[.int .i64 x2.id,.int .i64 x2.inn,.int .i64 x2.out,.string x2.region,.int .u8 x2.kind,.string x2.speaker,.slice Ar nr cr] 54);have HX4:=gH (HXa.out.trans hy3);have HB4:=gH (HBa.out.ext hy3);have HM4:=gH (HMa.out.ext hy3);have HO4:=gH (HOa.out.ext hy3);have HP4:=gH (HPa.out.ext hy3);have HEv4:=gH (hev2.ext ((Ext.refl w3).alloc (.cells #[.int .i64 x2.id,.int .i64 x2.inn,.int .i64 x2.out,.string x2.region,.int .u8 x2.kind,.string x2.speaker,.slice Ar nr cr] 54)))
       have hnr:nr≠0:=by
        have:=hev2.1.len;have:=(Ev.ok_of HAn.out.mem.2.2).some_;omega
       have hnr4:nr<=4:=by
        have:=hev2.1.len;have:=(Ev.ok_of HAn.out.mem.2.2).few;omega
       clear hx3 hy3 HXa HBa HMa HOa HPa hm0 hm1 hf2 hx2 hev2 c0 c1 c2 kd km HA1;unfold Ev.cells
       by_cases hk6:6<=k
       . have q1:((6:Int)<=(k:Int)):=by omega
         have q2:decide ((6:Int)<=(k:Int))=true:=decide_eq_true q1;clear hnr hnr4;go_wp2_with fail;go_ret;exact ⟨rfl,HX4.out⟩
       . have q1:¬ ((6:Int)<=(k:Int)):=by omega
         have q2:decide ((6:Int)<=(k:Int))=false:=decide_eq_false q1;have q3:((nr:Int) == 0)=false:=beq_eq_false_iff_ne.2 (by omega);have HCl:=gH (qPx Ar nr cr x2.rows _ HEv4.out.1 (by omega));unfold qZk at HCl;have HN4:=gH hnr4;clear hnr4;go_wp2_with fail;refine HCl.out.mono ?_;rintro e w5 ⟨A5,c5,rfl,hc5,hro5,hx5⟩;have HX5:=gH (HX4.out.trans hx5);have HB5:=gH (HB4.out.ext hx5);have HM5:=gH (HM4.out.ext hx5);have HO5:=gH (HO4.out.ext hx5);have HP5:=gH (HP4.out.ext hx5);have HR5:=gH hro5;have HL5:=gH (show w.heap.size<=(w3.alloc (.cells #[.int .i64 x2.id,.int .i64 x2.inn,.int .i64 x2.out,.string x2.region,.int .u8 x2.kind,.string x2.speaker,.slice Ar nr cr] 54)).heap.size from HX4.out.size);(have kp:=fun o=>HP5.out.cell o);obtain ⟨N5,hN5⟩:∃ q,q=(w3.alloc (.cells #[.int .i64 x2.id,.int .i64 x2.inn,.int .i64 x2.out,.string x2.region,.int .u8 x2.kind,.string x2.speaker,.slice Ar nr cr] 54)).heap.size:=⟨_,rfl⟩;rw [← hN5] at HR5 HL5;(have q5:IntKind.u64.wrap (nr:Int)=nr:=by rw [zAv];have:=HN4.out;omega);(have q6:¬ ((nr:Int)=0):=by omega);obtain ⟨j,hj,hjn⟩:=zGx pw.row hnr HN4.out;have HJn:=gH hjn;clear hjn;have HX45:=gH hx5;have HN5:=gH hN5;clear hN5 hx5 hro5 HX4 HB4 HM4 HP4 HEv4 HCl q1 q2
         obtain ⟨g5,rfl⟩:∃ g,A5=some ⟨g,0,none⟩:=by
          obtain ⟨hs,hh,-⟩:=HR5.out;obtain ⟨g,cap,he,-,-⟩:=qBt hh (by omega)
          cases he
          exact ⟨g,rfl⟩
         obtain ⟨b6,off6,r,hA6,hrj,Aj,nj,cj,hcj,hnj,hbj,hrr⟩:=(show qCb w5 (some ⟨g5,0,none⟩) nr x2.rows from HR5.out.fresh.rows).at_ HJn.out
         cases hA6
         (have hcj':w5.cell? ⟨g5,j,none⟩=some (.slice Aj nj cj):=by simpa using hcj);have HCj:=gH hcj';have hxok:=Ev.ok_of HAn.out.mem.2.2;have hre:=hxok.rows r (List.mem_of_getElem? hrj);obtain ⟨hr1,hr2⟩:=qIu hre;(have hrv:RV r:=fun z hz=>(hr1 z hz).1);have hrl:=qIf hrv;have hrb:=qKr hrv;have hr16:=qOo hre;have HRp:=gH (fun w' (hx:Ext w5 w')=>qUh Aj nj cj r pw.at_ pw.text w' (HE.out.ext (HX5.out.trans hx)) (qBj.ext hrr hx) hrv (by have:=hrr.len;omega) (by omega) (by omega) (by have:=HP1.out;omega));have HRj:=gH hrj;have HRb:=gH (show qAe r<=128 by omega);unfold zEg at HRp;clear hcj hnj hbj hrr hcj' hxok hre hr1 hr2 hrv hrl hrb hr16 hrj;have HJ:=gH hj;clear hj;go_wp2_with fail;rw [HJ.out];have hj1:j<nr:=HJn.out;(have hj2:(j:Int)<(nr:Int):=by omega);(have hj3:¬ ((j:Int)<0):=by omega)
         refine qAr [some 91,some 92,some 93,some 94,some 95,some 96,some 97,some 98,some 99,some 100,some 101,some 102,some 103,some 104,none] [[],[],[],[],[2,3],[4],[],[6],[],[8],[],[10],[5,7,9,11],[0,1,0,1,2,3,4,5,6,7,8,9,10,11,12],[13,12,12,0,1,2,3,4,5,6,7,8,9,10,11,12]] [12,14] [.slice (some ⟨g5,0,none⟩) nr c5,.int .i64 j,.slice (some ⟨g5,0,none⟩) nr c5,.int .i64 j,.pointer (some ⟨g5,j,none⟩),.agg #[.slice Aj nj cj],.pointer (some ⟨wr.heap.size,1,none⟩),.int .i64 pw.at_,.pointer (some ⟨wr.heap.size,1,none⟩),.int .i64 pw.at_,.pointer (some ⟨wr.heap.size,2,none⟩),.string pw.text,undef,.pointer (some ⟨g5,j,none⟩),undef] (RwJ r pw.text ⟨g5,j,none⟩ w5) (by kernel_rfl) (by kernel_rfl) (by kernel_rfl) (by kernel_rfl) (by kernel_rfl) (by kernel_rfl) (by kernel_rfl) (by decide) ?_ ?_ ?_ ?_
         . exact ((Ext.refl w5).drew:Ext w5 w5.drew)
         . intro i o ho hc a w' us K' hJ hF hlim hk
           match i,ho with
           | 0,ho =>
             simp only [gA,gB,gC,gD] at ho;subst ho;have e14:=hF.old 14 (.slice (some ⟨g5,0,none⟩) nr c5) rfl rfl;simp only [Act.eval] at e14;clear hF hlim hJ;go_simp;exact hk
           | 1,ho =>
             simp only [gA,gB,gC,gD] at ho;subst ho;have e15:=hF.old 15 (.int .i64 j) rfl rfl;simp only [Act.eval] at e15;clear hF hlim hJ;go_simp;exact hk
           | 2,ho =>
             simp only [gA,gB,gC,gD] at ho;subst ho;have e14:=hF.old 14 (.slice (some ⟨g5,0,none⟩) nr c5) rfl rfl;simp only [Act.eval] at e14;clear hF hlim hJ;go_simp;exact hk
           | 3,ho =>
             simp only [gA,gB,gC,gD] at ho;subst ho;have e15:=hF.old 15 (.int .i64 j) rfl rfl;simp only [Act.eval] at e15;clear hF hlim hJ;go_simp;exact hk
           | 4,ho =>
             simp only [gA,gB,gC,gD] at ho;subst ho;have e93:=hF.pure 2 93 (.slice (some ⟨g5,0,none⟩) nr c5) rfl rfl rfl rfl;have e94:=hF.pure 3 94 (.int .i64 j) rfl rfl rfl rfl;simp only [Act.eval] at e93 e94;clear hF hlim hJ;go_simp;exact hk
           | 5,ho =>
             simp only [gA,gB,gC,gD] at ho;subst ho;have e95:=hF.pure 4 95 (.pointer (some ⟨g5,j,none⟩)) rfl rfl rfl rfl;obtain rfl:us=[]:=List.eq_nil_of_length_eq_zero (by have:=hlim 0 12 rfl (by kernel_rfl);omega);exact zIv 61 (.tmp 95) rfl g5 j #[.slice Aj nj cj] _ e95 (zKz (Ext.cell hJ HCj.out)) Tryz.underlying61 rfl (by exact qAz) hk
           | 6,ho =>
             simp only [gA,gB,gC,gD] at ho;subst ho;have e11:=hF.old 11 (.pointer (some ⟨wr.heap.size,0,none⟩)) rfl rfl;simp only [Act.eval] at e11;clear hF hlim hJ;go_simp;exact hk
           | 7,ho =>
             simp only [gA,gB,gC,gD] at ho;subst ho;have e97:=hF.pure 6 97 (.pointer (some ⟨wr.heap.size,1,none⟩)) rfl rfl rfl rfl;obtain rfl:us=[]:=List.eq_nil_of_length_eq_zero (by have:=hlim 0 12 rfl (by kernel_rfl);omega);have hcl:=(HP5.out.ext hJ).cell 1;simp only [gA,gB,gC] at hcl;simp only [Act.eval] at e97;clear hF hlim hJ;go_simp;exact hk
           | 8,ho =>
             simp only [gA,gB,gC,gD] at ho;subst ho;have e11:=hF.old 11 (.pointer (some ⟨wr.heap.size,0,none⟩)) rfl rfl;simp only [Act.eval] at e11;clear hF hlim hJ;go_simp;exact hk
           | 9,ho =>
             simp only [gA,gB,gC,gD] at ho;subst ho;have e99:=hF.pure 8 99 (.pointer (some ⟨wr.heap.size,1,none⟩)) rfl rfl rfl rfl;obtain rfl:us=[]:=List.eq_nil_of_length_eq_zero (by have:=hlim 0 12 rfl (by kernel_rfl);omega);have hcl:=(HP5.out.ext hJ).cell 1;simp only [gA,gB,gC] at hcl;simp only [Act.eval] at e99;clear hF hlim hJ;go_simp;exact hk
           | 10,ho =>
             simp only [gA,gB,gC,gD] at ho;subst ho;have e11:=hF.old 11 (.pointer (some ⟨wr.heap.size,0,none⟩)) rfl rfl;simp only [Act.eval] at e11;clear hF hlim hJ;go_simp;exact hk
           | 11,ho =>
             simp only [gA,gB,gC,gD] at ho;subst ho;have e101:=hF.pure 10 101 (.pointer (some ⟨wr.heap.size,2,none⟩)) rfl rfl rfl rfl;obtain rfl:us=[]:=List.eq_nil_of_length_eq_zero (by have:=hlim 0 12 rfl (by kernel_rfl);omega);have hcl:=(HP5.out.ext hJ).cell 2;simp only [gA,gB,gC] at hcl;simp only [Act.eval] at e101;clear hF hlim hJ;go_simp;exact hk
           | 12,ho=>simp at hc
           | 13,ho =>
             simp only [gA,gB,gC,gD] at ho;subst ho;have e91:=hF.pure 0 91 (.slice (some ⟨g5,0,none⟩) nr c5) rfl rfl rfl rfl;have e92:=hF.pure 1 92 (.int .i64 j) rfl rfl rfl rfl;simp only [Act.eval] at e91 e92;clear hF hlim hJ;go_simp;exact hk
           | 14,ho=>simp at hc
           | i+15,ho=>simp at ho
         . intro p c' o hp ho a w' us K' hl hJ hF hk
           match p,hp with
           | 0,hp =>
             (obtain rfl:12=c':=by simpa using hp);simp only [gA,gB,gC,gD] at ho;subst ho;obtain rfl:us=[]:=List.eq_nil_of_length_eq_zero hl;have e96:=hF.pure 5 96 (.agg #[.slice Aj nj cj]) rfl rfl rfl rfl;have e98:=hF.pure 7 98 (.int .i64 pw.at_) rfl rfl rfl rfl;have e100:=hF.pure 9 100 (.int .i64 pw.at_) rfl rfl rfl rfl;have e102:=hF.pure 11 102 (.string pw.text) rfl rfl rfl rfl;refine zIu rfl e96 e98 e100 e102 Tryz.call10 (HRp.out w' hJ) ?_;rintro en w8 ⟨A,c,o,rfl,ho,hx8,hq⟩;exact ⟨_,rfl,hk _ w8 ⟨A,c,o,rfl,qBo ho (Ext.size hJ),Ext.trans hJ hx8,hq⟩⟩
           | 1,hp =>
             (obtain rfl:14=c':=by simpa using hp);simp only [gA,gB,gC,gD] at ho;subst ho;obtain ⟨u0,rfl⟩:=qBv hl;obtain ⟨A,c,o,rfl,ho,hx8,hq⟩:=hJ;have e104:=hF.pure 13 104 (.pointer (some ⟨g5,j,none⟩)) rfl rfl rfl rfl;have e103:=hF.link 0 12 103 _ rfl rfl rfl rfl;have hcl:=hx8.cell HCj.out;obtain ⟨hs5,hh5,-⟩:=HR5.out.ext hx8;obtain ⟨cur5,hbk⟩:=zAi hh5;have hfz:=hbk.frozen j;have HK:=gH (hk undef _ ⟨w',A,c,o,ho,hx8,hq,rfl⟩);clear hbk hh5;simp [Act.eval] at e103 e104;clear hk hF;go_simp;exact HK.out
           | p+2,hp=>simp at hp
         intro us w7 hl hJ;obtain ⟨u0,u1,rfl⟩:=qCm hl
         first | (rename_i hK;refine hK _ _ ?_;clear hK) | (rename_i hK hK_1;refine hK _ _ ?_;clear hK) | (rename_i hK hK_1 hK_2;refine hK _ _ ?_;clear hK) | (rename_i hK hK_1 hK_2 hK_3;refine hK _ _ ?_;clear hK)
         generalize hL:qCd _ _ _ _=L;obtain rfl:L=[(91,.slice (some ⟨g5,0,none⟩) nr c5),(92,.int .i64 j),(93,.slice (some ⟨g5,0,none⟩) nr c5),(94,.int .i64 j),(95,.pointer (some ⟨g5,j,none⟩)),(96,.agg #[.slice Aj nj cj]),(97,.pointer (some ⟨wr.heap.size,1,none⟩)),(98,.int .i64 pw.at_),(99,.pointer (some ⟨wr.heap.size,1,none⟩)),(100,.int .i64 pw.at_),(101,.pointer (some ⟨wr.heap.size,2,none⟩)),(102,.string pw.text),(103,u0),(104,.pointer (some ⟨g5,j,none⟩))]:=hL.symm.trans (by kernel_rfl);clear hL hl;simp only [Act.put,List.foldl_cons,List.foldl_nil,List.setIfInBounds_toArray,List.set_cons_zero,List.set_cons_succ];obtain ⟨w6,A6,c6,o,ho6,hx6,hq6,rfl⟩:=hJ;have HO6:=gH (qAh ho6 (Ext.refl _))
         obtain ⟨hrs,hgw,hty,hLg⟩:=zLk (HR5.out.ext hx6) HJn.out ho6 (by
          rcases hq6 with h0 | ⟨u,v,-,hrq⟩
          . rw [h0];decide
          . have h1:=hrq.len
            have h2:=qOo ((Ev.ok_of HAn.out.mem.2.2).rows r (List.mem_of_getElem? HRj.out))
            omega)
         obtain ⟨W7,hW7⟩:∃ W,W=w6.setCell ⟨g5,j,none⟩ (.slice A6 o.length c6):=⟨_,rfl⟩;rw [← hW7] at hrs hgw ⊢;have hg5:w.heap.size<=g5:=Nat.le_trans HL5.out hLg;(have hkb:∀ T,T≠61->KB T w6 W7:=fun T hn=>KB.grown hgw (fun q hq=>by obtain rfl:=Option.some.inj hq;exact hty) hn);have HX7:=gH ((HX5.out.trans hx6).grown hgw (fun q hq=>by obtain rfl:=Option.some.inj hq;exact hg5));have HB7:=gH ((HB5.out.ext hx6).kb (hkb _ (by decide)));have HM7:=gH ((HM5.out.ext hx6).kb (hkb _ (by decide)));have HRs7:=gH hrs;have HQ6:=gH hq6;(have hq7:o=[]\/∃ cs,RQ r cs (qAe r+pw.text.size+qAe r) (r.length+1+r.length) o:=hq6.imp id fun ⟨u,v,_,h2⟩=>⟨_,h2⟩);(obtain ⟨cs7,hq8⟩:∃ cs,o=[]\/RQ r cs (qAe r+pw.text.size+qAe r) (r.length+1+r.length) o:=hq7.elim (fun h=>⟨[],.inl h⟩) fun ⟨cs,h⟩=>⟨cs,.inr h⟩);obtain ⟨hsm1,hsm2,hsm3⟩:=zIh HAn.out.mem.2.2 (HFt.out.evs x2 HAn.out.mem.1).1 HRj.out hq8 (by have:=HRb.out;have:=HP1.out;omega);have HSm3:=gH hsm3;have HO7:=gH (HO4.out.ext ((HX45.out.trans hx6).grown hgw (fun q hq=>by obtain rfl:=Option.some.inj hq;rw [← HN5.out];exact hLg)));have hod:qCx W7 d' h':=HO7.out.at_;have g1:h'.rn=d'.regs.length:=hod.regs.len.symm;have g2:h'.en=d'.evs.length:=hod.evs.len.symm;have g3:h'.cn=d'.coms.length:=hod.coms.len.symm;obtain ⟨bb1,bb2,bb3⟩:=qKi HAn.out.err;have hnc:nr<=c5:=hc5
         have HAp:=gH (qQc d' h' ev (some ⟨g5,0,none⟩) nr c5 (x2.rows.set j o) W7 (HE.out.ext HX7.out) hod HFt.out (by omega) (by omega) (by omega) (by omega) HRs7.out hnc (by have:=HN4.out;omega) hsm1 hsm2);unfold qHk at HAp;unfold edC at HAp;unfold Doc.cells at HAp;(have kd:=fun o=>HB7.out.cell o);(have km:=fun o=>HM7.out.cell o);clear hq7 hq8 hsm1 hsm2 hsm3;clear hrs hgw hty hLg hg5 hkb hx6 hq6 ho6 hod g1 g2 g3 bb1 bb2 bb3 hnc HO6 HX5 HB5 HM5 HO5 HP5 HR5 HRp HCj kp hj1 hj2 hj3 q5 q6 q3 hc5 hW7 HX45 HO4;go_wp2_with (refine qAa rfl 27 (.tmp 3) rfl w.heap.size 27 _ _ (by exact rfl) (by exact HB7.out) Tryz.underlying27 rfl (by exact qAb) ?_);refine HAp.out.mono ?_;rintro e w8 ⟨h8,rfl,ho8,hx8⟩;obtain ⟨Y,hY⟩:∃ Y,Y=d'.apRows ev (x2.rows.set j o):=⟨_,rfl⟩;have HY:=gH hY;rw [← hY] at ho8 ⊢;have HX8:=gH ((HX7.out.trans hx8).alloc (.cells #[.string Y.1.title,.string Y.1.lang,.int .u8 Y.1.rate,.bool Y.1.drop,.int .i64 Y.1.last,.slice h8.ra h8.rn h8.rc,.slice h8.ea h8.en h8.ec,.slice h8.ca h8.cn h8.cc] 27));have HB8:=gH ((HB7.out.ext hx8).alloc (.cells #[.string Y.1.title,.string Y.1.lang,.int .u8 Y.1.rate,.bool Y.1.drop,.int .i64 Y.1.last,.slice h8.ra h8.rn h8.rc,.slice h8.ea h8.en h8.ec,.slice h8.ca h8.cn h8.cc] 27));have HM8:=gH ((HM7.out.ext hx8).alloc (.cells #[.string Y.1.title,.string Y.1.lang,.int .u8 Y.1.rate,.bool Y.1.drop,.int .i64 Y.1.last,.slice h8.ra h8.rn h8.rc,.slice h8.ea h8.en h8.ec,.slice h8.ca h8.cn h8.cc] 27))
         have HO8:=gH ((HO7.out.ext hx8).ext ((Ext.refl w8).alloc (.cells #[.string Y.1.title,.string Y.1.lang,.int .u8 Y.1.rate,.bool Y.1.drop,.int .i64 Y.1.last,.slice h8.ra h8.rn h8.rc,.slice h8.ea h8.en h8.ec,.slice h8.ca h8.cn h8.cc] 27)));have HN8:=gH (Blk.new w8 27 #[.string Y.1.title,.string Y.1.lang,.int .u8 Y.1.rate,.bool Y.1.drop,.int .i64 Y.1.last,.slice h8.ra h8.rn h8.rc,.slice h8.ea h8.en h8.ec,.slice h8.ca h8.cn h8.cc]);have HP8:=gH ((ho8.le HX7.out.size).ext ((Ext.refl w8).alloc (.cells #[.string Y.1.title,.string Y.1.lang,.int .u8 Y.1.rate,.bool Y.1.drop,.int .i64 Y.1.last,.slice h8.ra h8.rn h8.rc,.slice h8.ea h8.en h8.ec,.slice h8.ca h8.cn h8.cc] 27)));clear hY hx8 ho8 HX7 HB7 HM7 HO7 HRs7 HAp kd km
         by_cases hy0:Y.2=0
         case neg =>
          (have r1:(Y.2 != 0)=true:=by simpa using hy0);(have r2:(Y.2 == 0)=false:=by simpa using hy0);go_wp2_with fail;exact ⟨⟨k+1,d',h',c',x2,by omega,by go_num,HX8.out,HB8.out,HM8.out,HO8.out,HFt.out,HAn.out,rfl⟩,by simp only [intOf];omega⟩
         case pos =>
          rw [HY.out] at hy0;(have hrep:o=[]\/∃ u t v,rch r=u++v/\RV o/\rch o=u++(t++v):=HQ6.out.imp id fun ⟨u,v,h1,h2⟩=>⟨u,_,v,h1,h2.rv,h2.ch⟩);obtain ⟨d2,c2,he2,hanc2,hfit2,hsub2,herr2⟩:=zLf HAn.out HFt.out HRj.out hrep HSm3.out hy0;rw [← HY.out] at he2;rw [he2] at HN8 HP8 HX8 HB8 HM8 HO8 ⊢;dsimp only at HN8 HP8 HX8 HB8 HM8 HO8 ⊢;obtain ⟨W8,hW8⟩:∃ W,W=w8.alloc (.cells #[.string d2.title,.string d2.lang,.int .u8 d2.rate,.bool d2.drop,.int .i64 d2.last,.slice h8.ra h8.rn h8.rc,.slice h8.ea h8.en h8.ec,.slice h8.ca h8.cn h8.cc] 27):=⟨_,rfl⟩;rw [← hW8] at HN8 HP8 HX8 HB8 HM8 HO8;have HW8:=gH hW8;have hod:qCx W8 d2 h8:=HP8.out.at_;have g1:h8.rn=d2.regs.length:=hod.regs.len.symm;have g2:h8.en=d2.evs.length:=hod.evs.len.symm;have g3:h8.cn=d2.coms.length:=hod.coms.len.symm;obtain ⟨bb1,bb2,bb3⟩:=qKi hanc2.err;have HQu:=gH (qPv d2 h8 d1.last W8 (HE.out.ext HX8.out) hod hfit2 (by omega) (by omega) (by omega));rw [herr2] at HQu;unfold Doc.cells at HQu;have HWi:=gH (fun w'=>zIs (d'.quX d1.last).1 (d2.quX d1.last).1 w' (zAl HAn.out) (zAl hanc2) hsub2);have HAn2:=gH hanc2;have HFt2:=gH hfit2;clear hy0 hrep he2 hanc2 hfit2 hsub2 herr2 hW8 hod g1 g2 g3 bb1 bb2 bb3
          go_wp2_with (refine qAa rfl 27 (.tmp 16) rfl w8.heap.size 27 #[.string d2.title,.string d2.lang,.int .u8 d2.rate,.bool d2.drop,.int .i64 d2.last,.slice h8.ra h8.rn h8.rc,.slice h8.ea h8.en h8.ec,.slice h8.ca h8.cn h8.cc] _ (by exact rfl) (by rw [← HW8.out];exact HN8.out) Tryz.underlying27 rfl (by exact qAb) ?_);rw [← HW8.out];refine HQu.out.mono ?_;rintro e w9 ⟨rfl,hx9⟩;have HX9:=gH (HX8.out.trans hx9);have HB9:=gH (HB8.out.ext hx9);have HM9:=gH (HM8.out.ext hx9);have HP9:=gH (HP8.out.ext hx9);have HN9:=gH (HN8.out.ext hx9);clear hx9 HX8 HB8 HM8 HP8 HN8 HO8 HW8 HQu;go_wp2_with fail;refine (HWi.out _).mono ?_;rintro e wa ⟨rfl,hxa⟩;have HXa:=gH (HX9.out.trans hxa);have HBa:=gH (HB9.out.ext hxa);have HMa:=gH (HM9.out.ext hxa);have HPa:=gH (HP9.out.ext hxa);have HNa:=gH (HN9.out.ext hxa);clear hxa HX9 HB9 HM9 HP9 HN9 HWi
          go_wp2_with
           first
           | (refine qAa rfl 27 (.tmp 16) rfl w8.heap.size 27 #[.string d2.title,.string d2.lang,.int .u8 d2.rate,.bool d2.drop,.int .i64 d2.last,.slice h8.ra h8.rn h8.rc,.slice h8.ea h8.en h8.ec,.slice h8.ca h8.cn h8.cc] _ (by exact rfl) (by exact HNa.out) Tryz.underlying27 rfl (by exact qAb) ?_)
           | (refine qAc rfl 27 (.tmp 3) _ rfl w.heap.size 27 _ #[.string d2.title,.string d2.lang,.int .u8 d2.rate,.bool d2.drop,.int .i64 d2.last,.slice h8.ra h8.rn h8.rc,.slice h8.ea h8.en h8.ec,.slice h8.ca h8.cn h8.cc] (by exact rfl) (by exact rfl) (by exact HBa.out) (by exact rfl) (by exact qAb) (by simp [Value.oneCell']) ?_)
          exact ⟨⟨k+1,d2,h8,c2,_,by omega,by go_num,HXa.out.put (Nat.le_refl _) _ _,HBa.out.put _,HMa.out.put_other (by omega) _,HPa.out.put HBa.out _,HFt2.out,HAn2.out,rfl⟩,by simp only [intOf];omega⟩
   . obtain rfl:k=n:=by omega
     go_wp2_with fail;go_ret;exact ⟨rfl,HX.out⟩
end
section
open Go.RowKit Go.ChangeShapes Go.WideShapes Go.ChangeAt
set_option maxRecDepth 100000
theorem qUn:Tryz.prog.cellsOf 52=3:=by kernel_rfl
theorem zEo:Tryz.prog.bytesOf 52=32:=by kernel_rfl
theorem zHg (W:World):qBw Tryz.prog W 52 (fun k cs (p:PutW)=>cs=p.vals/\p.text.size+1<=k/\IW p.row/\IW p.at_):=by
 intro H enc fuel cs x h hw;obtain ⟨hl,ks,hks,hkl,hf⟩:=qBw.fields Tryz.underlying52 h hw;rw [qUn] at hl;obtain ⟨v0,v1,v2,rfl⟩:=qCn hl;obtain ⟨k0,k1,k2,rfl⟩:=qCn (show ks.length=3 from hkl);obtain ⟨a0,h0,s0⟩:=hf 0 _ rfl (.of (qCa.int Tryz.underlying3));obtain ⟨a1,h1,s1⟩:=hf 1 _ rfl (.of (qCa.int Tryz.underlying3));obtain ⟨a2,h2,s2⟩:=hf 2 _ rfl (qBw.string Tryz.underlying9);simp [qKd,qCy] at h0 h1 h2 s2 hks;subst h0 h1 h2;exact ⟨⟨a0,a1,a2⟩,rfl,by simp only;omega,bounds_i64 s0,bounds_i64 s1⟩
theorem zEl {H:Type} {enc:TypeId × Value->H} {W:World} {base:Nat} {v:Value} {d:DataW H} {p:List MemPlace} (hv:Value.okWide Tryz.prog W .any base 30 v) (h:DataW.Trod enc Tryz.prog W 0 (fun _=>true) true 30 v d p)
 (hw:∀ n∈d.weights Tryz.prog 30,n<=reachBytes) (hk:Rows.uptoBulk d<=1048576):∃ A n c l,v = .slice A n c/\zMe W A n l/\∀ p∈l,p.text.size<=1048576/\IW p.row/\IW p.at_:=by
 obtain ⟨fuel,h⟩:=h;obtain ⟨A,n,c,l,hc,hnc,hcm,hb,hs,hbk⟩:=qBw.slice Tryz.underlying30 qUn (by decide) zEo (zHg W) h hw;dsimp only at hbk
 have hv':v = .slice A n c:=by
  unfold Value.okWide at hv;rw [Tryz.underlying30] at hv
  cases v<;>simp [Value.cells] at hc<;>first | (obtain ⟨h1,h2,h3⟩:=hc;subst h1 h2 h3;rfl) | (simp [Cell.okWide,Tryz.underlying30,Cell.ok] at hv)
 have hall:=hs.all (p:=fun p:PutW × Nat=>p.1.text.size+1<=p.2/\IW p.1.row/\IW p.1.at_) (fun b o q hm=>by obtain ⟨_,_,_,h3⟩:=hm;exact h3);refine ⟨A,n,c,l.map (fun p:PutW × Nat=>p.1),hv',Sl.mapK (D:=Cells PutW.vals) hs fun b o p hm=>?_,fun p hp=>?_⟩
 . obtain ⟨cs,h1,h2,_⟩:=hm
   subst h2;exact h1
 . obtain ⟨q,hq,rfl⟩:=List.mem_map.1 hp
   have h5:=zAf hq;have h6:=hall q hq;exact ⟨by omega,h6.2⟩
set_option maxRecDepth 100000
def zGr : List (String × DataW Unit) := [("math/bits.deBruijn32tab", Rows.laid_math_bits_deBruijn32tab), ("math/bits.deBruijn64tab", Rows.laid_math_bits_deBruijn64tab), ("internal/strconv.uint64pow10", Rows.laid_internal_strconv_uint64pow10), ("unicode/utf8.acceptRanges", Rows.laid_unicode_utf8_acceptRanges), ("strconv.ErrRange", Rows.laid_strconv_ErrRange), ("strconv.ErrSyntax", Rows.laid_strconv_ErrSyntax), ("unicode/utf8.first", Rows.laid_unicode_utf8_first)]
theorem zNx {W:World} (h:laidMet Tryz.prog zGr W) (hs:W.ShapedOpen Tryz.prog):Env W:=by
 refine ⟨?_,?_⟩
 · have h1 := Lib.laidMet.reads h (n := "unicode/utf8.first") (d := Rows.laid_unicode_utf8_first) (by simp [zGr])
   have h2 := Lib.laidMet.reads h (n := "unicode/utf8.acceptRanges") (d := Rows.laid_unicode_utf8_acceptRanges) (by simp [zGr])
   rw [zCk] at h1;rw [qXd] at h2;exact utf8Tabs_of_readsT (U8Types.of196 Tryz.laysValid) zPj h1 h2
 . obtain ⟨cs,hh,hz,hr⟩:=hs.1 2 #[.int .i64 0] 3 (of_decide_eq_true (by kernel_rfl)) (by kernel_rfl)
   obtain ⟨ts,hts,_,hall⟩:=hr (by kernel_rfl);(have h1:0<cs.size:=by rw [hz];decide);(have e:Tryz.prog.cellTypes Tryz.prog.depth 3=some [3]:=by kernel_rfl);rw [e] at hts
   cases hts
   obtain ⟨u,hu',hok⟩:=hall 0 cs[0] (by simp [h1]);(have:u=3:=by simpa using hu'.symm);subst this;(have hcell:W.cell? ⟨2,0,none⟩=some cs[0]:=by simp [World.cell?,hh,h1]);rw [hcell];unfold Cell.ok at hok;rw [Tryz.underlying3] at hok
   cases hv:cs[0]<;>rw [hv] at hok<;>first | (simp at hok;done) | skip
   rename_i k m;simp at hok;exact ⟨m,by rw [hok.1]⟩
theorem zPi {W:World} (h:laidMet Tryz.prog zGr W):TabX W:=by
 obtain ⟨g', t', cs, fuel, p, hg', ht', hvar, hd⟩ := Lib.laidMet.reads h (n := "internal/strconv.uint64pow10") (d := Rows.laid_internal_strconv_uint64pow10) (by simp [zGr])
 have e1:(Rows.laid_internal_strconv_uint64pow10:DataW Unit)=Lib.tabData .u64 Lib.pow10Tab:=by kernel_rfl
 have hgg : Tryz.prog.globalNamed "internal/strconv.uint64pow10" = some 3 := by kernel_rfl
 obtain rfl:=Option.some.inj (hgg.symm.trans hg');(have hty:(Tryz.prog.globals[3]?).map (·.type)=some 389:=by kernel_rfl);obtain rfl:=Option.some.inj (hty.symm.trans ht');rw [e1] at hd;have hc:=Lib.cells_of_tab Tryz.underlying389 Tryz.underlying335 (by kernel_rfl) (by kernel_rfl) hd;unfold TabX Lib.TabIs;rw [hvar];exact congrArg some (Array.toList_inj.1 (by simpa using hc))
def zAd:List (DataW Unit)->List Value
 | .lit (.int k z) :: r=>.int k z :: zAd r
 | _=>[]
def qRs:DataW Unit->List Value
 | .agg l=>zAd l
 | _=>[]
def layG (h:Array Obj) (g:Nat) (cs:Array Value):Array Obj:=h.modify g fun
 | .cells _ t frozen=>.cells cs t frozen
 | o=>o
noncomputable def qLi (os:Os):World :=
 let N:=(World.settled Tryz.prog os).heap.size
 let w0:=World.holding Tryz.prog os ⟨#[.cells #[.string ⟨#[118,97,108,117,101,32,111,117,116,32,111,102,32,114,97,110,103,101]⟩] 402,.cells #[.string ⟨#[105,110,118,97,108,105,100,32,115,121,110,116,97,120]⟩] 402],#[],[]⟩
 let h0:=layG (layG w0.heap 5 #[.iface 400 (.pointer (some ⟨N,0,none⟩))]) 4 #[.iface 400 (.pointer (some ⟨N+1,0,none⟩))]
 let h1:=(h0.modify 0 zKq).modify 1 zGt
 let h2:=layG (layG (layG h1 3 (qRs Rows.laid_internal_strconv_uint64pow10).toArray) 6 (qRs Rows.laid_math_bits_deBruijn32tab).toArray) 7 (qRs Rows.laid_math_bits_deBruijn64tab).toArray
 { w0 with heap:=h2 }
end
end Go.Proofs.YtneffpbodfjceaaGreatDoor