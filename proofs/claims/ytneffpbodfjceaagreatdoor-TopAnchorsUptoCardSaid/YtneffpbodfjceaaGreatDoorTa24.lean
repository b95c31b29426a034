/- Texts laid together. -/
import Derived.Test.YtneffpbodfjceaaGreatDoorTa23
import Derived.Lib.LaidTab
import Derived.Lib.ItoaNum
set_option linter.unusedVariables false
set_option linter.unusedSimpArgs false
set_option maxRecDepth 100000
set_option maxHeartbeats 16000000
namespace Go.Proofs.YtneffpbodfjceaaGreatDoor
section
open Go.RowKit
def nsrc:ByteArray:=⟨#[68,79,67,85,77,69,78,84,32,34,34,32,45,32,50,53,32,78,68,70,32,49,10,69,86,69,78,84,32,49,32,49,48,32,53,48,32,45,32,68,73,65,76,79,71,85,69,32,45,10,82,79,87,32,34,72,105,34,10]⟩
def tHi:ByteArray:=⟨#[72,105]⟩
def nls:List (List Fl):=[docL,evtL,rowL tHi,[]]
def zMo:List ByteArray:=[⟨#[68,79,67,85,77,69,78,84,32,34,34,32,45,32,50,53,32,78,68,70,32,49]⟩,⟨#[69,86,69,78,84,32,49,32,49,48,32,53,48,32,45,32,68,73,65,76,79,71,85,69,32,45]⟩,⟨#[82,79,87,32,34,72,105,34]⟩,⟨#[]⟩]
theorem zHo {s:ByteArray} (h:s.data.toList.all (fun c=>decide (c.toNat≠123) && (decide (c.toNat≠125) && decide (c.toNat≠92)))=true):qJb s:=fun k hk=>by
 have:=List.all_eq_true.1 h s[k] (List.mem_of_getElem? (qMn s k hk));simpa using this
theorem zKi:qJb tHi:=zHo (by decide)
theorem zQr:vld tHi=true:=by decide
theorem qIz.line {w:World} {L gl cl n:Nat} {l:List (Int × List Fd)} {hs:List LnH} (h:qIz w L (.slice (some ⟨gl,0,none⟩) n cl) l hs) {k:Nat} {num:Int} {fl:List Fd} (hk:l[k]?=some (num,fl)) :
 ∃ A c,w.cell? ⟨gl,k*2,none⟩=some (.int .i64 num)/\w.cell? ⟨gl,k*2+1,none⟩=some (.slice A fl.length c)/\qJy w A fl.length fl:=by
 have hkl:=(List.getElem?_eq_some_iff.1 hk).1;obtain ⟨x,hx⟩:∃ x,hs[k]?=some x:=⟨_,List.getElem?_eq_getElem (by rw [h.len];exact hkl)⟩;obtain ⟨e1,e2,e3⟩:=h.each k x _ hx hk;obtain ⟨num',A,m,c⟩:=x;dsimp only at e1 e2 e3;subst e1 e2;obtain ⟨A',c',hv,-,-,hsl,-⟩:=qBn (f:=LnH.vals) (size:=2) (fun _=>rfl) h.len h.own
 cases hv
 obtain ⟨b,off,hA,hc⟩:=hsl.2 (by omega)
 cases hA
 have c0:=hc k _ hx 0 _ rfl;have c1:=hc k _ hx 1 _ rfl;simp only [Nat.zero_add,Nat.add_zero] at c0 c1;exact ⟨A,c,c0,c1,e3.at_⟩
theorem qNs {tx:ByteArray} (h1:tx.data.toList≠[]) (h2:(tx.data.toList.all wdB)=true) (h3:tx.data.toList.head?≠some 35):(⟨tx,false⟩:Fl).Ok:=⟨fun _=>⟨h1,h2,h3⟩,fun h=>Bool.noConfusion h⟩
theorem qYe {tx:ByteArray} (h:(tx.data.toList.all qtB)=true):(⟨tx,true⟩:Fl).Ok:=⟨fun h=>Bool.noConfusion h,fun _=>h⟩
theorem zNs:∀ f∈docL,f.Ok:=by
 intro f hf;simp only [docL,List.mem_cons,List.not_mem_nil,or_false] at hf
 rcases hf with rfl | rfl | rfl | rfl | rfl | rfl
 all_goals first | exact qNs (by decide) (by decide) (by decide) | exact qYe (by decide)
theorem zNz:∀ f∈evtL,f.Ok:=by
 intro f hf;simp only [evtL,List.mem_cons,List.not_mem_nil,or_false] at hf
 rcases hf with rfl | rfl | rfl | rfl | rfl | rfl | rfl
 all_goals exact qNs (by decide) (by decide) (by decide)
theorem zLj:∀ f∈rowL tHi,f.Ok:=by
 intro f hf;simp only [rowL,List.mem_cons,List.not_mem_nil,or_false] at hf
 rcases hf with rfl | rfl
 . exact qNs (by decide) (by decide) (by decide)
 . exact qYe (by decide)
theorem zKy:∀ (i:Nat) (p:ByteArray) (l:List Fl),zMo[i]?=some p->nls[i]?=some l->p.data.toList=qOd l/\p.size<=1000/\l.length<=1000/\∀ f∈l,f.Ok:=by
 intro i p l hp hl;have hi:i<4:=(List.getElem?_eq_some_iff.1 hl).1;(have hi4:i=0\/i=1\/i=2\/i=3:=by omega)
 rcases hi4 with rfl | rfl | rfl | rfl
 . cases hp;cases hl;exact ⟨by decide,by decide,by decide,zNs⟩
 . cases hp;cases hl;exact ⟨by decide,by decide,by decide,zNz⟩
 . cases hp;cases hl;exact ⟨by decide,by decide,by decide,zLj⟩
 . cases hp;cases hl;exact ⟨by decide,by decide,by decide,fun f h=>absurd h (List.not_mem_nil)⟩
def NpSt (W1:World) (gd k:Nat) (bf:Value) (wr:World):Prop :=
 (k=0/\bf = .string ⟨#[45]⟩/\Blk wr gd 27 qSg) \/
 (k=1/\bf = .string wDOC/\Blk wr gd 27 (qGb (.slice none 0 0))) \/
 (k=2/\bf = .string wEVT/\∃ ge ce,Blk wr gd 27 (qGb (.slice (some ⟨ge,0,none⟩) 1 ce))/\wr.ownsRow W1.heap.size 54 7 (.slice (some ⟨ge,0,none⟩) 1 ce) 1 (evtC (.slice none 0 0)).toList) \/
 (k=3/\bf = .string wROW/\∃ ge ce gr cr gx cx,Blk wr gd 27 (qGb (.slice (some ⟨ge,0,none⟩) 1 ce))/\wr.ownsRow W1.heap.size 54 7 (.slice (some ⟨ge,0,none⟩) 1 ce) 1 (evtC (.slice (some ⟨gr,0,none⟩) 1 cr)).toList /\
  wr.ownsRow W1.heap.size 61 1 (.slice (some ⟨gr,0,none⟩) 1 cr) 1 [.slice (some ⟨gx,0,none⟩) 1 cx]/\wr.ownsRow W1.heap.size 102 5 (.slice (some ⟨gx,0,none⟩) 1 cx) 1 (runP tHi).cells)
def NpRel (W1:World) (gd:Nat) (bf dv i:Value) (wr:World):Prop:=∃ k:Nat,k<=3/\i = .int .i64 (k:Int)/\dv = .slice none 0 0/\Ext W1 wr/\NpSt W1 gd k bf wr
def evHi (tx:ByteArray):Ev:=⟨1,10,50,⟨#[]⟩,1,⟨#[]⟩,[[runP tx]]⟩
def nDoc (tx:ByteArray):Doc:=⟨⟨#[]⟩,⟨#[]⟩,3,false,1,[],[evHi tx],[]⟩
def nH (ge ce:Nat):DocH:=⟨none,0,0,some ⟨ge,0,none⟩,1,ce,none,0,0⟩
theorem qLj (tx:ByteArray) (ge ce:Nat):(nDoc tx).cells (nH ge ce)=qGb (.slice (some ⟨ge,0,none⟩) 1 ce):=rfl
theorem zKw {w:World} {L ge ce gr cr gx cx:Nat} {tx:ByteArray} (h1:w.ownsRow L 54 7 (.slice (some ⟨ge,0,none⟩) 1 ce) 1 (evtC (.slice (some ⟨gr,0,none⟩) 1 cr)).toList)
 (h2:w.ownsRow L 61 1 (.slice (some ⟨gr,0,none⟩) 1 cr) 1 [.slice (some ⟨gx,0,none⟩) 1 cx]) (h3:w.ownsRow L 102 5 (.slice (some ⟨gx,0,none⟩) 1 cx) 1 (runP tx).cells):qAw w L (nDoc tx) (nH ge ce):=by
 refine ⟨⟨rfl,.inl ⟨rfl,rfl⟩⟩,rfl,?_,⟨rfl,.inl ⟨rfl,rfl⟩⟩,rfl⟩;obtain ⟨Ax,cx',hvx,hcx,-,hslx,-⟩:=qBn (f:=Run.cells) (size:=5) (l:=[runP tx]) (fun _=>rfl) rfl (by simpa using h3)
 cases hvx
 obtain ⟨Ar,cr',hvr,hcr,-,hslr,-⟩:=qBn (f:=fun h:Hd=>[Hd.val h]) (size:=1) (l:=[(some ⟨gx,0,none⟩,1,cx)]) (fun _=>rfl) rfl (by simpa [Hd.val] using h2)
 cases hvr
 refine ⟨[⟨1,10,50,⟨#[]⟩,1,⟨#[]⟩,some ⟨gr,0,none⟩,1,cr⟩],h1,rfl,rfl,fun i h e a b=>?_⟩;(have hi:i=0:=by have:=(List.getElem?_eq_some_iff.1 a).1;simp at this;omega);subst hi;simp only [List.getElem?_cons_zero,Option.some.injEq] at a b;subst a
 cases b
 refine ⟨rfl,hcr,(show 1*24<=140737488355328 by decide),[(some ⟨gx,0,none⟩,1,cx)],hslr,fun i h r a b=>?_,rfl,qEk.of_own h2,fun h hm=>?_⟩
 . have hi:i=0:=by have:=(List.getElem?_eq_some_iff.1 a).1;simp at this;omega
   subst hi;simp only [List.getElem?_cons_zero,Option.some.injEq] at a;subst a;have hb:r=[runP tx]:=(Option.some.inj b).symm;subst hb;exact ⟨hcx,(show 1*40<=140737488355328 by decide),qBj.of_cells hslx⟩
 . rw [List.mem_singleton] at hm
   subst hm;exact qEk.of_own h3
theorem zKu:(nDoc tHi).err=0:=by kernel_rfl
theorem zKv:qCf (nDoc tHi):=by
 refine ⟨⟨by decide,by decide,by decide,by decide⟩,fun r h=>absurd h List.not_mem_nil,fun e h=>?_,fun e h=>?_,fun c h=>absurd h List.not_mem_nil⟩
 . have he:e=evHi tHi:=List.mem_singleton.1 h
   subst he;refine ⟨⟨by decide,by decide,fun r hr=>?_⟩,by decide⟩;have hr':r=[runP tHi]:=List.mem_singleton.1 hr;subst hr';refine ⟨by decide,fun x hx=>?_⟩;have hx':x=runP tHi:=List.mem_singleton.1 hx;subst hx';exact ⟨by decide,by decide⟩
 . have he:e=evHi tHi:=List.mem_singleton.1 h
   subst he;exact ⟨by decide,by decide⟩
theorem zHd (w:World) (hE:Env w) :
 Calls Tryz.prog 12 #[.string nsrc] w fun e w'=>∃ ge ce,e = .returned (.tuple #[.agg ((nDoc tHi).cells (nH ge ce)),.slice none 0 0])/\qAw w' w.heap.size (nDoc tHi) (nH ge ce)/\Ext w w':=by
 have HX0:=gH ((Ext.refl w).alloc (.cells qSg 27));have HB0:=gH (Blk.new w 27 qSg);have HSp:=gH (qVt nsrc zMo nls _ (hE.ext HX0.out) (by decide) (by kernel_rfl) (by kernel_rfl) (by decide) (by decide) zKy);have HE:=gH hE;unfold qSg at HX0 HB0 HSp;clear hE;go_enter Tryz.func12,Tryz.ntmps12;go_wp2_with fail;refine HSp.out.mono ?_;rintro e w1 ⟨v1,hs1,rfl,hbd,hx1⟩;have h3:(lnsL 0 nls).length=3:=rfl;rw [show lnsL 0 nls=[(1,qDz docL 0 docL),(2,qDz evtL 0 evtL),(3,qDz (rowL tHi) 0 (rowL tHi))] from rfl] at hbd;obtain ⟨gl,cl,rfl,hgl,-⟩:=qBt hbd.own (by decide);obtain ⟨A0,c0,l00,l01,l02⟩:=hbd.line (k:=0) rfl;obtain ⟨A1,c1,l10,l11,l12⟩:=hbd.line (k:=1) rfl;obtain ⟨A2,c2,l20,l21,l22⟩:=hbd.line (k:=2) rfl;have HXs:=gH (HX0.out.trans hx1);have HBs:=gH (HB0.out.ext hx1);have HG0:=gH hgl;clear HSp HX0 HB0 h3 hx1 hbd;go_wp2_with fail;obtain ⟨gd,hgd⟩:∃ gd,gd=w1.heap.size:=⟨_,rfl⟩;obtain ⟨W1,hW1⟩:∃ W1,W1=w1.alloc (.cells #[.string ⟨#[]⟩,.string ⟨#[]⟩,.int .u8 0,.bool false,.int .i64 0,.slice none 0 0,.slice none 0 0,.slice none 0 0] 27):=⟨_,rfl⟩;(have hx1:Ext w1 W1:=by rw [hW1];exact (Ext.refl w1).alloc _);have HD1:Hid (Blk W1 gd 27 qSg):=gH (by rw [hW1,hgd];exact Blk.new w1 _ _);have HL0:Hid (w1.cell? ⟨gl,0*2,none⟩=some (.int .i64 1)/\w1.cell? ⟨gl,0*2+1,none⟩=some (.slice A0 6 c0)/\qJy w1 A0 6 (qDz docL 0 docL)):=gH ⟨l00,l01,l02⟩
 have HL1:Hid (w1.cell? ⟨gl,1*2,none⟩=some (.int .i64 2)/\w1.cell? ⟨gl,1*2+1,none⟩=some (.slice A1 7 c1)/\qJy w1 A1 7 (qDz evtL 0 evtL)):=gH ⟨l10,l11,l12⟩;have HL2:Hid (w1.cell? ⟨gl,2*2,none⟩=some (.int .i64 3)/\w1.cell? ⟨gl,2*2+1,none⟩=some (.slice A2 2 c2)/\qJy w1 A2 2 (qDz (rowL tHi) 0 (rowL tHi))):=gH ⟨l20,l21,l22⟩;have HX1:=gH hx1;rw [← hW1,← hgd];(have hgd1:w1.heap.size<=gd:=by omega);clear hW1 hgd l00 l01 l02 l10 l11 l12 l20 l21 l22 hx1
 go_loopw [7,5,36] (fun bf dv i wr=>NpRel w1 gd bf dv i wr) (fun _ _ i _=>3-(intOf i).toNat)
 case atStart=>exact ⟨0,Nat.zero_le _,rfl,rfl,HX1.out,.inl ⟨rfl,rfl,HD1.out⟩⟩
 case round =>
  obtain ⟨k,hk,rfl,rfl,hx,hst⟩:=hrel
  rcases hst with ⟨rfl,rfl,hdc⟩ | ⟨rfl,rfl,hdc⟩ | ⟨rfl,rfl,ge,ce,hdc,hoe⟩ | ⟨rfl,rfl,ge,ce,gr,cr,gx,cx,hdc,hoe,hor,hox⟩
  . skip
    have HX:=gH hx;have HDc:=gH hdc;have hxs:=hx.size;have ck0:=HX.out.cell HL0.out.1;have ck1:=HX.out.cell HL0.out.2.1;simp only [Nat.reduceMul,Nat.reduceAdd] at ck0 ck1;have HF:=gH (HL0.out.2.2.ext HX.out);have hxa:=(Ext.refl wr).alloc (.cells #[.int .i64 1,.slice A0 6 c0] 119);have HXa:=gH hxa;have HBa:=gH (Blk.new wr 119 #[.int .i64 1,.slice A0 6 c0]);have HWd:=gH (qSv 1 A0 6 c0 (qDz docL 0 docL) ⟨wDOC,_,false⟩ _ (HF.out.ext hxa) rfl rfl (by decide));have HgL:=gH (Nat.lt_of_lt_of_le HDc.out.lt (Nat.le_refl _));clear hx hxa hdc;go_wp2_with fail;refine HWd.out.mono ?_;rintro e w2 ⟨rfl,hx2⟩;have HX2:=gH (HXa.out.trans hx2);have HB2:=gH (HBa.out.ext hx2);have HF2:=gH (HF.out.ext HX2.out);clear hx2 HWd HBa HXa;obtain ⟨b0,off0,f0,hA0,hf0,hcf0⟩:=HF2.out.at_ (i:=0) (by decide);have hcol:=hcf0 1 _ rfl;have hfe:some f0=some ⟨wDOC,_,false⟩:=hf0.symm.trans rfl;obtain rfl:=Option.some.inj hfe;simp only [Nat.zero_mul,Nat.add_zero] at hcol;have kb0:=HB2.out.cell 0;have kb1:=HB2.out.cell 1;simp only [gA,gB,gC] at kb0 kb1;rw [hA0] at kb1;have HA:=gH hA0;clear hcf0 hf0 hfe hA0;obtain ⟨col,hcc⟩:∃ col:Int,Value.int .i64 col = .int .i64 ((begF (docL) 0:Nat)+1):=⟨_,rfl⟩;have hcol':w2.cell? ⟨b0,off0+1,none⟩=some (.int .i64 col):=hcol.trans (congrArg some hcc.symm);clear hcol hcc;go_wp2_with fail
    refine qBb [some 42,some 43,some 44,some 45,some 46,some 47,some 48,some 49,some 11,none] [[],[0],[],[2],[3],[4],[5],[1,6],[],[8,7,0,1,2,3,4,5,6,7,8]] [9] [8] [.pointer (some ⟨wr.heap.size,0,none⟩),.int .i64 1,.pointer (some ⟨wr.heap.size,1,none⟩),.slice (some ⟨b0,off0,none⟩) 6 c0,.pointer (some ⟨b0,off0,none⟩),.pointer (some ⟨b0,off0+1,none⟩),.int .i64 col,.agg #[.int .i64 1,.int .i64 col,.int .i64 0],undef,undef] (fun _=>.cells #[.int .i64 0,.int .i64 0,.int .i64 0] 116) (VrJ 116 8 #[.int .i64 0,.int .i64 0,.int .i64 0] #[.int .i64 1,.int .i64 col,.int .i64 0] w2) (by kernel_rfl) (by kernel_rfl) (by kernel_rfl) (by kernel_rfl) (by kernel_rfl) (by kernel_rfl) (by kernel_rfl) (by decide) (by kernel_rfl) ?_ ?_ ?_ ?_ ?_ ?_
    . exact VrJ.start w2
    . intro i o ho ha a w' K' hk
      match i,ho with
      | 0,ho | 1,ho | 2,ho | 3,ho | 4,ho | 5,ho | 6,ho | 7,ho=>simp at ha
      | 8,ho =>
       simp only [gA,gB,gC,gD] at ho;subst ho;exact qDv rfl Tryz.zeroValue116 hk
      | 9,ho=>simp at ha
      | i+10,ho=>simp at ho
    . intro i ha us gs w' hJ hn hlim
      match i,ha with
      | 0,ha | 1,ha | 2,ha | 3,ha | 4,ha | 5,ha | 6,ha | 7,ha=>simp at ha
      | 8,ha=>exact hJ.alloc (hlim 0 9 rfl rfl)
      | 9,ha=>simp at ha
      | i+10,ha=>simp at ha
    . intro i o ho hc ha a w' us gs K' hJ hF hlim hk
      match i,ho with
      | 0,ho =>
       simp only [gA,gB,gC,gD] at ho;subst ho;have e9:=hF.old 9 (.pointer (some ⟨wr.heap.size,0,none⟩)) rfl rfl;simp only [Act.eval] at e9;clear hF hlim hJ;go_simp;exact hk
      | 1,ho =>
       simp only [gA,gB,gC,gD] at ho;subst ho;have e42:=hF.pure 0 42 (.pointer (some ⟨wr.heap.size,0,none⟩)) rfl rfl rfl rfl rfl;have hcl:=hJ.ext.cell (kb0);simp only [Act.eval] at e42;clear hF hlim hJ;go_simp;exact hk
      | 2,ho =>
       simp only [gA,gB,gC,gD] at ho;subst ho;have e9:=hF.old 9 (.pointer (some ⟨wr.heap.size,0,none⟩)) rfl rfl;simp only [Act.eval] at e9;clear hF hlim hJ;go_simp;exact hk
      | 3,ho =>
       simp only [gA,gB,gC,gD] at ho;subst ho;have e44:=hF.pure 2 44 (.pointer (some ⟨wr.heap.size,1,none⟩)) rfl rfl rfl rfl rfl;have hcl:=hJ.ext.cell (kb1);simp only [Act.eval] at e44;clear hF hlim hJ;go_simp;exact hk
      | 4,ho =>
       simp only [gA,gB,gC,gD] at ho;subst ho;have e45:=hF.pure 3 45 (.slice (some ⟨b0,off0,none⟩) 6 c0) rfl rfl rfl rfl rfl;simp only [Act.eval] at e45;clear hF hlim hJ;go_simp;exact hk
      | 5,ho =>
       simp only [gA,gB,gC,gD] at ho;subst ho;have e46:=hF.pure 4 46 (.pointer (some ⟨b0,off0,none⟩)) rfl rfl rfl rfl rfl;simp only [Act.eval] at e46;clear hF hlim hJ;go_simp;exact hk
      | 6,ho =>
       simp only [gA,gB,gC,gD] at ho;subst ho;have e47:=hF.pure 5 47 (.pointer (some ⟨b0,off0+1,none⟩)) rfl rfl rfl rfl rfl;have hcl:=hJ.ext.cell (hcol');simp only [Act.eval] at e47;clear hF hlim hJ;go_simp;exact hk
      | 7,ho =>
       simp only [gA,gB,gC,gD] at ho;subst ho;have e43:=hF.pure 1 43 (.int .i64 1) rfl rfl rfl rfl rfl;have e48:=hF.pure 6 48 (.int .i64 col) rfl rfl rfl rfl rfl;simp [Act.eval] at e43 e48;clear hF hlim hJ;go_simp;exact hk
      | 8,ho=>simp at ha
      | 9,ho=>simp at hc
      | i+10,ho=>simp at ho
    . intro p c' o hp ho a w' us gs K' hl hJ hF hk
      match p,hp with
      | 0,hp =>
       (obtain rfl:9=c':=by simpa using hp);simp only [gA,gB,gC,gD] at ho;subst ho;obtain rfl:us=[]:=List.eq_nil_of_length_eq_zero hl;obtain ⟨g11,hg11,e11⟩:=hF.ptr 8 11 rfl rfl rfl rfl;have e49:=hF.pure 7 49 (.agg #[.int .i64 1,.int .i64 col,.int .i64 0]) rfl rfl rfl rfl rfl;exact qCh 116 (.tmp 11) (.tmp 49) rfl g11 116 _ _ e11 e49 (by exact qCo) (by simp [Value.oneCell']) (hJ.blk hg11 (by simp)) rfl (hk undef _ (hJ.store hg11 rfl))
      | p+1,hp=>simp at hp
    intro us gs w4 hl hgs hJ;obtain ⟨u0,rfl⟩:=qBv hl;obtain ⟨g8,hg8⟩:=Option.isSome_iff_exists.1 (hgs 8 rfl)
    first | (rename_i hK;refine hK _ _ ?_;clear hK) | (rename_i hK hK_1;refine hK _ _ ?_;clear hK) | (rename_i hK hK_1 hK_2;refine hK _ _ ?_;clear hK) | (rename_i hK hK_1 hK_2 hK_3;refine hK _ _ ?_;clear hK)
    generalize hL:qFy _ _ _ _ _ _=L;obtain rfl:L=[(42,.pointer (some ⟨wr.heap.size,0,none⟩)),(43,.int .i64 1),(44,.pointer (some ⟨wr.heap.size,1,none⟩)),(45,.slice (some ⟨b0,off0,none⟩) 6 c0),(46,.pointer (some ⟨b0,off0,none⟩)),(47,.pointer (some ⟨b0,off0+1,none⟩)),(48,.int .i64 col),(49,.agg #[.int .i64 1,.int .i64 col,.int .i64 0]),(11,.pointer ((gs 8).map fun g=>⟨g,0,none⟩))]:=hL.symm.trans (by kernel_rfl);rw [hg8];clear hL hl;simp only [Act.put,Option.map_some,List.foldl_cons,List.foldl_nil,List.setIfInBounds_toArray,List.set_cons_zero,List.set_cons_succ];obtain ⟨hgl8,hgb8⟩:=hJ.va g8 hg8;rw [if_neg (by simp)] at hgb8;have hxj:=hJ.ext;clear hJ hgs hg8;have HX4:=gH (HX2.out.trans hxj);have HB4:=gH (HB2.out.ext hxj);have HD4:=gH (HDc.out.ext HX4.out);have HF4:=gH (HF2.out.ext hxj);have HG4:=gH hgb8;have hlo8:wr.heap.size<=g8:=Nat.le_trans HX2.out.size hgl8;have hz4:=HX4.out.size;(have hc4:=fun o=>HB4.out.cell o);clear hgb8 hxj hgl8 kb0 kb1 hcol';unfold wDOC;go_wp2_with fail;refine (zDp _).mono ?_;rintro e wz ⟨rfl,hz⟩;obtain rfl:=hz;go_wp2_with fail;refine (zLs gd 1 A0 c0 _ HD4.out HF4.out).mono ?_;rintro e w5 ⟨rfl,hd5,hb5⟩;have HG5:=gH (hb5.blkT HD4.out.typed HG4.out (by decide));have HX5:=gH (hb5.own (HX.out.trans HX4.out) hgd1);have HX6:=gH (HX5.out.put (Nat.le_trans hxs hlo8) 116 #[.int .i64 0,.int .i64 0,.int .i64 0]);(have hne8:g8≠gd:=by have:=HgL.out;omega)
    have HD6:=gH (hd5.put_other (t':=116) hne8 #[.int .i64 0,.int .i64 0,.int .i64 0]);clear hd5 hb5;(have sgc0:=fun o=>(HG5.out).cell o);(have sgf0:=fun o=>(HG5.out).frozen o);have sge0:w5.setCell ⟨g8,0,none⟩ (.int .i64 0)=putB w5 g8 116 #[.int .i64 0,.int .i64 col,.int .i64 0]:=qAd (HG5.out) 0 _;(have sgc1:=fun o=>((HG5.out).put #[.int .i64 0,.int .i64 col,.int .i64 0]).cell o);(have sgf1:=fun o=>((HG5.out).put #[.int .i64 0,.int .i64 col,.int .i64 0]).frozen o);(have sge1:(putB w5 g8 116 #[.int .i64 0,.int .i64 col,.int .i64 0]).setCell ⟨g8,1,none⟩ (.int .i64 0)=putB w5 g8 116 #[.int .i64 0,.int .i64 0,.int .i64 0]:=by rw [qAd ((HG5.out).put _) 1 _,qBa];rfl);(have sgc2:=fun o=>((HG5.out).put #[.int .i64 0,.int .i64 0,.int .i64 0]).cell o);(have sgf2:=fun o=>((HG5.out).put #[.int .i64 0,.int .i64 0,.int .i64 0]).frozen o);(have sge2:(putB w5 g8 116 #[.int .i64 0,.int .i64 0,.int .i64 0]).setCell ⟨g8,2,none⟩ (.int .i64 0)=putB w5 g8 116 #[.int .i64 0,.int .i64 0,.int .i64 0]:=by rw [qAd ((HG5.out).put _) 2 _,qBa];rfl);(have sgc3:=fun o=>((HG5.out).put #[.int .i64 0,.int .i64 0,.int .i64 0]).cell o);(have sgf3:=fun o=>((HG5.out).put #[.int .i64 0,.int .i64 0,.int .i64 0]).frozen o);go_wp2_with fail;exact ⟨⟨1,by omega,rfl,rfl,HX6.out,.inr (.inl ⟨rfl,rfl,HD6.out⟩)⟩,by simp [intOf]⟩
  . skip
    have HX:=gH hx;have HDc:=gH hdc;have hxs:=hx.size;have ck0:=HX.out.cell HL1.out.1;have ck1:=HX.out.cell HL1.out.2.1;simp only [Nat.reduceMul,Nat.reduceAdd] at ck0 ck1;have HF:=gH (HL1.out.2.2.ext HX.out);have hxa:=(Ext.refl wr).alloc (.cells #[.int .i64 2,.slice A1 7 c1] 119);have HXa:=gH hxa;have HBa:=gH (Blk.new wr 119 #[.int .i64 2,.slice A1 7 c1]);have HWd:=gH (qSv 2 A1 7 c1 (qDz evtL 0 evtL) ⟨wEVT,_,false⟩ _ (HF.out.ext hxa) rfl rfl (by decide));have HgL:=gH (Nat.lt_of_lt_of_le HDc.out.lt (Nat.le_refl _));clear hx hxa hdc;go_wp2_with fail;refine HWd.out.mono ?_;rintro e w2 ⟨rfl,hx2⟩;have HX2:=gH (HXa.out.trans hx2);have HB2:=gH (HBa.out.ext hx2);have HF2:=gH (HF.out.ext HX2.out);clear hx2 HWd HBa HXa;obtain ⟨b1,off1,f1,hA1,hf1,hcf1⟩:=HF2.out.at_ (i:=0) (by decide);have hcol:=hcf1 1 _ rfl;have hfe:some f1=some ⟨wEVT,_,false⟩:=hf1.symm.trans rfl;obtain rfl:=Option.some.inj hfe;simp only [Nat.zero_mul,Nat.add_zero] at hcol;have kb0:=HB2.out.cell 0;have kb1:=HB2.out.cell 1;simp only [gA,gB,gC] at kb0 kb1;rw [hA1] at kb1;have HA:=gH hA1;clear hcf1 hf1 hfe hA1;obtain ⟨col,hcc⟩:∃ col:Int,Value.int .i64 col = .int .i64 ((begF (evtL) 0:Nat)+1):=⟨_,rfl⟩;have hcol':w2.cell? ⟨b1,off1+1,none⟩=some (.int .i64 col):=hcol.trans (congrArg some hcc.symm);clear hcol hcc;go_wp2_with fail
    refine qBb [some 42,some 43,some 44,some 45,some 46,some 47,some 48,some 49,some 11,none] [[],[0],[],[2],[3],[4],[5],[1,6],[],[8,7,0,1,2,3,4,5,6,7,8]] [9] [8] [.pointer (some ⟨wr.heap.size,0,none⟩),.int .i64 2,.pointer (some ⟨wr.heap.size,1,none⟩),.slice (some ⟨b1,off1,none⟩) 7 c1,.pointer (some ⟨b1,off1,none⟩),.pointer (some ⟨b1,off1+1,none⟩),.int .i64 col,.agg #[.int .i64 2,.int .i64 col,.int .i64 0],undef,undef] (fun _=>.cells #[.int .i64 0,.int .i64 0,.int .i64 0] 116) (VrJ 116 8 #[.int .i64 0,.int .i64 0,.int .i64 0] #[.int .i64 2,.int .i64 col,.int .i64 0] w2) (by kernel_rfl) (by kernel_rfl) (by kernel_rfl) (by kernel_rfl) (by kernel_rfl) (by kernel_rfl) (by kernel_rfl) (by decide) (by kernel_rfl) ?_ ?_ ?_ ?_ ?_ ?_
    . exact VrJ.start w2
    . intro i o ho ha a w' K' hk
      match i,ho with
      | 0,ho | 1,ho | 2,ho | 3,ho | 4,ho | 5,ho | 6,ho | 7,ho=>simp at ha
      | 8,ho =>
       simp only [gA,gB,gC,gD] at ho;subst ho;exact qDv rfl Tryz.zeroValue116 hk
      | 9,ho=>simp at ha
      | i+10,ho=>simp at ho
    . intro i ha us gs w' hJ hn hlim
      match i,ha with
      | 0,ha | 1,ha | 2,ha | 3,ha | 4,ha | 5,ha | 6,ha | 7,ha=>simp at ha
      | 8,ha=>exact hJ.alloc (hlim 0 9 rfl rfl)
      | 9,ha=>simp at ha
      | i+10,ha=>simp at ha
    . intro i o ho hc ha a w' us gs K' hJ hF hlim hk
      match i,ho with
      | 0,ho =>
       simp only [gA,gB,gC,gD] at ho;subst ho;have e9:=hF.old 9 (.pointer (some ⟨wr.heap.size,0,none⟩)) rfl rfl;simp only [Act.eval] at e9;clear hF hlim hJ;go_simp;exact hk
      | 1,ho =>
       simp only [gA,gB,gC,gD] at ho;subst ho;have e42:=hF.pure 0 42 (.pointer (some ⟨wr.heap.size,0,none⟩)) rfl rfl rfl rfl rfl;have hcl:=hJ.ext.cell (kb0);simp only [Act.eval] at e42;clear hF hlim hJ;go_simp;exact hk
      | 2,ho =>
       simp only [gA,gB,gC,gD] at ho;subst ho;have e9:=hF.old 9 (.pointer (some ⟨wr.heap.size,0,none⟩)) rfl rfl;simp only [Act.eval] at e9;clear hF hlim hJ;go_simp;exact hk
      | 3,ho =>
       simp only [gA,gB,gC,gD] at ho;subst ho;have e44:=hF.pure 2 44 (.pointer (some ⟨wr.heap.size,1,none⟩)) rfl rfl rfl rfl rfl;have hcl:=hJ.ext.cell (kb1);simp only [Act.eval] at e44;clear hF hlim hJ;go_simp;exact hk
      | 4,ho =>
       simp only [gA,gB,gC,gD] at ho;subst ho;have e45:=hF.pure 3 45 (.slice (some ⟨b1,off1,none⟩) 7 c1) rfl rfl rfl rfl rfl;simp only [Act.eval] at e45;clear hF hlim hJ;go_simp;exact hk
      | 5,ho =>
       simp only [gA,gB,gC,gD] at ho;subst ho;have e46:=hF.pure 4 46 (.pointer (some ⟨b1,off1,none⟩)) rfl rfl rfl rfl rfl;simp only [Act.eval] at e46;clear hF hlim hJ;go_simp;exact hk
      | 6,ho =>
       simp only [gA,gB,gC,gD] at ho;subst ho;have e47:=hF.pure 5 47 (.pointer (some ⟨b1,off1+1,none⟩)) rfl rfl rfl rfl rfl;have hcl:=hJ.ext.cell (hcol');simp only [Act.eval] at e47;clear hF hlim hJ;go_simp;exact hk
      | 7,ho =>
       simp only [gA,gB,gC,gD] at ho;subst ho;have e43:=hF.pure 1 43 (.int .i64 2) rfl rfl rfl rfl rfl;have e48:=hF.pure 6 48 (.int .i64 col) rfl rfl rfl rfl rfl;simp [Act.eval] at e43 e48;clear hF hlim hJ;go_simp;exact hk
      | 8,ho=>simp at ha
      | 9,ho=>simp at hc
      | i+10,ho=>simp at ho
    . intro p c' o hp ho a w' us gs K' hl hJ hF hk
      match p,hp with
      | 0,hp =>
       (obtain rfl:9=c':=by simpa using hp);simp only [gA,gB,gC,gD] at ho;subst ho;obtain rfl:us=[]:=List.eq_nil_of_length_eq_zero hl;obtain ⟨g11,hg11,e11⟩:=hF.ptr 8 11 rfl rfl rfl rfl;have e49:=hF.pure 7 49 (.agg #[.int .i64 2,.int .i64 col,.int .i64 0]) rfl rfl rfl rfl rfl;exact qCh 116 (.tmp 11) (.tmp 49) rfl g11 116 _ _ e11 e49 (by exact qCo) (by simp [Value.oneCell']) (hJ.blk hg11 (by simp)) rfl (hk undef _ (hJ.store hg11 rfl))
      | p+1,hp=>simp at hp
    intro us gs w4 hl hgs hJ;obtain ⟨u0,rfl⟩:=qBv hl;obtain ⟨g8,hg8⟩:=Option.isSome_iff_exists.1 (hgs 8 rfl)
    first | (rename_i hK;refine hK _ _ ?_;clear hK) | (rename_i hK hK_1;refine hK _ _ ?_;clear hK) | (rename_i hK hK_1 hK_2;refine hK _ _ ?_;clear hK) | (rename_i hK hK_1 hK_2 hK_3;refine hK _ _ ?_;clear hK)
    generalize hL:qFy _ _ _ _ _ _=L;obtain rfl:L=[(42,.pointer (some ⟨wr.heap.size,0,none⟩)),(43,.int .i64 2),(44,.pointer (some ⟨wr.heap.size,1,none⟩)),(45,.slice (some ⟨b1,off1,none⟩) 7 c1),(46,.pointer (some ⟨b1,off1,none⟩)),(47,.pointer (some ⟨b1,off1+1,none⟩)),(48,.int .i64 col),(49,.agg #[.int .i64 2,.int .i64 col,.int .i64 0]),(11,.pointer ((gs 8).map fun g=>⟨g,0,none⟩))]:=hL.symm.trans (by kernel_rfl);rw [hg8];clear hL hl;simp only [Act.put,Option.map_some,List.foldl_cons,List.foldl_nil,List.setIfInBounds_toArray,List.set_cons_zero,List.set_cons_succ];obtain ⟨hgl8,hgb8⟩:=hJ.va g8 hg8;rw [if_neg (by simp)] at hgb8;have hxj:=hJ.ext;clear hJ hgs hg8;have HX4:=gH (HX2.out.trans hxj);have HB4:=gH (HB2.out.ext hxj);have HD4:=gH (HDc.out.ext HX4.out);have HF4:=gH (HF2.out.ext hxj);have HG4:=gH hgb8;have hlo8:wr.heap.size<=g8:=Nat.le_trans HX2.out.size hgl8;have hz4:=HX4.out.size;(have hc4:=fun o=>HB4.out.cell o);clear hgb8 hxj hgl8 kb0 kb1 hcol';unfold wEVT wDOC;go_wp2_with fail;refine (zDq _).mono ?_;rintro e wz ⟨rfl,hz⟩;obtain rfl:=hz;go_wp2_with fail;refine (zLt gd 2 A1 c1 _ HD4.out HF4.out).mono ?_;rintro e w5 ⟨ge,ce,rfl,hd5,ho5,hb5⟩;have HG5:=gH (hb5.blkT HD4.out.typed HG4.out (by decide));have HX5:=gH (hb5.own (HX.out.trans HX4.out) hgd1);have HX6:=gH (HX5.out.put (Nat.le_trans hxs hlo8) 116 #[.int .i64 0,.int .i64 0,.int .i64 0]);(have hne8:g8≠gd:=by have:=HgL.out;omega)
    have HD6:=gH (hd5.put_other (t':=116) hne8 #[.int .i64 0,.int .i64 0,.int .i64 0]);have HO6:=gH (qBi (cs:=#[.int .i64 0,.int .i64 0,.int .i64 0]) (qBo ho5 (Nat.le_trans hxs hz4)) HG5.out (by decide));clear hd5 hb5 ho5;(have sgc0:=fun o=>(HG5.out).cell o);(have sgf0:=fun o=>(HG5.out).frozen o);have sge0:w5.setCell ⟨g8,0,none⟩ (.int .i64 0)=putB w5 g8 116 #[.int .i64 0,.int .i64 col,.int .i64 0]:=qAd (HG5.out) 0 _;(have sgc1:=fun o=>((HG5.out).put #[.int .i64 0,.int .i64 col,.int .i64 0]).cell o);(have sgf1:=fun o=>((HG5.out).put #[.int .i64 0,.int .i64 col,.int .i64 0]).frozen o);(have sge1:(putB w5 g8 116 #[.int .i64 0,.int .i64 col,.int .i64 0]).setCell ⟨g8,1,none⟩ (.int .i64 0)=putB w5 g8 116 #[.int .i64 0,.int .i64 0,.int .i64 0]:=by rw [qAd ((HG5.out).put _) 1 _,qBa];rfl);(have sgc2:=fun o=>((HG5.out).put #[.int .i64 0,.int .i64 0,.int .i64 0]).cell o);(have sgf2:=fun o=>((HG5.out).put #[.int .i64 0,.int .i64 0,.int .i64 0]).frozen o);(have sge2:(putB w5 g8 116 #[.int .i64 0,.int .i64 0,.int .i64 0]).setCell ⟨g8,2,none⟩ (.int .i64 0)=putB w5 g8 116 #[.int .i64 0,.int .i64 0,.int .i64 0]:=by rw [qAd ((HG5.out).put _) 2 _,qBa];rfl);(have sgc3:=fun o=>((HG5.out).put #[.int .i64 0,.int .i64 0,.int .i64 0]).cell o);(have sgf3:=fun o=>((HG5.out).put #[.int .i64 0,.int .i64 0,.int .i64 0]).frozen o);go_wp2_with fail
    exact ⟨⟨2,by omega,rfl,rfl,HX6.out,.inr (.inr (.inl ⟨rfl,rfl,ge,ce,HD6.out,HO6.out⟩))⟩,by simp [intOf]⟩
  . skip
    have HX:=gH hx;have HDc:=gH hdc;have HEv:=gH hoe;have hge1:w1.heap.size<=ge:=qBg hoe ge rfl;have hxs:=hx.size;have ck0:=HX.out.cell HL2.out.1;have ck1:=HX.out.cell HL2.out.2.1;simp only [Nat.reduceMul,Nat.reduceAdd] at ck0 ck1;have HF:=gH (HL2.out.2.2.ext HX.out);have hxa:=(Ext.refl wr).alloc (.cells #[.int .i64 3,.slice A2 2 c2] 119);have HXa:=gH hxa;have HBa:=gH (Blk.new wr 119 #[.int .i64 3,.slice A2 2 c2]);have HWd:=gH (qSv 3 A2 2 c2 (qDz (rowL tHi) 0 (rowL tHi)) ⟨wROW,_,false⟩ _ (HF.out.ext hxa) rfl rfl (by decide));have HgL:=gH (Nat.lt_of_lt_of_le HDc.out.lt (Nat.le_refl _));clear hx hxa hdc hoe;go_wp2_with fail;refine HWd.out.mono ?_;rintro e w2 ⟨rfl,hx2⟩;have HX2:=gH (HXa.out.trans hx2);have HB2:=gH (HBa.out.ext hx2);have HF2:=gH (HF.out.ext HX2.out);clear hx2 HWd HBa HXa;obtain ⟨b2,off2,f2,hA2,hf2,hcf2⟩:=HF2.out.at_ (i:=0) (by decide);have hcol:=hcf2 1 _ rfl;have hfe:some f2=some ⟨wROW,_,false⟩:=hf2.symm.trans rfl;obtain rfl:=Option.some.inj hfe;simp only [Nat.zero_mul,Nat.add_zero] at hcol;have kb0:=HB2.out.cell 0;have kb1:=HB2.out.cell 1;simp only [gA,gB,gC] at kb0 kb1;rw [hA2] at kb1;have HA:=gH hA2;clear hcf2 hf2 hfe hA2;obtain ⟨col,hcc⟩:∃ col:Int,Value.int .i64 col = .int .i64 ((begF (rowL tHi) 0:Nat)+1):=⟨_,rfl⟩;have hcol':w2.cell? ⟨b2,off2+1,none⟩=some (.int .i64 col):=hcol.trans (congrArg some hcc.symm);clear hcol hcc;go_wp2_with fail
    refine qBb [some 42,some 43,some 44,some 45,some 46,some 47,some 48,some 49,some 11,none] [[],[0],[],[2],[3],[4],[5],[1,6],[],[8,7,0,1,2,3,4,5,6,7,8]] [9] [8] [.pointer (some ⟨wr.heap.size,0,none⟩),.int .i64 3,.pointer (some ⟨wr.heap.size,1,none⟩),.slice (some ⟨b2,off2,none⟩) 2 c2,.pointer (some ⟨b2,off2,none⟩),.pointer (some ⟨b2,off2+1,none⟩),.int .i64 col,.agg #[.int .i64 3,.int .i64 col,.int .i64 0],undef,undef] (fun _=>.cells #[.int .i64 0,.int .i64 0,.int .i64 0] 116) (VrJ 116 8 #[.int .i64 0,.int .i64 0,.int .i64 0] #[.int .i64 3,.int .i64 col,.int .i64 0] w2) (by kernel_rfl) (by kernel_rfl) (by kernel_rfl) (by kernel_rfl) (by kernel_rfl) (by kernel_rfl) (by kernel_rfl) (by decide) (by kernel_rfl) ?_ ?_ ?_ ?_ ?_ ?_
    . exact VrJ.start w2
    . intro i o ho ha a w' K' hk
      match i,ho with
      | 0,ho | 1,ho | 2,ho | 3,ho | 4,ho | 5,ho | 6,ho | 7,ho=>simp at ha
      | 8,ho =>
       simp only [gA,gB,gC,gD] at ho;subst ho;exact qDv rfl Tryz.zeroValue116 hk
      | 9,ho=>simp at ha
      | i+10,ho=>simp at ho
    . intro i ha us gs w' hJ hn hlim
      match i,ha with
      | 0,ha | 1,ha | 2,ha | 3,ha | 4,ha | 5,ha | 6,ha | 7,ha=>simp at ha
      | 8,ha=>exact hJ.alloc (hlim 0 9 rfl rfl)
      | 9,ha=>simp at ha
      | i+10,ha=>simp at ha
    . intro i o ho hc ha a w' us gs K' hJ hF hlim hk
      match i,ho with
      | 0,ho =>
       simp only [gA,gB,gC,gD] at ho;subst ho;have e9:=hF.old 9 (.pointer (some ⟨wr.heap.size,0,none⟩)) rfl rfl;simp only [Act.eval] at e9;clear hF hlim hJ;go_simp;exact hk
      | 1,ho =>
       simp only [gA,gB,gC,gD] at ho;subst ho;have e42:=hF.pure 0 42 (.pointer (some ⟨wr.heap.size,0,none⟩)) rfl rfl rfl rfl rfl;have hcl:=hJ.ext.cell (kb0);simp only [Act.eval] at e42;clear hF hlim hJ;go_simp;exact hk
      | 2,ho =>
       simp only [gA,gB,gC,gD] at ho;subst ho;have e9:=hF.old 9 (.pointer (some ⟨wr.heap.size,0,none⟩)) rfl rfl;simp only [Act.eval] at e9;clear hF hlim hJ;go_simp;exact hk
      | 3,ho =>
       simp only [gA,gB,gC,gD] at ho;subst ho;have e44:=hF.pure 2 44 (.pointer (some ⟨wr.heap.size,1,none⟩)) rfl rfl rfl rfl rfl;have hcl:=hJ.ext.cell (kb1);simp only [Act.eval] at e44;clear hF hlim hJ;go_simp;exact hk
      | 4,ho =>
       simp only [gA,gB,gC,gD] at ho;subst ho;have e45:=hF.pure 3 45 (.slice (some ⟨b2,off2,none⟩) 2 c2) rfl rfl rfl rfl rfl;simp only [Act.eval] at e45;clear hF hlim hJ;go_simp;exact hk
      | 5,ho =>
       simp only [gA,gB,gC,gD] at ho;subst ho;have e46:=hF.pure 4 46 (.pointer (some ⟨b2,off2,none⟩)) rfl rfl rfl rfl rfl;simp only [Act.eval] at e46;clear hF hlim hJ;go_simp;exact hk
      | 6,ho =>
       simp only [gA,gB,gC,gD] at ho;subst ho;have e47:=hF.pure 5 47 (.pointer (some ⟨b2,off2+1,none⟩)) rfl rfl rfl rfl rfl;have hcl:=hJ.ext.cell (hcol');simp only [Act.eval] at e47;clear hF hlim hJ;go_simp;exact hk
      | 7,ho =>
       simp only [gA,gB,gC,gD] at ho;subst ho;have e43:=hF.pure 1 43 (.int .i64 3) rfl rfl rfl rfl rfl;have e48:=hF.pure 6 48 (.int .i64 col) rfl rfl rfl rfl rfl;simp [Act.eval] at e43 e48;clear hF hlim hJ;go_simp;exact hk
      | 8,ho=>simp at ha
      | 9,ho=>simp at hc
      | i+10,ho=>simp at ho
    . intro p c' o hp ho a w' us gs K' hl hJ hF hk
      match p,hp with
      | 0,hp =>
       (obtain rfl:9=c':=by simpa using hp);simp only [gA,gB,gC,gD] at ho;subst ho;obtain rfl:us=[]:=List.eq_nil_of_length_eq_zero hl;obtain ⟨g11,hg11,e11⟩:=hF.ptr 8 11 rfl rfl rfl rfl;have e49:=hF.pure 7 49 (.agg #[.int .i64 3,.int .i64 col,.int .i64 0]) rfl rfl rfl rfl rfl;exact qCh 116 (.tmp 11) (.tmp 49) rfl g11 116 _ _ e11 e49 (by exact qCo) (by simp [Value.oneCell']) (hJ.blk hg11 (by simp)) rfl (hk undef _ (hJ.store hg11 rfl))
      | p+1,hp=>simp at hp
    intro us gs w4 hl hgs hJ;obtain ⟨u0,rfl⟩:=qBv hl;obtain ⟨g8,hg8⟩:=Option.isSome_iff_exists.1 (hgs 8 rfl)
    first | (rename_i hK;refine hK _ _ ?_;clear hK) | (rename_i hK hK_1;refine hK _ _ ?_;clear hK) | (rename_i hK hK_1 hK_2;refine hK _ _ ?_;clear hK) | (rename_i hK hK_1 hK_2 hK_3;refine hK _ _ ?_;clear hK)
    generalize hL:qFy _ _ _ _ _ _=L;obtain rfl:L=[(42,.pointer (some ⟨wr.heap.size,0,none⟩)),(43,.int .i64 3),(44,.pointer (some ⟨wr.heap.size,1,none⟩)),(45,.slice (some ⟨b2,off2,none⟩) 2 c2),(46,.pointer (some ⟨b2,off2,none⟩)),(47,.pointer (some ⟨b2,off2+1,none⟩)),(48,.int .i64 col),(49,.agg #[.int .i64 3,.int .i64 col,.int .i64 0]),(11,.pointer ((gs 8).map fun g=>⟨g,0,none⟩))]:=hL.symm.trans (by kernel_rfl);rw [hg8];clear hL hl;simp only [Act.put,Option.map_some,List.foldl_cons,List.foldl_nil,List.setIfInBounds_toArray,List.set_cons_zero,List.set_cons_succ];obtain ⟨hgl8,hgb8⟩:=hJ.va g8 hg8;rw [if_neg (by simp)] at hgb8;have hxj:=hJ.ext;clear hJ hgs hg8;have HX4:=gH (HX2.out.trans hxj);have HB4:=gH (HB2.out.ext hxj);have HD4:=gH (HDc.out.ext HX4.out);have HF4:=gH (HF2.out.ext hxj);have HG4:=gH hgb8;have HE4:=gH (qAh HEv.out HX4.out);have HTe:=gH (qAt HE4.out ge rfl);have hlo8:wr.heap.size<=g8:=Nat.le_trans HX2.out.size hgl8;have hz4:=HX4.out.size;(have hc4:=fun o=>HB4.out.cell o);clear hgb8 hxj hgl8 kb0 kb1 hcol';unfold wROW wEVT;go_wp2_with fail;refine (zDr _).mono ?_;rintro e wz ⟨rfl,hz⟩;obtain rfl:=hz;go_wp2_with fail;refine (zLv tHi gd ge ce w1.heap.size 3 A2 c2 _ (HE.out.ext (HXs.out.trans (HX.out.trans HX4.out))) zKi (by decide) zQr (by decide) HD4.out HE4.out HF4.out).mono ?_;rintro e w5 ⟨gr,cr,gx,cx,rfl,hd5,ho5,hr5,hu5,hb5⟩
    have HG5:=gH (hb5.blkT HTe.out HG4.out (by decide));have HX5:=gH (hb5.own (HX.out.trans HX4.out) hge1);have HX6:=gH (HX5.out.put (Nat.le_trans hxs hlo8) 116 #[.int .i64 0,.int .i64 0,.int .i64 0]);(have hne8:g8≠gd:=by have:=HgL.out;omega);have HD6:=gH (hd5.put_other (t':=116) hne8 #[.int .i64 0,.int .i64 0,.int .i64 0]);have HO6:=gH (qBi (cs:=#[.int .i64 0,.int .i64 0,.int .i64 0]) ho5 HG5.out (by decide));have HR6:=gH (qBi (cs:=#[.int .i64 0,.int .i64 0,.int .i64 0]) (qBo hr5 (Nat.le_trans hxs hz4)) HG5.out (by decide));have HU6:=gH (qBi (cs:=#[.int .i64 0,.int .i64 0,.int .i64 0]) (qBo hu5 (Nat.le_trans hxs hz4)) HG5.out (by decide));clear hd5 hb5 ho5 hr5 hu5;(have sgc0:=fun o=>(HG5.out).cell o);(have sgf0:=fun o=>(HG5.out).frozen o);have sge0:w5.setCell ⟨g8,0,none⟩ (.int .i64 0)=putB w5 g8 116 #[.int .i64 0,.int .i64 col,.int .i64 0]:=qAd (HG5.out) 0 _;(have sgc1:=fun o=>((HG5.out).put #[.int .i64 0,.int .i64 col,.int .i64 0]).cell o);(have sgf1:=fun o=>((HG5.out).put #[.int .i64 0,.int .i64 col,.int .i64 0]).frozen o);(have sge1:(putB w5 g8 116 #[.int .i64 0,.int .i64 col,.int .i64 0]).setCell ⟨g8,1,none⟩ (.int .i64 0)=putB w5 g8 116 #[.int .i64 0,.int .i64 0,.int .i64 0]:=by rw [qAd ((HG5.out).put _) 1 _,qBa];rfl);(have sgc2:=fun o=>((HG5.out).put #[.int .i64 0,.int .i64 0,.int .i64 0]).cell o)
    (have sgf2:=fun o=>((HG5.out).put #[.int .i64 0,.int .i64 0,.int .i64 0]).frozen o);(have sge2:(putB w5 g8 116 #[.int .i64 0,.int .i64 0,.int .i64 0]).setCell ⟨g8,2,none⟩ (.int .i64 0)=putB w5 g8 116 #[.int .i64 0,.int .i64 0,.int .i64 0]:=by rw [qAd ((HG5.out).put _) 2 _,qBa];rfl);(have sgc3:=fun o=>((HG5.out).put #[.int .i64 0,.int .i64 0,.int .i64 0]).cell o);(have sgf3:=fun o=>((HG5.out).put #[.int .i64 0,.int .i64 0,.int .i64 0]).frozen o);go_wp2_with fail;exact ⟨⟨3,by omega,rfl,rfl,HX6.out,.inr (.inr (.inr ⟨rfl,rfl,ge,ce,gr,cr,gx,cx,HD6.out,HO6.out,HR6.out,HU6.out⟩))⟩,by simp [intOf]⟩
  . have HX:=gH hx
    have HDc:=gH hdc;have HO:=gH (zKw hoe hor hox);have HXf:=gH (HXs.out.trans HX.out);have HBf:=gH (HBs.out.ext HX.out);clear hx hdc hoe hor hox;go_wp2_with (refine qAa rfl 27 (.tmp 6) rfl gd 27 _ _ (by exact rfl) (by exact HDc.out) Tryz.underlying27 rfl (by exact qAb) ?_);have HCk:=gH (qDb (nDoc tHi) (nH ge ce) _ (HE.out.ext HXf.out) HO.out.at_ zKv (show 0<=9223372036854775807 by decide) (show 1<=1000000 by decide) (show 0<=9223372036854775807 by decide));rw [zKu] at HCk;rw [qLj] at HCk;refine HCk.out.mono ?_;rintro e w5 ⟨rfl,hx5⟩;have HX5:=gH (HXf.out.trans hx5);have HO5:=gH (HO.out.ext hx5);have HB5:=gH (HBf.out.ext hx5);have HD5:=gH (HDc.out.ext hx5);clear hx5 HCk;(have hd5:=fun o=>HD5.out.cell o);unfold qGb at hd5;(have sgc0:=fun o=>(HB5.out).cell o);(have sgf0:=fun o=>(HB5.out).frozen o);have sge0:w5.setCell ⟨w.heap.size,0,none⟩ (.string ⟨#[]⟩)=putB w5 w.heap.size 27 #[.string ⟨#[]⟩,.string ⟨#[]⟩,.int .u8 0,.bool false,.int .i64 0,.slice none 0 0,.slice none 0 0,.slice none 0 0]:=qAd (HB5.out) 0 _;(have sgc1:=fun o=>((HB5.out).put #[.string ⟨#[]⟩,.string ⟨#[]⟩,.int .u8 0,.bool false,.int .i64 0,.slice none 0 0,.slice none 0 0,.slice none 0 0]).cell o);(have sgf1:=fun o=>((HB5.out).put #[.string ⟨#[]⟩,.string ⟨#[]⟩,.int .u8 0,.bool false,.int .i64 0,.slice none 0 0,.slice none 0 0,.slice none 0 0]).frozen o)
    (have sge1:(putB w5 w.heap.size 27 #[.string ⟨#[]⟩,.string ⟨#[]⟩,.int .u8 0,.bool false,.int .i64 0,.slice none 0 0,.slice none 0 0,.slice none 0 0]).setCell ⟨w.heap.size,1,none⟩ (.string ⟨#[]⟩)=putB w5 w.heap.size 27 #[.string ⟨#[]⟩,.string ⟨#[]⟩,.int .u8 0,.bool false,.int .i64 0,.slice none 0 0,.slice none 0 0,.slice none 0 0]:=by rw [qAd ((HB5.out).put _) 1 _,qBa];rfl);(have sgc2:=fun o=>((HB5.out).put #[.string ⟨#[]⟩,.string ⟨#[]⟩,.int .u8 0,.bool false,.int .i64 0,.slice none 0 0,.slice none 0 0,.slice none 0 0]).cell o);(have sgf2:=fun o=>((HB5.out).put #[.string ⟨#[]⟩,.string ⟨#[]⟩,.int .u8 0,.bool false,.int .i64 0,.slice none 0 0,.slice none 0 0,.slice none 0 0]).frozen o);(have sge2:(putB w5 w.heap.size 27 #[.string ⟨#[]⟩,.string ⟨#[]⟩,.int .u8 0,.bool false,.int .i64 0,.slice none 0 0,.slice none 0 0,.slice none 0 0]).setCell ⟨w.heap.size,2,none⟩ (.int .u8 3)=putB w5 w.heap.size 27 #[.string ⟨#[]⟩,.string ⟨#[]⟩,.int .u8 3,.bool false,.int .i64 0,.slice none 0 0,.slice none 0 0,.slice none 0 0]:=by rw [qAd ((HB5.out).put _) 2 _,qBa];rfl);(have sgc3:=fun o=>((HB5.out).put #[.string ⟨#[]⟩,.string ⟨#[]⟩,.int .u8 3,.bool false,.int .i64 0,.slice none 0 0,.slice none 0 0,.slice none 0 0]).cell o);(have sgf3:=fun o=>((HB5.out).put #[.string ⟨#[]⟩,.string ⟨#[]⟩,.int .u8 3,.bool false,.int .i64 0,.slice none 0 0,.slice none 0 0,.slice none 0 0]).frozen o)
    (have sge3:(putB w5 w.heap.size 27 #[.string ⟨#[]⟩,.string ⟨#[]⟩,.int .u8 3,.bool false,.int .i64 0,.slice none 0 0,.slice none 0 0,.slice none 0 0]).setCell ⟨w.heap.size,3,none⟩ (.bool false)=putB w5 w.heap.size 27 #[.string ⟨#[]⟩,.string ⟨#[]⟩,.int .u8 3,.bool false,.int .i64 0,.slice none 0 0,.slice none 0 0,.slice none 0 0]:=by rw [qAd ((HB5.out).put _) 3 _,qBa];rfl);(have sgc4:=fun o=>((HB5.out).put #[.string ⟨#[]⟩,.string ⟨#[]⟩,.int .u8 3,.bool false,.int .i64 0,.slice none 0 0,.slice none 0 0,.slice none 0 0]).cell o);(have sgf4:=fun o=>((HB5.out).put #[.string ⟨#[]⟩,.string ⟨#[]⟩,.int .u8 3,.bool false,.int .i64 0,.slice none 0 0,.slice none 0 0,.slice none 0 0]).frozen o);(have sge4:(putB w5 w.heap.size 27 #[.string ⟨#[]⟩,.string ⟨#[]⟩,.int .u8 3,.bool false,.int .i64 0,.slice none 0 0,.slice none 0 0,.slice none 0 0]).setCell ⟨w.heap.size,4,none⟩ (.int .i64 1)=putB w5 w.heap.size 27 #[.string ⟨#[]⟩,.string ⟨#[]⟩,.int .u8 3,.bool false,.int .i64 1,.slice none 0 0,.slice none 0 0,.slice none 0 0]:=by rw [qAd ((HB5.out).put _) 4 _,qBa];rfl);(have sgc5:=fun o=>((HB5.out).put #[.string ⟨#[]⟩,.string ⟨#[]⟩,.int .u8 3,.bool false,.int .i64 1,.slice none 0 0,.slice none 0 0,.slice none 0 0]).cell o);(have sgf5:=fun o=>((HB5.out).put #[.string ⟨#[]⟩,.string ⟨#[]⟩,.int .u8 3,.bool false,.int .i64 1,.slice none 0 0,.slice none 0 0,.slice none 0 0]).frozen o)
    (have sge5:(putB w5 w.heap.size 27 #[.string ⟨#[]⟩,.string ⟨#[]⟩,.int .u8 3,.bool false,.int .i64 1,.slice none 0 0,.slice none 0 0,.slice none 0 0]).setCell ⟨w.heap.size,5,none⟩ (.slice none 0 0)=putB w5 w.heap.size 27 #[.string ⟨#[]⟩,.string ⟨#[]⟩,.int .u8 3,.bool false,.int .i64 1,.slice none 0 0,.slice none 0 0,.slice none 0 0]:=by rw [qAd ((HB5.out).put _) 5 _,qBa];rfl);(have sgc6:=fun o=>((HB5.out).put #[.string ⟨#[]⟩,.string ⟨#[]⟩,.int .u8 3,.bool false,.int .i64 1,.slice none 0 0,.slice none 0 0,.slice none 0 0]).cell o);(have sgf6:=fun o=>((HB5.out).put #[.string ⟨#[]⟩,.string ⟨#[]⟩,.int .u8 3,.bool false,.int .i64 1,.slice none 0 0,.slice none 0 0,.slice none 0 0]).frozen o);(have sge6:(putB w5 w.heap.size 27 #[.string ⟨#[]⟩,.string ⟨#[]⟩,.int .u8 3,.bool false,.int .i64 1,.slice none 0 0,.slice none 0 0,.slice none 0 0]).setCell ⟨w.heap.size,6,none⟩ (.slice (some ⟨ge,0,none⟩) 1 ce)=putB w5 w.heap.size 27 #[.string ⟨#[]⟩,.string ⟨#[]⟩,.int .u8 3,.bool false,.int .i64 1,.slice none 0 0,.slice (some ⟨ge,0,none⟩) 1 ce,.slice none 0 0]:=by rw [qAd ((HB5.out).put _) 6 _,qBa];rfl);(have sgc7:=fun o=>((HB5.out).put #[.string ⟨#[]⟩,.string ⟨#[]⟩,.int .u8 3,.bool false,.int .i64 1,.slice none 0 0,.slice (some ⟨ge,0,none⟩) 1 ce,.slice none 0 0]).cell o)
    (have sgf7:=fun o=>((HB5.out).put #[.string ⟨#[]⟩,.string ⟨#[]⟩,.int .u8 3,.bool false,.int .i64 1,.slice none 0 0,.slice (some ⟨ge,0,none⟩) 1 ce,.slice none 0 0]).frozen o);(have sge7:(putB w5 w.heap.size 27 #[.string ⟨#[]⟩,.string ⟨#[]⟩,.int .u8 3,.bool false,.int .i64 1,.slice none 0 0,.slice (some ⟨ge,0,none⟩) 1 ce,.slice none 0 0]).setCell ⟨w.heap.size,7,none⟩ (.slice none 0 0)=putB w5 w.heap.size 27 #[.string ⟨#[]⟩,.string ⟨#[]⟩,.int .u8 3,.bool false,.int .i64 1,.slice none 0 0,.slice (some ⟨ge,0,none⟩) 1 ce,.slice none 0 0]:=by rw [qAd ((HB5.out).put _) 7 _,qBa];rfl);(have sgc8:=fun o=>((HB5.out).put #[.string ⟨#[]⟩,.string ⟨#[]⟩,.int .u8 3,.bool false,.int .i64 1,.slice none 0 0,.slice (some ⟨ge,0,none⟩) 1 ce,.slice none 0 0]).cell o);(have sgf8:=fun o=>((HB5.out).put #[.string ⟨#[]⟩,.string ⟨#[]⟩,.int .u8 3,.bool false,.int .i64 1,.slice none 0 0,.slice (some ⟨ge,0,none⟩) 1 ce,.slice none 0 0]).frozen o);go_wp2_with fail;refine bodyPost_ret (v:=.tuple #[.agg (qGb (.slice (some ⟨ge,0,none⟩) 1 ce)),.slice none 0 0]) ?_ rfl ⟨ge,ce,by rw [qLj],?_,HX5.out.put (Nat.le_refl _) _ _⟩
    . exact qAq (P:=Tryz.prog) Tryz.results12 (g:=w.heap.size) rfl (by exact HB5.out.put _) Tryz.underlying27 rfl qAb
    . have hkb:∀ T:TypeId,T≠27->KB T w5 (putB w5 w.heap.size 27 (qGb (.slice (some ⟨ge,0,none⟩) 1 ce))):=fun T hn=>(ButB.put (ButB.refl w5) _ _).kb HB5.out.typed hn
      exact (HO5.out.kb (hkb _ (by decide)) (hkb _ (by decide)) (hkb _ (by decide)) (hkb _ (by decide)) (hkb _ (by decide))).le HXs.out.size
def TabX (w : World) : Prop := Lib.TabIs Tryz.prog w "internal/strconv.uint64pow10" .u64 Lib.pow10Tab
theorem TabX.ext {w w1:World} (h:TabX w) (k:Ext w w1):TabX w1:=by
 unfold TabX Lib.TabIs World.var? at *
 cases hg : Tryz.prog.globalNamed "internal/strconv.uint64pow10" with
 | none=>rw [hg] at h;simp at h
 | some g =>
  rw [hg] at h;simp only [Option.bind_some] at h ⊢
  cases hb:w.heap[g]? with
  | none=>rw [hb] at h;simp at h
  | some o =>
   rw [k.block g (Array.getElem?_eq_some_iff.1 hb).1];exact h
def decS (n:Int):ByteArray:=⟨(Lib.itoa n).toArray⟩
theorem zGb (w:World) (k:Nat) (os:Array Obj):Ext w (Sort.grow (w.drewN k) os):=(Extd.of_grow w k os).ext
theorem qFa (n:Int) (w:World) (h0:-9223372036854775808<=n) (h1:n<=9223372036854775807) (ht:TabX w):Calls Tryz.prog 89 #[.int .i64 n] w fun e w'=>e = .returned (.string (decS n))/\Ext w w':=by
 have HF:Hid (Calls Tryz.prog 227 #[.int .i64 n,.int .i64 10] w fun e w'=>e = .returned (.string (decS n))/\Ext w w'):=by
  refine (Tryz.internal_strconv_FormatInt_10 n h0 h1 w ht).mono ?_;rintro e w' ⟨rfl,k,os,rfl⟩;exact ⟨rfl,zGb w k os⟩
 clear h0 h1 ht
 have HS:Hid (Calls Tryz.prog 175 #[.int .i64 n,.int .i64 10] w fun e w'=>e = .returned (.string (decS n))/\Ext w w'):=by
  show Calls _ _ _ _ _
  go_enter Tryz.func175,Tryz.ntmps175;go_wp2_with fail;refine HF.out.mono ?_;rintro e w1 ⟨rfl,hx⟩;go_wp2_with fail;go_ret;exact ⟨rfl,hx⟩
 go_enter Tryz.func89,Tryz.ntmps89;go_wp2_with fail;refine HS.out.mono ?_;rintro e w1 ⟨rfl,hx⟩;go_wp2_with fail;go_ret;exact ⟨rfl,hx⟩
theorem qQh (w:World):Calls Tryz.prog 164 #[.string ⟨#[]⟩] w fun e w'=>e = .returned (.string ⟨#[45]⟩)/\w=w':=by
 go_enter Tryz.func164,Tryz.ntmps164;go_wp2_with fail;go_ret;exact ⟨rfl,rfl⟩
theorem qPr (w:World):Calls Tryz.prog 163 #[.agg #[.int .u8 0,.bool false,.bool false]] w fun e w'=>e = .returned (.string ⟨#[45]⟩)/\Ext w w':=by
 have HX:=gH ((Ext.refl w).alloc (.cells #[.int .u8 0,.bool false,.bool false] 42));go_enter Tryz.func163,Tryz.ntmps163;go_wp2_with fail;refine (qQh _).mono ?_;rintro e w1 ⟨rfl,rfl⟩;go_wp2_with fail;go_ret;exact ⟨rfl,HX.out⟩
def zJj (s:ByteArray):Prop:=∀ (k:Nat) (h:k<s.size),s[k].toNat≠34/\s[k].toNat≠92/\s[k].toNat≠10
def quoS (s:ByteArray):ByteArray:=⟨(34 :: (s.data.toList++[34])).toArray⟩
def QuRel (w:World) (s:ByteArray) (v i:Value) (wr:World):Prop:=∃ k:Nat,k<=s.size/\i = .int .i64 (k:Int)/\Ext w wr/\wr.ownsRow w.heap.size 5 1 v (k+1) (byC (34 :: s.data.toList.take k))
theorem zAm (s:ByteArray) (w:World) (hp:zJj s) (hs:s.size<=4294967296):Calls Tryz.prog 165 #[.string s] w fun e w'=>e = .returned (.string (quoS s))/\Ext w w':=by
 have HP:=gH hp;have HO0:Hid ((w.alloc (.cells #[.int .u8 34] 5)).ownsRow w.heap.size 5 1 (.slice (some ⟨w.heap.size,0,none⟩) 1 1) 1 (byC (34 :: s.data.toList.take 0))):=gH ⟨rfl,.inr ⟨w.heap.size,1,#[.int .u8 34],rfl,Nat.le_refl _,Blk.new w _ _,Nat.le_refl _,by simp [maxLen],rfl,by simp [byC]⟩⟩;have HX0:=gH ((Ext.refl w).alloc (.cells #[.int .u8 34] 5));clear hp;go_enter Tryz.func165,Tryz.ntmps165;go_wp2_with fail
 go_loopw [3,8] (fun v i wr=>QuRel w s v i wr) (fun _ i _=>s.size-(intOf i).toNat)
 case atStart=>exact ⟨0,Nat.zero_le _,rfl,HX0.out,HO0.out⟩
 case round =>
  obtain ⟨k,hk,rfl,hx,hown⟩:=hrel;have hxs:=hx.size
  by_cases hlt:k<s.size
  . obtain ⟨p1,p2,p3⟩:=HP.out k hlt
    have q1:((s[k].toNat:Int) == 34)=false:=beq_eq_false_iff_ne.2 (by omega);have q2:((s[k].toNat:Int) == 92)=false:=beq_eq_false_iff_ne.2 (by omega);have q3:((s[k].toNat:Int) == 10)=false:=beq_eq_false_iff_ne.2 (by omega)
    have HT:Hid (byC (34 :: s.data.toList.take (k+1))=byC (34 :: s.data.toList.take k)++[.int .u8 (s[k].toNat:Int)]):=gH (by
     have:=qRt hlt;unfold byC at this ⊢
     rw [List.flatMap_cons,this,List.flatMap_cons,List.append_assoc])
    clear p1 p2 p3;go_wp2_with (at_builtin;refine qAi rfl (.tmp 14) (.tmp 18) 176 rfl qGl Tryz.underlying176 rfl (by decide) (hown.alloc _) (by exact rfl) wr.heap.size _ (by exact rfl) (by exact Blk.new' rfl) (by exact rfl) (by simp [Value.oneCell']) (by omega) (by unfold maxLen;omega) (by simp;omega) ?_;intro v' w3 hown3 hgr);refine ⟨⟨k+1,by omega,by go_num,(hx.alloc _).grown hgr (fun q hq=>by have:=qBg hown q hq;simpa using this),?_⟩,by simp only [intOf];omega⟩;rw [HT.out];exact hown3
  . obtain rfl:k=s.size:=by omega
    have ht:s.data.toList.take s.size=s.data.toList:=List.take_of_length_le (by rw [qBl];exact Nat.le_refl _);rw [ht] at hown;clear ht;go_wp2_with (at_builtin;refine qAi rfl (.tmp 35) (.tmp 36) 176 rfl qGl Tryz.underlying176 rfl (by decide) (hown.alloc _) (by exact rfl) wr.heap.size _ (by exact rfl) (by exact Blk.new' rfl) (by exact rfl) (by simp [Value.oneCell']) (by omega) (by unfold maxLen;omega) (by simp;omega) ?_;intro v' w3 hown3 hgr;have hx3:Ext w w3:=(hx.alloc _).grown hgr (fun q hq=>by have:=qBg hown q hq;simpa using this);have hlq:(34 :: (s.data.toList++[34])).length=s.size+1+1:=(by simp [qBl]);have hb9:byC (34 :: s.data.toList)++#[Value.int .u8 34].toList=(34 :: (s.data.toList++[34])).flatMap fun c=>[Value.int .u8 (c.toNat:Int)]:=(by simp [byC]);rw [hb9,← hlq] at hown3;obtain ⟨A9,c9,rfl,hcv⟩:=qKf hown3;rw [hlq] at hcv ⊢;clear hown3 hb9 hlq hgr);go_ret;exact ⟨rfl,hx3⟩
end
end Go.Proofs.YtneffpbodfjceaaGreatDoor