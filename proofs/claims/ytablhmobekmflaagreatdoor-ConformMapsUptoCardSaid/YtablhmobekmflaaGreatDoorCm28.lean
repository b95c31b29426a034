/- Texts laid together. -/
import Derived.OwnWalk
import Derived.Test.YtablhmobekmflaaGreatDoorCm23
import Derived.Test.YtablhmobekmflaaGreatDoorCm27
import Derived.Test.YtablhmobekmflaaGreatDoorCm16
import Derived.Test.YtablhmobekmflaaGreatDoorCm17
import Derived.Test.YtablhmobekmflaaGreatDoorCm22
import Derived.Test.YtablhmobekmflaaGreatDoorCm12
import Derived.Test.YtablhmobekmflaaGreatDoorCm14
import Derived.Test.YtablhmobekmflaaGreatDoorCm15
import Derived.Test.YtablhmobekmflaaGreatDoorCm25
import Derived.Test.YtablhmobekmflaaGreatDoorCm24
import Derived.Test.YtablhmobekmflaaGreatDoorCm09
set_option linter.unusedVariables false
set_option linter.unusedSimpArgs false
set_option maxRecDepth 100000
namespace Go.Proofs.YtablhmobekmflaaGreatDoor
section
open Go.RowKit Go.Maps
def evZ:Array Value:=#[.int .i64 0,.int .i64 0,.int .i64 0,.string ⟨#[]⟩,.int .u8 0,.string ⟨#[]⟩,.slice none 0 0]
set_option maxHeartbeats 2000000 in
theorem Ev46_any (id a b:Int) (w:World):Calls Tryz.prog 47 #[.int .i64 id,.int .i64 a,.int .i64 b] w fun e w'=>∃ g1 g2,e = .returned (.agg #[.int .i64 id,.int .i64 a,.int .i64 b,.string ⟨#[]⟩,.int .u8 1,.string ⟨#[]⟩,.slice (some ⟨g2,0,none⟩) 1 1]) ∧
 Blk w' g1 171 #[.string ⟨#[72,105]⟩,.int .u8 0,.bool false,.bool false,.string ⟨#[]⟩]∧Blk w' g2 174 #[.slice (some ⟨g1,0,none⟩) 1 1]∧Ext w w':=by
 have HX:=gH ((((Ext.refl w).alloc (.cells evZ 64)).alloc (.cells #[.string ⟨#[72,105]⟩,.int .u8 0,.bool false,.bool false,.string ⟨#[]⟩] 171)).alloc (.cells #[.slice (some ⟨w.heap.size+1,0,none⟩) 1 1] 174));have HB:=gH (((Blk.new w 64 evZ).alloc (.cells #[.string ⟨#[72,105]⟩,.int .u8 0,.bool false,.bool false,.string ⟨#[]⟩] 171)).alloc (.cells #[.slice (some ⟨w.heap.size+1,0,none⟩) 1 1] 174));have H1:=gH ((Blk.new' (w:=w.alloc (.cells evZ 64)) (g:=w.heap.size+1) (t:=171) (cs:=#[.string ⟨#[72,105]⟩,.int .u8 0,.bool false,.bool false,.string ⟨#[]⟩]) (by simp)).alloc (.cells #[.slice (some ⟨w.heap.size+1,0,none⟩) 1 1] 174));have H2:=gH (Blk.new' (w:=(w.alloc (.cells evZ 64)).alloc (.cells #[.string ⟨#[72,105]⟩,.int .u8 0,.bool false,.bool false,.string ⟨#[]⟩] 171)) (g:=w.heap.size+1+1) (t:=174) (cs:=#[.slice (some ⟨w.heap.size+1,0,none⟩) 1 1]) (by simp));unfold evZ at *;go_enter Tryz.func47,Tryz.ntmps47;go_wp2_with (refine qAi rfl 64 (.tmp 6) _ rfl w.heap.size 64 _ _ (by exact rfl) (by exact rfl) (by exact HB.out) (by exact rfl) (by exact qOg) (by simp [Value.oneCell']) ?_);refine bodyPost_ret (v:=.agg #[.int .i64 id,.int .i64 a,.int .i64 b,.string ⟨#[]⟩,.int .u8 1,.string ⟨#[]⟩,.slice (some ⟨w.heap.size+1+1,0,none⟩) 1 1]) ?_ rfl ⟨_,_,rfl,H1.out.put_other (by omega) _,H2.out.put_other (by omega) _,HX.out.put (Nat.le_refl _) _ _⟩
 exact qGa (P:=Tryz.prog) Tryz.results47 (g:=w.heap.size) rfl (by exact HB.out.put _) Tryz.underlying64 rfl qOg
theorem xRow_at {w:World} {g1 g2:Nat} {e:Ev} (hr:e.rows=[[xRun]]) (h1:Blk w g1 171 #[.string ⟨#[72,105]⟩,.int .u8 0,.bool false,.bool false,.string ⟨#[]⟩]) (h2:Blk w g2 174 #[.slice (some ⟨g1,0,none⟩) 1 1]):EvAt w e (some ⟨g2,0,none⟩) 1 1:=by
 refine ⟨?_,Nat.le_refl _,by decide⟩;rw [hr]
 have one:∀ {α:Type} {C:World→Nat→Nat→α→Prop} {size g:Nat} {x:α},C w g 0 x→Sl w size C (some ⟨g,0,none⟩) 1 [x]:=fun {α C size g x} h=>by
  refine ⟨rfl,fun _=>⟨g,0,rfl,fun i y hy=>?_⟩⟩
  match i,hy with
  | 0,hy=>simp at hy;subst hy;simpa using h
  | i+1,hy=>simp at hy
 exact one ⟨some ⟨g1,0,none⟩,1,1,h2.cell 0,Nat.le_refl _,by decide,one ⟨h1.cell 0,h1.cell 1,h1.cell 2,h1.cell 3,h1.cell 4⟩⟩
theorem xDocs_at {w:World} {g1 g2 g3 g4 gE gR:Nat} (h1:Blk w g1 171 #[.string ⟨#[72,105]⟩,.int .u8 0,.bool false,.bool false,.string ⟨#[]⟩]) (h2:Blk w g2 174 #[.slice (some ⟨g1,0,none⟩) 1 1])
 (h3:Blk w g3 171 #[.string ⟨#[72,105]⟩,.int .u8 0,.bool false,.bool false,.string ⟨#[]⟩]) (h4:Blk w g4 174 #[.slice (some ⟨g3,0,none⟩) 1 1])
 (hE:Blk w gE 64 #[.int .i64 1,.int .i64 10,.int .i64 30,.string ⟨#[]⟩,.int .u8 1,.string ⟨#[]⟩,.slice (some ⟨g2,0,none⟩) 1 1,.int .i64 2,.int .i64 40,.int .i64 50,.string ⟨#[]⟩,.int .u8 1,.string ⟨#[]⟩,.slice (some ⟨g4,0,none⟩) 1 1]) (hR:Blk w gR 58 #[.string ⟨#[65]⟩,.string ⟨#[]⟩,.string ⟨#[]⟩,.int .u8 3,.bool false,.int .i64 2,.slice none 0 0,.slice (some ⟨gE,0,none⟩) 2 2,.slice none 0 0]):qCw w (some ⟨gR,0,none⟩) 1 qJe:=by
 refine ⟨rfl,fun _=>⟨gR,0,rfl,fun i y hy=>?_⟩⟩
 match i,hy with
 | i+1,hy=>simp [qJe] at hy
 | 0,hy =>
  simp [qJe] at hy;subst hy;refine ⟨⟨none,0,0,some ⟨gE,0,none⟩,2,2,none,0,0⟩,fun j u hu=>?_,⟨Sl.nil,⟨rfl,fun _=>⟨gE,0,rfl,fun i y hy=>?_⟩⟩,Sl.nil⟩,⟨by simp,by simp,by simp⟩⟩
  · simp only [Nat.zero_mul,Nat.zero_add]
    rw [hR.cell,← hu,Array.getElem?_toList];rfl
  · match i,hy with
    | 0,hy =>
     (obtain rfl:xE1=y:=by simpa [xDoc] using hy);refine ⟨some ⟨g2,0,none⟩,1,1,fun j u hu=>?_,xRow_at rfl h1 h2⟩;have hj:j<7:=(List.getElem?_eq_some_iff.1 hu).1;simp only [Nat.zero_mul,Nat.zero_add];rw [hE.cell,← hu]
     match j,hj with
     | 0,_ | 1,_ | 2,_ | 3,_ | 4,_ | 5,_ | 6,_=>rfl
    | 1,hy =>
     (obtain rfl:xE2=y:=by simpa [xDoc] using hy);refine ⟨some ⟨g4,0,none⟩,1,1,fun j u hu=>?_,xRow_at rfl h3 h4⟩;have hj:j<7:=(List.getElem?_eq_some_iff.1 hu).1;rw [hE.cell,← hu]
     match j,hj with
     | 0,_ | 1,_ | 2,_ | 3,_ | 4,_ | 5,_ | 6,_=>rfl
    | i+2,hy=>simp [xDoc] at hy
theorem xCuts_at {w:World} {gCz:Nat} (h:Blk w gCz 91 #[.int .i64 1,.string ⟨#[65]⟩,.int .i64 0,.int .i64 0,.int .i64 20,.int .i64 1,.int .i64 1,.int .i64 2,.string ⟨#[65]⟩,.int .i64 25,.int .i64 20,.int .i64 30,.int .i64 1,.int .i64 1]):qBd w (some ⟨gCz,0,none⟩) 2 xEdl.cuts:=by
 refine ⟨rfl,fun _=>⟨gCz,0,rfl,fun i y hy j u hu=>?_⟩⟩
 match i,hy with
 | 0,hy =>
  (obtain rfl:xC1=y:=by simpa [xEdl] using hy);have hj:j<7:=(List.getElem?_eq_some_iff.1 hu).1;simp only [Nat.zero_mul,Nat.zero_add];rw [h.cell,← hu]
  match j,hj with
  | 0,_ | 1,_ | 2,_ | 3,_ | 4,_ | 5,_ | 6,_=>rfl
 | 1,hy =>
  (obtain rfl:xC2=y:=by simpa [xEdl] using hy);have hj:j<7:=(List.getElem?_eq_some_iff.1 hu).1;rw [h.cell,← hu]
  match j,hj with
  | 0,_ | 1,_ | 2,_ | 3,_ | 4,_ | 5,_ | 6,_=>rfl
 | i+2,hy=>simp [xEdl] at hy
set_option maxHeartbeats 8000000 in
theorem awake46_any (w:World) (hE:Env w) (ht:TabU w):Calls Tryz.prog 22 #[] w fun en w'=>en = .returned (.bool true)∧Ext w w':=by
 have HEn:=gH hE;have HTn:=gH ht;clear hE ht;have HXq:=gH ((Ext.refl w).alloc (.cells #[.int .i64 1,.int .i64 1] 89));have HBq:=gH (Blk.new w 89 #[.int .i64 1,.int .i64 1]);go_enter Tryz.func22,Tryz.ntmps22;go_upto_region 2 with fail;obtain ⟨gq,hgq⟩:∃ gq,gq=w.heap.size:=⟨_,rfl⟩;obtain ⟨wA,hwA⟩:∃ wA,wA=w.alloc (.cells #[.int .i64 1,.int .i64 1] 89):=⟨_,rfl⟩;rw [← hgq] at HBq;rw [← hwA] at HXq HBq ⊢;rw [← hgq];clear hwA hgq;go_wp2_with fail;refine (Ev46_any 1 10 30 _).mono ?_;rintro e1 w1 ⟨g1,g2,rfl,hb1,hb2,hx1⟩;have HX1:=gH (HXq.out.trans hx1);have HBq1:=gH (HBq.out.ext hx1);have H1:=gH hb1;have H2:=gH hb2;clear hb1 hb2 hx1 HXq HBq;go_wp2_with fail;refine (Ev46_any 2 40 50 _).mono ?_;rintro e2 w2 ⟨g3,g4,rfl,hb3,hb4,hx2⟩;have HX2:=gH (HX1.out.trans hx2);have HBq2:=gH (HBq1.out.ext hx2);have H1b:=gH (H1.out.ext hx2);have H2b:=gH (H2.out.ext hx2);have H3:=gH hb3;have H4:=gH hb4;clear hb3 hb4 hx2 HX1 HBq1 H1 H2;go_upto_region 3 with fail;obtain ⟨gE,hgE⟩:∃ gE,gE=w2.heap.size:=⟨_,rfl⟩;rw [← hgE];obtain ⟨w3,hw3⟩:∃ w3,w3=w2.alloc (.cells #[.int .i64 1,.int .i64 10,.int .i64 30,.string ⟨#[]⟩,.int .u8 1,.string ⟨#[]⟩,.slice (some ⟨g2,0,none⟩) 1 1,.int .i64 2,.int .i64 40,.int .i64 50,.string ⟨#[]⟩,.int .u8 1,.string ⟨#[]⟩,.slice (some ⟨g4,0,none⟩) 1 1] 64):=⟨_,rfl⟩
 have HX3:=gH (HX2.out.alloc (.cells #[.int .i64 1,.int .i64 10,.int .i64 30,.string ⟨#[]⟩,.int .u8 1,.string ⟨#[]⟩,.slice (some ⟨g2,0,none⟩) 1 1,.int .i64 2,.int .i64 40,.int .i64 50,.string ⟨#[]⟩,.int .u8 1,.string ⟨#[]⟩,.slice (some ⟨g4,0,none⟩) 1 1] 64));have HBq3:=gH (HBq2.out.alloc (.cells #[.int .i64 1,.int .i64 10,.int .i64 30,.string ⟨#[]⟩,.int .u8 1,.string ⟨#[]⟩,.slice (some ⟨g2,0,none⟩) 1 1,.int .i64 2,.int .i64 40,.int .i64 50,.string ⟨#[]⟩,.int .u8 1,.string ⟨#[]⟩,.slice (some ⟨g4,0,none⟩) 1 1] 64));have H1c:=gH (H1b.out.alloc (.cells #[.int .i64 1,.int .i64 10,.int .i64 30,.string ⟨#[]⟩,.int .u8 1,.string ⟨#[]⟩,.slice (some ⟨g2,0,none⟩) 1 1,.int .i64 2,.int .i64 40,.int .i64 50,.string ⟨#[]⟩,.int .u8 1,.string ⟨#[]⟩,.slice (some ⟨g4,0,none⟩) 1 1] 64));have H2c:=gH (H2b.out.alloc (.cells #[.int .i64 1,.int .i64 10,.int .i64 30,.string ⟨#[]⟩,.int .u8 1,.string ⟨#[]⟩,.slice (some ⟨g2,0,none⟩) 1 1,.int .i64 2,.int .i64 40,.int .i64 50,.string ⟨#[]⟩,.int .u8 1,.string ⟨#[]⟩,.slice (some ⟨g4,0,none⟩) 1 1] 64));have H3c:=gH (H3.out.alloc (.cells #[.int .i64 1,.int .i64 10,.int .i64 30,.string ⟨#[]⟩,.int .u8 1,.string ⟨#[]⟩,.slice (some ⟨g2,0,none⟩) 1 1,.int .i64 2,.int .i64 40,.int .i64 50,.string ⟨#[]⟩,.int .u8 1,.string ⟨#[]⟩,.slice (some ⟨g4,0,none⟩) 1 1] 64))
 have H4c:=gH (H4.out.alloc (.cells #[.int .i64 1,.int .i64 10,.int .i64 30,.string ⟨#[]⟩,.int .u8 1,.string ⟨#[]⟩,.slice (some ⟨g2,0,none⟩) 1 1,.int .i64 2,.int .i64 40,.int .i64 50,.string ⟨#[]⟩,.int .u8 1,.string ⟨#[]⟩,.slice (some ⟨g4,0,none⟩) 1 1] 64));have HBE:=gH (Blk.new w2 64 #[.int .i64 1,.int .i64 10,.int .i64 30,.string ⟨#[]⟩,.int .u8 1,.string ⟨#[]⟩,.slice (some ⟨g2,0,none⟩) 1 1,.int .i64 2,.int .i64 40,.int .i64 50,.string ⟨#[]⟩,.int .u8 1,.string ⟨#[]⟩,.slice (some ⟨g4,0,none⟩) 1 1]);rw [← hgE] at HBE;rw [← hw3] at HX3 HBq3 H1c H2c H3c H4c HBE ⊢;(have hz3:w3.heap.size=gE+1:=by rw [hw3,hgE,World.size_alloc]);rw [← hz3];clear hw3 hgE HX2 HBq2 H1b H2b H3 H4;obtain ⟨gR,hgR⟩:∃ gR,gR=w3.heap.size:=⟨_,rfl⟩;rw [← hgR];obtain ⟨w4,hw4⟩:∃ w4,w4=w3.alloc (.cells #[.string ⟨#[65]⟩,.string ⟨#[]⟩,.string ⟨#[]⟩,.int .u8 3,.bool false,.int .i64 2,.slice none 0 0,.slice (some ⟨gE,0,none⟩) 2 2,.slice none 0 0] 58):=⟨_,rfl⟩;have HX4:=gH (HX3.out.alloc (.cells #[.string ⟨#[65]⟩,.string ⟨#[]⟩,.string ⟨#[]⟩,.int .u8 3,.bool false,.int .i64 2,.slice none 0 0,.slice (some ⟨gE,0,none⟩) 2 2,.slice none 0 0] 58));have HBq4:=gH (HBq3.out.alloc (.cells #[.string ⟨#[65]⟩,.string ⟨#[]⟩,.string ⟨#[]⟩,.int .u8 3,.bool false,.int .i64 2,.slice none 0 0,.slice (some ⟨gE,0,none⟩) 2 2,.slice none 0 0] 58))
 have H1d:=gH (H1c.out.alloc (.cells #[.string ⟨#[65]⟩,.string ⟨#[]⟩,.string ⟨#[]⟩,.int .u8 3,.bool false,.int .i64 2,.slice none 0 0,.slice (some ⟨gE,0,none⟩) 2 2,.slice none 0 0] 58));have H2d:=gH (H2c.out.alloc (.cells #[.string ⟨#[65]⟩,.string ⟨#[]⟩,.string ⟨#[]⟩,.int .u8 3,.bool false,.int .i64 2,.slice none 0 0,.slice (some ⟨gE,0,none⟩) 2 2,.slice none 0 0] 58));have H3d:=gH (H3c.out.alloc (.cells #[.string ⟨#[65]⟩,.string ⟨#[]⟩,.string ⟨#[]⟩,.int .u8 3,.bool false,.int .i64 2,.slice none 0 0,.slice (some ⟨gE,0,none⟩) 2 2,.slice none 0 0] 58));have H4d:=gH (H4c.out.alloc (.cells #[.string ⟨#[65]⟩,.string ⟨#[]⟩,.string ⟨#[]⟩,.int .u8 3,.bool false,.int .i64 2,.slice none 0 0,.slice (some ⟨gE,0,none⟩) 2 2,.slice none 0 0] 58));have HBEd:=gH (HBE.out.alloc (.cells #[.string ⟨#[65]⟩,.string ⟨#[]⟩,.string ⟨#[]⟩,.int .u8 3,.bool false,.int .i64 2,.slice none 0 0,.slice (some ⟨gE,0,none⟩) 2 2,.slice none 0 0] 58));have HBR:=gH (Blk.new w3 58 #[.string ⟨#[65]⟩,.string ⟨#[]⟩,.string ⟨#[]⟩,.int .u8 3,.bool false,.int .i64 2,.slice none 0 0,.slice (some ⟨gE,0,none⟩) 2 2,.slice none 0 0]);rw [← hgR] at HBR;rw [← hw4] at HX4 HBq4 H1d H2d H3d H4d HBEd HBR ⊢;clear hw4 hgR hz3 HX3 HBq3 H1c H2c H3c H4c HBE;have HDs:Hid (qCw w4 (some ⟨gR,0,none⟩) 1 qJe):=xDocs_at H1d.out H2d.out H3d.out H4d.out HBEd.out HBR.out;have q0:=HBq4.out.cell 0;have q1:=HBq4.out.cell 1;simp only [gA,gB,gC] at q0 q1
 clear H1d H2d H3d H4d HBEd HBR;go_upto_region 4 with fail;obtain ⟨gCz,hgC⟩:∃ gCz,gCz=w4.heap.size:=⟨_,rfl⟩;rw [← hgC];obtain ⟨w5,hw5⟩:∃ w5,w5=w4.alloc (.cells #[.int .i64 1,.string ⟨#[65]⟩,.int .i64 0,.int .i64 0,.int .i64 20,.int .i64 1,.int .i64 1,.int .i64 2,.string ⟨#[65]⟩,.int .i64 25,.int .i64 20,.int .i64 30,.int .i64 1,.int .i64 1] 91):=⟨_,rfl⟩;have HX5:=gH (HX4.out.alloc (.cells #[.int .i64 1,.string ⟨#[65]⟩,.int .i64 0,.int .i64 0,.int .i64 20,.int .i64 1,.int .i64 1,.int .i64 2,.string ⟨#[65]⟩,.int .i64 25,.int .i64 20,.int .i64 30,.int .i64 1,.int .i64 1] 91));have HD5:=gH (HDs.out.ext ((Ext.refl w4).alloc (.cells #[.int .i64 1,.string ⟨#[65]⟩,.int .i64 0,.int .i64 0,.int .i64 20,.int .i64 1,.int .i64 1,.int .i64 2,.string ⟨#[65]⟩,.int .i64 25,.int .i64 20,.int .i64 30,.int .i64 1,.int .i64 1] 91)));have HBC:=gH (Blk.new w4 91 #[.int .i64 1,.string ⟨#[65]⟩,.int .i64 0,.int .i64 0,.int .i64 20,.int .i64 1,.int .i64 1,.int .i64 2,.string ⟨#[65]⟩,.int .i64 25,.int .i64 20,.int .i64 30,.int .i64 1,.int .i64 1]);rw [← hgC] at HBC;rw [← hw5] at HX5 HD5 HBC ⊢;(have hz5:w5.heap.size=gCz+1:=by rw [hw5,hgC,World.size_alloc]);rw [← hz5];clear hw5 hgC q0 q1 HX4 HBq4 HDs;have HCu:=gH (xCuts_at HBC.out);obtain ⟨gL,hgL⟩:∃ gL,gL=w5.heap.size:=⟨_,rfl⟩;rw [← hgL];obtain ⟨w6,hw6⟩:∃ w6,w6=w5.alloc (.cells #[.string ⟨#[]⟩,.int .u8 3,.bool false,.slice (some ⟨gCz,0,none⟩) 2 2] 28):=⟨_,rfl⟩
 have HX6:=gH (HX5.out.alloc (.cells #[.string ⟨#[]⟩,.int .u8 3,.bool false,.slice (some ⟨gCz,0,none⟩) 2 2] 28));have HD6:=gH (HD5.out.ext ((Ext.refl w5).alloc (.cells #[.string ⟨#[]⟩,.int .u8 3,.bool false,.slice (some ⟨gCz,0,none⟩) 2 2] 28)));have HC6:=gH (qBd.ext HCu.out ((Ext.refl w5).alloc (.cells #[.string ⟨#[]⟩,.int .u8 3,.bool false,.slice (some ⟨gCz,0,none⟩) 2 2] 28)));have HBL:=gH (Blk.new w5 28 #[.string ⟨#[]⟩,.int .u8 3,.bool false,.slice (some ⟨gCz,0,none⟩) 2 2]);rw [← hgL] at HBL;rw [← hw6] at HX6 HD6 HC6 HBL ⊢;clear hw6 hgL hz5 HX5 HD5 HBC HCu;have HCon:=gH (qOd qJe (some ⟨gR,0,none⟩) 1 1 xEdl (some ⟨gCz,0,none⟩) 2 2 6 w6 (HEn.out.ext HX6.out) HD6.out HC6.out (by decide) xEdlOk (by decide) xFit);unfold qFv at HCon;rw [xConDoc,xConFats,xE] at HCon;unfold Edl.cells xEdl at HCon;dsimp only at HCon;go_wp2_with (refine qAc rfl 28 (.tmp 3) rfl gL 28 _ _ (by exact rfl) (by exact HBL.out) Tryz.underlying28 rfl (by exact qBy) ?_);refine HCon.out.mono ?_;rintro e7 w7 ⟨⟨ra,rn,rc,ea,en,ec,ca,cn,cc⟩,F,fc,rfl,hat,-,hF,hx7⟩;have HX7:=gH (HX6.out.trans hx7);have hevs:=hat.evs;dsimp only at hevs;obtain rfl:2=en:=hevs.len;obtain ⟨be,offe,ev1,A1,n1,c1,rfl,hv1,-,a0,a1,a2,a3,a4,a5,a6⟩:=hevs.at_ev (i:=0) (by decide);obtain ⟨be',offe',ev2,A2,n2,c2,hAe,hv2,-,b0,b1,b2,b3,b4,b5,b6⟩:=hevs.at_ev (i:=1) (by decide)
 cases hAe
 (obtain rfl:xE1.as 1 ⟨10,20⟩=ev1:=by simpa [xOut] using hv1);(obtain rfl:xE1.as 2 ⟨20,25⟩=ev2:=by simpa [xOut] using hv2);(have a1':w7.cell? ⟨be,offe+1,none⟩=some (.int .i64 10):=by simpa [Ev.as] using a1);(have a2':w7.cell? ⟨be,offe+1+1,none⟩=some (.int .i64 20):=by simpa [Ev.as] using a2);(have b1':w7.cell? ⟨be,offe+7+1,none⟩=some (.int .i64 20):=by simpa [Ev.as] using b1);(have b2':w7.cell? ⟨be,offe+7+1+1,none⟩=some (.int .i64 25):=by simpa [Ev.as] using b2);have HF:=gH hF;clear hat hx7 hF hevs hv1 hv2 a0 a1 a2 a3 a4 a5 a6 b0 b1 b2 b3 b4 b5 b6 HCon HX6 HD6 HC6 HBL;unfold Doc.cells xOut;dsimp only;go_upto_region 5 with fail;have HX8:=gH (HX7.out.alloc (.cells #[.string ⟨#[]⟩,.string ⟨#[]⟩,.int .u8 3,.bool false,.int .i64 2,.slice ra rn rc,.slice (some ⟨be,offe,none⟩) 2 ec,.slice ca cn cc] 52));have HF8:=gH (HF.out.ext ((Ext.refl w7).alloc (.cells #[.string ⟨#[]⟩,.string ⟨#[]⟩,.int .u8 3,.bool false,.int .i64 2,.slice ra rn rc,.slice (some ⟨be,offe,none⟩) 2 ec,.slice ca cn cc] 52)));(have e0:∀ o,(w7.alloc o).cell? ⟨be,offe+1,none⟩=some (.int .i64 10):=fun o=>((Ext.refl w7).alloc o).cell a1');(have e1:∀ o,(w7.alloc o).cell? ⟨be,offe+1+1,none⟩=some (.int .i64 20):=fun o=>((Ext.refl w7).alloc o).cell a2');(have e1b:∀ o,(w7.alloc o).cell? ⟨be,offe+2,none⟩=some (.int .i64 20):=fun o=>((Ext.refl w7).alloc o).cell a2')
 (have e2:∀ o,(w7.alloc o).cell? ⟨be,offe+7+1,none⟩=some (.int .i64 20):=fun o=>((Ext.refl w7).alloc o).cell b1');(have e3:∀ o,(w7.alloc o).cell? ⟨be,offe+7+1+1,none⟩=some (.int .i64 25):=fun o=>((Ext.refl w7).alloc o).cell b2');(have e3b:∀ o,(w7.alloc o).cell? ⟨be,offe+7+2,none⟩=some (.int .i64 25):=fun o=>((Ext.refl w7).alloc o).cell b2');(have hq1:∀ w:World,(binOp .neq 60 (.agg #[.int .i64 10,.int .i64 20]) (.agg #[.int .i64 10,.int .i64 20])).run Tryz.prog w = .ok (.bool false) w:=fun w=>by kernel_rfl);(have hq2:∀ w:World,(binOp .neq 60 (.agg #[.int .i64 20,.int .i64 25]) (.agg #[.int .i64 20,.int .i64 25])).run Tryz.prog w = .ok (.bool false) w:=fun w=>by kernel_rfl);clear a1' a2' b1' b2';have HOr:=gH (fun w' (hx:qGi w' F 2 [xF1,xF2])=>Origin_any F 2 fc [xF1,xF2] 2 w' hx (by decide) xTx.fit);have HTx:=gH (fun w' (hx:qGi w' F 2 [xF1,xF2]) (ht:TabU w')=>Text_any F 2 fc [xF1,xF2] w' hx (by decide) xTx ht);rw [xOrig] at HOr;rw [xText] at HTx;dsimp only at HOr;go_wp2_with fail;refine (HOr.out _ HF8.out).mono ?_;rintro e9 w9 ⟨rfl,hx9⟩;have HX9:=gH (HX8.out.trans hx9);have HF9:=gH (HF8.out.ext hx9);clear hx9 HOr;go_wp2_with fail;refine (HTx.out _ HF9.out (HTn.out.ext HX9.out)).mono ?_;rintro e10 w10 ⟨rfl,hx10⟩;have HX10:=gH (HX9.out.trans hx10);clear hx10 HTx;go_wp2_with fail;go_ret;exact ⟨by rfl,HX10.out⟩
end
section
open Go.RowKit
structure Fits46 (w:World) (A:Option Addr) (n:Nat) (docs:List RDoc) (m:Nat) (e:Edl):Prop where
 at_:qCw w A n docs
 fit:qJb docs
 n:n≤1000000
 m:m≤1000000
 few:sumR docs≤80
theorem fits46 {w:World} {A:Option Addr} {n:Nat} {docs:List RDoc} {m:Nat} {e:Edl} {B:Option Addr} (h:qEt w A n docs) (hr:∀ d∈docs,d.reel.size≤1048576) (he:qBd w B m e.cuts) (hs:qEs docs e=true):Fits46 w A n docs m e:=by
 obtain ⟨h1,h2,h3,h4⟩:=of_decide_eq_true hs;have hn:docs.length=n:=h.1;have hm:e.cuts.length=m:=he.1;exact ⟨h.docs fun d hd=>by have:=sumR_mem hd;omega,⟨fun d hd=>by have:=hr d hd;omega,h.fit⟩,by omega,by omega,h4⟩
end
section
open Go.RowKit
end
section
open Go.RowKit
end
section
open Go.RowKit
theorem conE_ok {docs:List RDoc} {e:Edl} {least:Int} (h:conE docs e least=0):qCj docs e=0∧¬ least<0∧(qId docs e least).evs.length≤400:=by
 unfold conE at h
 split at h
 · rename_i h1;exact absurd h h1
 · rename_i h1
   split at h
   · omega
   · split at h
     · omega
     · exact ⟨by simpa using h1,by assumption,by omega⟩
end
section
open Go.RowKit
end
section
open Go.RowKit
set_option maxHeartbeats 4000000 in
theorem qIx (A:Option Addr) (n c:Nat) (l:List Spn) (w:World) (hl:qBj w A n l) (hok:qGh l) (hb:InT l) (hn:n≤400) :
 Calls Tryz.prog 140 #[.slice A n c] w fun e w'=>e = .returned (.int .i64 0)∧Ext w w':=by
 have HL:=gH hl;have HOk:=gH hok;have HBd:=gH hb;(have hb:decide ((n:Int) > 400)=false:=by simp;omega);(have hb2:decide ((400:Int)<n)=false:=by simp;omega);clear hl hok;go_enter Tryz.func140,Tryz.ntmps140;go_wp2_with fail;clear hb hb2
 go_loopw [10] (fun i wr=>IdxRel w n i wr) (fun i _=>n-(intOf i).toNat)
 case atStart=>exact ⟨0,Nat.zero_le _,rfl,Ext.refl _⟩
 case round =>
  obtain ⟨k,hk,rfl,hx⟩:=hrel;have HX:=gH hx;clear hx
  by_cases hlt:k<n
  case neg =>
   (have hkn:k=n:=by omega);subst hkn;go_wp2_with fail;go_ret;exact ⟨rfl,HX.out⟩
  obtain ⟨b,off,x,rfl,hxk,hC⟩:=(HL.out.ext HX.out).at_ hlt;have c0:=hC 0 _ rfl;have c1:=hC 1 _ rfl;simp only [Nat.add_zero] at c0;have hf:=HOk.out.1 x (List.mem_of_getElem? hxk);have hr:=HBd.out x (List.mem_of_getElem? hxk);unfold maxT at hr
  have HPr:Hid (∀ j y,k=j+1→l[j]?=some y→¬ x.inn≤y.out):=fun j y hj hy=>by
   subst hj;have h1:=List.pairwise_iff_getElem.1 HOk.out.2 j (j+1) (List.getElem?_eq_some_iff.1 hy).1 (List.getElem?_eq_some_iff.1 hxk).1 (by omega);rw [(List.getElem?_eq_some_iff.1 hy).2,(List.getElem?_eq_some_iff.1 hxk).2] at h1;omega
  (have g1:decide (x.inn≥x.out)=false:=by simp;omega);(have g1':decide (x.out≤x.inn)=false:=by simp;omega);(have g2:decide (x.inn<0)=false:=by simp;omega);(have g3:decide (x.out > 10378368000)=false:=by simp;omega);(have g3':decide (10378368000<x.out)=false:=by simp;omega);have HXx:=gH ((Ext.refl wr).alloc (.cells #[.int .i64 x.inn,.int .i64 x.out] 60));clear hC hxk hf hr
  by_cases hk0:0<k
  · obtain ⟨b',off',y,hA,hyk,hD⟩:=(HL.out.ext (HX.out.trans HXx.out)).at_ (i:=k-1) (by omega)
    cases hA
    have d1:=hD 1 _ rfl;have hny:=HPr.out (k-1) y (by omega) hyk;(have g7:decide (x.inn≤y.out)=false:=by simpa using hny);(have g8:decide ((k:Int) > 0)=true:=by simp;omega);(have g8':decide ((0:Int)<k)=true:=by simp;omega);obtain ⟨j,rfl⟩:∃ j,k=j+1:=⟨k-1,by omega⟩;simp only [Nat.add_sub_cancel] at d1;clear hD hyk hny;go_wp2_with fail;go_quiet (fail);go_wp2_with fail;exact ⟨⟨j+1+1,by omega,by go_num,(HX.out.trans HXx.out).drewN _⟩,by simp [intOf];omega⟩
  · have hk00:k=0:=by omega
    subst hk00;simp only [Nat.zero_mul,Nat.add_zero] at c0 c1;go_wp2_with fail;go_quiet (fail);go_wp2_with fail;exact ⟨⟨0+1,by omega,by go_num,(HX.out.trans HXx.out).drewN _⟩,by simp [intOf];omega⟩
def mnT (o:Int):Int→List Spn→List Spn
 | _,[]=>[]
 | i,t :: b=>if t.out≤i∨o≤t.inn then mnT o i b else ⟨i,t.inn⟩ :: mnT o t.out b
def mnE (o:Int):Int→List Spn→Int
 | i,[]=>i
 | i,t :: b=>if t.out≤i∨o≤t.inn then mnE o i b else mnE o t.out b
theorem minR_T (o:Int):∀ (i:Int) (b:List Spn),minR o i b=mnT o i b++[⟨mnE o i b,o⟩]
 | i,[]=>rfl
 | i,t :: b=>by
  unfold minR mnT mnE
  split
  · exact minR_T o i b
  · rw [minR_T o t.out b];rfl
theorem mn_skip (o:Int):∀ {i:Int} {b:List Spn} {t:Spn},(t.out≤mnE o i b∨o≤t.inn)→mnT o i (b++[t])=mnT o i b∧mnE o i (b++[t])=mnE o i b
 | i,[],t,h=>by simp only [List.nil_append,mnT,mnE] at h ⊢;rw [if_pos h,if_pos h];exact ⟨rfl,rfl⟩
 | i,x :: b,t,h=>by
  simp only [List.cons_append,mnT,mnE] at h ⊢
  split
  · rename_i hc;rw [if_pos hc] at h;exact mn_skip o h
  · rename_i hc;rw [if_neg hc] at h;obtain ⟨h1,h2⟩:=mn_skip o h;exact ⟨by rw [h1],h2⟩
theorem mn_add (o:Int):∀ {i:Int} {b:List Spn} {t:Spn},¬ (t.out≤mnE o i b∨o≤t.inn)→mnT o i (b++[t])=mnT o i b++[⟨mnE o i b,t.inn⟩]∧mnE o i (b++[t])=t.out
 | i,[],t,h=>by simp only [List.nil_append,mnT,mnE] at h ⊢;rw [if_neg h,if_neg h];exact ⟨rfl,rfl⟩
 | i,x :: b,t,h=>by
  simp only [List.cons_append,mnT,mnE] at h ⊢
  split
  · rename_i hc;rw [if_pos hc] at h;exact mn_add o h
  · rename_i hc;rw [if_neg hc] at h;obtain ⟨h1,h2⟩:=mn_add o h;exact ⟨by rw [h1];rfl,h2⟩
theorem qOy (o:Int):∀ (i:Int) (b:List Spn),(mnT o i b).length≤b.length
 | i,[]=>by simp [mnT]
 | i,t :: b=>by
  unfold mnT
  split
  · have:=qOy o i b;simp only [List.length_cons];omega
  · have:=qOy o t.out b;simp only [List.length_cons];omega
def Mr1Rel (w:World) (s:Spn) (p:List Spn) (v i:Value) (wr:World):Prop :=
 ∃ k:Nat,k≤1∧i = .int .i64 k∧Ext w wr∧(k=0→v = .slice none 0 0)∧(k=1→wr.ownsRow w.heap.size 60 2 v (minR s.out s.inn p).length ((minR s.out s.inn p).flatMap Spn.vals))
def Mr2Rel (w:World) (g m:Nat) (s:Spn) (p:List Spn) (v v10 i:Value) (wr:World):Prop :=
 ∃ j:Nat,j≤m∧i = .int .i64 j∧v10 = .int .i64 (mnE s.out s.inn (p.take j))∧Ext w wr∧Blk wr g 60 #[.int .i64 s.inn,.int .i64 s.out]∧v.ownBlock≠some g ∧
  wr.ownsRow w.heap.size 60 2 v (mnT s.out s.inn (p.take j)).length ((mnT s.out s.inn (p.take j)).flatMap Spn.vals)
set_option maxHeartbeats 8000000 in
theorem R5Minus_one (A:Option Addr) (c:Nat) (s:Spn) (B:Option Addr) (m d:Nat) (p:List Spn) (w:World) (ha:qBj w A 1 [s]) (hb:qBj w B m p) (hm:m≤300) (hs:s.inn<s.out) (h0:0≤s.inn) (h1:s.out≤maxT) (hp:qGh p) (hpb:InT p) :
 Calls Tryz.prog 137 #[.slice A 1 c,.slice B m d] w (qCf (qDf (minR s.out s.inn p)) w):=by
 have HA:=gH ha;have HB:=gH hb;have HBn:=gH hb.len;(have hmr:(minR s.out s.inn p).length≤m+1:=by rw [minR_T,List.length_append];have:=qOy s.out s.inn p;have:=hb.len;simp;omega);have hjl:=(qNz (minR s.out s.inn p)).2.2.1;have HC1:=gH (fun w' (hx:Ext w w')=>qIx A 1 c [s] w' (ha.ext hx) (one_ok hs) (fun x hx=>by simp at hx;subst hx;exact ⟨h0,h1⟩) (by omega));have HC2:=gH (fun w' (hx:Ext w w')=>qIx B m d p w' (hb.ext hx) hp hpb (by omega));have HJ:=gH (fun w' Z zc (hz:qBj w' Z (minR s.out s.inn p).length (minR s.out s.inn p))=>qMa Z (minR s.out s.inn p).length zc (minR s.out s.inn p) w' hz (by omega))
 have HLim:Hid (∀ w' Z zc,Calls Tryz.prog 201 #[.slice Z (qDf (minR s.out s.inn p)).length zc] w' fun e w2=>e = .returned (.tuple #[.slice Z (qDf (minR s.out s.inn p)).length zc,.int .i64 0])∧w2=w'):=by
  intro w' Z zc;generalize (qDf (minR s.out s.inn p)).length=jl at *;(have g1:decide ((jl:Int) > 400)=false:=by simp;omega);(have g2:decide ((400:Int)<jl)=false:=by simp;omega);go_enter Tryz.func201,Tryz.ntmps201;go_wp2_with fail;go_ret2;exact ⟨rfl,rfl⟩
 have HCk:Hid (∀ w' (hx:Ext w w'),Calls Tryz.prog 200 #[.slice A 1 c,.slice B m d] w' fun e w2=>e = .returned (.int .i64 0)∧Ext w' w2):=by
  intro w' hx;have HX:=gH hx;clear ha hb;go_enter Tryz.func200,Tryz.ntmps200;go_wp2_with fail;refine (HC1.out _ HX.out).mono ?_;rintro e w2 ⟨rfl,hx2⟩;have HX2:=gH (HX.out.trans hx2);have HX3:=gH hx2;clear hx2;go_wp2_with fail;refine (HC2.out _ HX2.out).mono ?_;rintro e w3 ⟨rfl,hx3⟩;have HX4:=gH (HX3.out.trans hx3);clear hx3;go_wp2_with fail;go_ret;exact ⟨rfl,HX4.out⟩
 clear ha hb hp hpb h0 h1;unfold qCf;unfold qDq at HJ;go_enter Tryz.func137,Tryz.ntmps137;go_wp2_with fail;refine (HCk.out _ (Ext.refl _)).mono ?_;rintro e w1 ⟨rfl,hx1⟩;have HX1:=gH hx1;clear hx1;go_wp2_with fail
 go_loopw [7,21] (fun v i wr=>Mr1Rel w s p v i wr) (fun _ i _=>1-(intOf i).toNat)
 case atStart=>exact ⟨0,by omega,rfl,HX1.out,fun _=>rfl,fun h=>by cases h⟩
 case round =>
  obtain ⟨k,hk,rfl,hx,hv0,hv1⟩:=hrel;have HX:=gH hx;have hzr:=hx.size;clear hx
  by_cases hk0:k=0
  · subst hk0
    have hv:=hv0 rfl;subst hv;clear hv0 hv1;obtain ⟨bb,off,x,rfl,hxk,hC⟩:=(HA.out.ext HX.out).at_ (i:=0) (by omega);(obtain rfl:s=x:=by simpa using hxk);have c0:=hC 0 _ rfl;have c1:=hC 1 _ rfl;simp only [Nat.zero_mul,Nat.add_zero] at c0 c1;clear hC hxk;go_upto_region 8 with fail;have HB2:=gH (Blk.new wr 60 #[.int .i64 s.inn,.int .i64 s.out]);have HX2:=gH (HX.out.alloc (.cells #[.int .i64 s.inn,.int .i64 s.out] 60));obtain ⟨gx,hgx⟩:∃ gx,gx=wr.heap.size:=⟨_,rfl⟩;rw [← hgx] at HB2 ⊢;obtain ⟨w3,hw3⟩:∃ w3,w3=wr.alloc (.cells #[.int .i64 s.inn,.int .i64 s.out] 60):=⟨_,rfl⟩;rw [← hw3] at HB2 HX2 ⊢;clear hw3 hgx c0 c1;have b0:=HB2.out.cell 0;simp only [gA,gB,gC] at b0;go_wp2_with fail;clear b0
    go_loopw [7,10,29] (fun v v10 i wq=>Mr2Rel w gx m s p v v10 i wq) (fun _ _ i _=>m-(intOf i).toNat)
    case atStart=>exact ⟨0,Nat.zero_le _,rfl,rfl,HX2.out,HB2.out,by simp [Value.ownBlock],⟨rfl,.inl ⟨rfl,rfl⟩⟩⟩
    case round =>
     obtain ⟨j,hj,rfl,rfl,hxq,hbq,hne,hown⟩:=hrel;have HXq:=gH hxq;have HOq:=gH hown;have HBq:=gH hbq;have HNq:=gH hne;have hzq:=hxq.size;(have hql:(mnT s.out s.inn (p.take j)).length≤j:=by have:=qOy s.out s.inn (p.take j);rw [List.length_take] at this;omega);have x1:=HBq.out.cell 1;have hgl:=HBq.out.lt;simp only [gA,gB,gC] at x1;clear hxq hown hbq hne
     by_cases hjt:j<m
     · obtain ⟨b2,off2,y,rfl,hyk,hD⟩:=(HB.out.ext HXq.out).at_ hjt
       have d0:=hD 0 _ rfl;have d1:=hD 1 _ rfl;simp only [Nat.add_zero] at d0;have HSk:=gH (fun h=>@mn_skip s.out s.inn (p.take j) y h);have HAd:=gH (fun h=>@mn_add s.out s.inn (p.take j) y h);rw [← take_snoc' _ _ _ hyk] at HSk HAd;clear hD hyk;generalize mnT s.out s.inn (p.take j)=os at *;generalize mnE s.out s.inn (p.take j)=ci at *;have HY:=gH ((Ext.refl wr).alloc (.cells #[.int .i64 y.inn,.int .i64 y.out] 60));have HYb:=gH (Blk.new wr 60 #[.int .i64 y.inn,.int .i64 y.out])
       by_cases hk1:y.out≤ci
       · have e1:decide (y.out≤ci)=true:=by simpa using hk1
         have HS:=gH (HSk.out (.inl hk1));clear hk1 HSk HAd;go_wp2_with fail;exact ⟨⟨j+1,by omega,by go_num,by rw [HS.out.2],HXq.out.trans HY.out,HBq.out.ext HY.out,HNq.out,by rw [HS.out.1];exact qAh HOq.out HY.out⟩,by simp [intOf];omega⟩
       · have e1:decide (y.out≤ci)=false:=by simpa using hk1
         by_cases hk2:s.out≤y.inn
         · have e2:decide (y.inn≥s.out)=true:=by simpa using hk2
           (have e2':decide (s.out≤y.inn)=true:=by simpa using hk2);have HS:=gH (HSk.out (.inr hk2));clear hk1 hk2 HSk HAd;go_wp2_with fail;exact ⟨⟨j+1,by omega,by go_num,by rw [HS.out.2],HXq.out.trans HY.out,HBq.out.ext HY.out,HNq.out,by rw [HS.out.1];exact qAh HOq.out HY.out⟩,by simp [intOf];omega⟩
         · have e2:decide (y.inn≥s.out)=false:=by simpa using hk2
           (have e2':decide (s.out≤y.inn)=false:=by simpa using hk2);have HS:=gH (HAd.out (fun h=>h.elim hk1 hk2));clear hk1 hk2 HSk HAd;go_upto_region 13 with fail;have HO3:=gH (qAh HOq.out HY.out);have HB3:=gH (HBq.out.ext HY.out);have hz3:=HY.out.size;have hglt:=HB3.out.lt;(have hvy:u7.ownBlock≠some wr.heap.size:=fun e=>by have:=(qAj HOq.out _ e).lt;omega);obtain ⟨gy,hgy⟩:∃ gy,gy=wr.heap.size:=⟨_,rfl⟩;rw [← hgy] at HYb hvy ⊢;obtain ⟨w4,hw4⟩:∃ w4,w4=wr.alloc (.cells #[.int .i64 y.inn,.int .i64 y.out] 60):=⟨_,rfl⟩;rw [← hw4] at HO3 HB3 HY HYb hz3 hglt ⊢;clear hw4 hgy d0 d1 x1;have y0:=HYb.out.cell 0;simp only [gA,gB,gC] at y0;go_wp2_with (at_builtin;refine qBn rfl (.tmp 44) (.tmp 49) 35 rfl qBe Tryz.underlying35 rfl (by decide) (HO3.out.alloc _) (by exact rfl) w4.heap.size _ (by exact rfl) (by exact Blk.new' rfl) (by exact rfl) (by simp [Value.oneCell']) (by omega) (by simp [maxLen]<;>omega) (by first | omega | (simp;omega) | simp) ?_;intro v5 w5 hown5 hgr hloc;have HO5:=gH hown5;have HX5:=gH (Ext.grown ((HXq.out.trans HY.out).alloc _) hgr (fun q hq=>qAp HO3.out q hq));have HB5:=gH (qLa HB3.out hgr HNq.out);have HY5:=gH (qLa HYb.out hgr hvy);have y51:=HY5.out.cell 1;simp only [gA,gB,gC] at y51;have HN5:Hid (v5.ownBlock≠some gx):=(fun e=>by rcases hloc with h | h;exact HNq.out (h ▸ e);rw [h] at e;injection e with e;simp at e;omega);clear hown5 hgr hloc)
           exact ⟨⟨_,_,_,_,⟨j+1,by omega,by go_num,by rw [HS.out.2],HX5.out,HB5.out,HN5.out,by rw [HS.out.1,List.length_append,List.flatMap_append];exact HO5.out⟩,rfl,rfl,rfl,rfl⟩,by simp [intOf];omega⟩
     · have hjm:j=m:=by omega
       subst hjm;(have HT:Hid (minR s.out s.inn p=mnT s.out s.inn (p.take j)++[⟨mnE s.out s.inn (p.take j),s.out⟩]):=by show _=_;rw [List.take_of_length_le (by have:=HBn.out;omega)];exact minR_T _ _ _);generalize mnT s.out s.inn (p.take j)=os at *;generalize mnE s.out s.inn (p.take j)=ci at *;go_wp2_with (at_builtin;refine qBn rfl (.tmp 54) (.tmp 59) 35 rfl qBe Tryz.underlying35 rfl (by decide) (HOq.out.alloc _) (by exact rfl) wr.heap.size _ (by exact rfl) (by exact Blk.new' rfl) (by exact rfl) (by simp [Value.oneCell']) (by omega) (by simp [maxLen]<;>omega) (by first | omega | (simp;omega) | simp) ?_;intro v5 w5 hown5 hgr hloc;have HO5:=gH hown5;have HX5:=gH (Ext.grown (HXq.out.alloc _) hgr (fun q hq=>qAp HOq.out q hq));clear hown5 hgr hloc);exact ⟨⟨0+1,by omega,by go_num,HX5.out,fun h=>by omega,fun _=>by rw [HT.out,List.length_append,List.flatMap_append];exact HO5.out⟩,by simp [intOf]⟩
  · have hk1:k=1:=by omega
    subst hk1;have HO:=gH (hv1 rfl);clear hv0 hv1 hk0;obtain ⟨A',c',rfl,hc,_,hS,hfr⟩:=qBg (f:=Spn.vals) (size:=2) (fun _=>rfl) rfl HO.out;have HS:=gH hS;clear hc hS hfr HO;go_wp2_with fail;refine (HJ.out _ _ _ HS.out).mono ?_;rintro e w4 ⟨Z,zc,rfl,hz,hzc,hx4,hzf⟩;have HR:=gH (And.intro hz (And.intro hzc (And.intro (HX.out.trans hx4) (fun ad h=>Nat.le_trans hzr (hzf ad h)))));clear hz hzc hx4 hzf;go_wp2_with fail;refine (HLim.out _ _ _).mono ?_;rintro e w5 ⟨rfl,rfl⟩;go_wp2_with fail;go_ret2;exact ⟨Z,zc,rfl,HR.out.1,HR.out.2.1,HR.out.2.2.1,HR.out.2.2.2⟩
set_option maxHeartbeats 2000000 in
theorem R5Len_ok (A:Option Addr) (n c:Nat) (l:List Spn) (w:World) (hl:qBj w A n l) (hok:qGh l) (hb:InT l) (hn:n≤400) :
 Calls Tryz.prog 138 #[.slice A n c] w fun e w'=>e = .returned (.tuple #[.int .i64 (sumL l),.int .i64 0])∧Ext w w':=by
 have HL:=gH hl;have HLn:=gH hl.len;have HC:=gH (qIx A n c l w hl hok hb hn);have HBd:=gH (fun k=>sum_bd (l.take k) (fun x hx=>hok.1 x (List.mem_of_mem_take hx)) (fun x hx=>hb x (List.mem_of_mem_take hx)));have HE:=gH (fun x (hx:x∈l)=>And.intro (hok.1 x hx) (hb x hx));clear hl hok hb;go_enter Tryz.func138,Tryz.ntmps138;go_wp2_with fail;refine HC.out.mono ?_;rintro e w1 ⟨rfl,hx1⟩;have HX1:=gH hx1;clear hx1 HC;go_wp2_with fail
 go_loopw [5,15] (fun v i wr=>LnRel w n l v i wr) (fun _ i _=>n-(intOf i).toNat)
 case atStart=>exact ⟨0,Nat.zero_le _,rfl,rfl,HX1.out⟩
 case round =>
  obtain ⟨k,hk,rfl,rfl,hx⟩:=hrel;have HX:=gH hx;clear hx
  by_cases hlt:k<n
  · obtain ⟨b,off,x,rfl,hxk,hC⟩:=(HL.out.ext HX.out).at_ hlt
    have c0:=hC 0 _ rfl;have c1:=hC 1 _ rfl;simp only [Nat.add_zero] at c0;have hb1:=HBd.out k;have hxb:=HE.out x (List.mem_of_getElem? hxk);(have HS:Hid (sumL (l.take (k+1))=sumL (l.take k)+(x.out-x.inn)):=by show _=_;rw [take_snoc' _ _ _ hxk];exact sum_snoc _ _);rw [List.length_take] at hb1;unfold maxT at hb1 hxb;clear hC hxk;generalize sumL (l.take k)=sm at *
    have hsm:sm≤400*10378368000:=by
     (have h1:(min k l.length:Nat)≤400:=by omega);(have h2:((min k l.length:Nat):Int)≤400:=by omega);have:=Int.mul_le_mul_of_nonneg_right h2 (show (0:Int)≤10378368000 by omega);omega
    have hsm0:=hb1.1;obtain ⟨hx1,hx2,hx3⟩:=hxb;have HX2:=gH (HX.out.alloc (.cells #[.int .i64 x.inn,.int .i64 x.out] 60));clear hb1;go_wp2_with fail;exact ⟨⟨k+1,by omega,by go_num,by rw [HS.out],HX2.out⟩,by simp [intOf];omega⟩
  · have hkn:k=n:=by omega
    subst hkn;(have HT:Hid (sumL (l.take k)=sumL l):=by show _=_;rw [List.take_of_length_le (by have:=HLn.out;omega)]);rw [HT.out];obtain ⟨sm,hsm⟩:∃ sm,sm=sumL l:=⟨_,rfl⟩;rw [← hsm];have HSm:=gH hsm;clear hsm;go_wp2_with fail;go_ret2;exact ⟨by rw [← HSm.out];rfl,HX.out⟩
end
end Go.Proofs.YtablhmobekmflaaGreatDoor