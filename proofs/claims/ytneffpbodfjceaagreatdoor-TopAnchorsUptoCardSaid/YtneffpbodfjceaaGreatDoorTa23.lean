/- Texts laid together. -/
import Derived.Test.YtneffpbodfjceaaGreatDoorTa22
set_option linter.unusedVariables false
set_option linter.unusedSimpArgs false
set_option maxRecDepth 100000
set_option maxHeartbeats 16000000
namespace Go.Proofs.YtneffpbodfjceaaGreatDoor
section
open Go.RowKit
theorem qXf (d:Doc) (h:DocH) (id:Int) (gd gx:Nat) (B:Option Addr) (m q:Nat) (rows:List Row) (op fr til:Int) (nm tx:ByteArray) (w:World) (hE:Env w) (hat:qCx w d h) (hf:qCf d) (hrn:h.rn<=9223372036854775807) (hr:h.rn*56<=140737488355328) (hn:h.en<=1000000) (hcn:h.cn<=1000000)
 (hD:Blk w gd 27 (d.cells h)) (hX:Blk w gx 48 (edC op id fr til nm tx (.slice B m q))) (hrw:qCb w B m rows) (hmq:m<=q) (hm:m*24<=140737488355328) (hsm:∀ r∈rows,qDn r) (hby:(rows.map qAe).sum<=1099511627776) :
 Calls Tryz.prog 23 #[.func (.func 29) #[] #[.pointer (some ⟨gx,0,none⟩)],.pointer (some ⟨gd,0,none⟩),.pointer (some ⟨gx,0,none⟩)] w (qHk (d.setX id rows) w):=by
 obtain ⟨W1,hW1⟩:∃ W1,W1=(w.alloc (.cells #[.func (.func 29) #[] #[.pointer (some ⟨gx,0,none⟩)]] 82)).alloc (.cells qAl 27):=⟨_,rfl⟩;have HX1:Hid (Ext w W1):=gH (by rw [hW1];exact ((Ext.refl w).alloc _).alloc _);have HB1:Hid (Blk W1 w.heap.size 82 #[.func (.func 29) #[] #[.pointer (some ⟨gx,0,none⟩)]]):=gH (by rw [hW1];exact (Blk.new w _ _).alloc _);have HZ1:Hid (Blk W1 (w.heap.size+1) 27 qAl):=gH (by rw [hW1];exact Blk.new' (by simp));have HD1:=gH (hD.ext HX1.out);have HE1:=gH (hX.ext HX1.out);have HCh:=gH (qUr d h id w.heap.size gx B m q rows op id fr til nm tx W1 (hE.ext HX1.out) (hat.ext HX1.out) hf hrn hr hn hcn HE1.out HB1.out (hrw.ext HX1.out) hmq hm hsm hby);(have he1:=fun o=>HE1.out.cell o);unfold edC at he1;have he0:=he1;rw [hW1] at he0;unfold qAl at he0;unfold qAl at hW1 HZ1;unfold Doc.cells at HD1 HCh;clear hE hat hf hD hX hrw hsm;go_enter Tryz.func23,Tryz.ntmps23;go_wp2_with (refine qAa rfl 27 (.tmp 1) rfl gd 27 _ _ (by exact rfl) (by rw [← hW1];exact HD1.out) Tryz.underlying27 rfl (by exact qAb) ?_);rw [← hW1];clear hW1;refine HCh.out.mono ?_;rintro en w5 ⟨h5,rfl,ho5,hx5⟩;have HX5:=gH (HX1.out.trans hx5);have HZ5:=gH (HZ1.out.ext hx5);have HO5:=gH (ho5.le HX1.out.size);clear ho5 hx5 HCh he1 he0;obtain ⟨D,hD⟩:∃ D,D=d.setX id rows:=⟨_,rfl⟩;have HS:=gH hD;rw [← hD] at HO5 ⊢;clear hD;unfold Doc.cells
 go_wp2_with (refine qAc rfl 27 (.tmp 4) _ rfl (w.heap.size+1) 27 _ _ (by exact rfl) (by exact rfl) (by exact HZ5.out) (by exact rfl) (by exact qAb) (by simp [Value.oneCell']) ?_);refine bodyPost_ret (v:=.tuple #[.agg (D.1.cells h5),.int .i64 D.2]) ?_ rfl ⟨h5,by rw [HS.out],by rw [← HS.out];exact HO5.out.put HZ5.out _,HX5.out.put (by omega) _ _⟩;exact qAq (P:=Tryz.prog) Tryz.results23 (g:=w.heap.size+1) rfl (by exact HZ5.out.put _) Tryz.underlying27 rfl qAb
def Doc.apRows (d:Doc) (id:Int) (rows:List Row):DE:=if d.err≠0 then (Doc.zero,d.err) else if qDd id rows≠0 then (Doc.zero,qDd id rows) else d.setX id rows
def Doc.apNote (d:Doc) (id fr til:Int) (nm tx:ByteArray):DE:=if d.err≠0 then (Doc.zero,d.err) else if qCq id fr til nm tx≠0 then (Doc.zero,qCq id fr til nm tx) else (d.added id fr til nm tx,d.addErr id fr til nm tx)
theorem qQc (d:Doc) (h:DocH) (id:Int) (B:Option Addr) (m q:Nat) (rows:List Row) (w:World) (hE:Env w) (hat:qCx w d h) (hf:qCf d) (hrn:h.rn<=9223372036854775807) (hr:h.rn*56<=140737488355328) (hn:h.en<=1000000) (hcn:h.cn<=1000000)
 (hrw:qCb w B m rows) (hmq:m<=q) (hm:m<=1000000) (hsm:∀ r∈rows,qDn r) (hby:(rows.map qAe).sum<=1099511627776) :
 Calls Tryz.prog 6 #[.agg (d.cells h),.agg (edC 4 id 0 0 ⟨#[]⟩ ⟨#[]⟩ (.slice B m q))] w (qHk (d.apRows id rows) w):=by
 obtain ⟨W1,hW1⟩:∃ W1,W1=((w.alloc (.cells (d.cells h) 27)).alloc (.cells (edC 4 id 0 0 ⟨#[]⟩ ⟨#[]⟩ (.slice B m q)) 48)).alloc (.cells qAl 27):=⟨_,rfl⟩;have HX1:Hid (Ext w W1):=gH (by rw [hW1];exact (((Ext.refl w).alloc _).alloc _).alloc _);have HB1:Hid (Blk W1 w.heap.size 27 (d.cells h)):=gH (by rw [hW1];exact ((Blk.new w _ _).alloc _).alloc _);have HE1:Hid (Blk W1 (w.heap.size+1) 48 (edC 4 id 0 0 ⟨#[]⟩ ⟨#[]⟩ (.slice B m q))):=gH (by rw [hW1];exact (Blk.new' (by simp)).alloc _);have HZ1:Hid (Blk W1 (w.heap.size+2) 27 qAl):=gH (by rw [hW1];exact Blk.new' (by simp));have HCk:=gH (qDb d h W1 (hE.ext HX1.out) (hat.ext HX1.out) hf hrn hn (by omega));have HEk:=gH (fun w' (hx:Ext w w')=>qNo id B m q rows w' (hE.ext hx) (hrw.ext hx) hsm hm);have HA1:=gH (fun w' (hx:Ext w w') hD hX=>qXf d h id w.heap.size (w.heap.size+1) B m q rows 4 0 0 ⟨#[]⟩ ⟨#[]⟩ w' (hE.ext hx) (hat.ext hx) hf hrn hr hn hcn hD hX (hrw.ext hx) hmq (by omega) hsm hby);(have hend:∀ w' e,e≠(0:Int)->d.apRows id rows=(Doc.zero,e)->Ext w w'->qHk (d.apRows id rows) w (.returned (.tuple #[.agg qAl,.int .i64 e])) w':=fun w' e _ h1 h2=>qIp h1 h2);have HEnd:=gH hend;unfold qAl at hW1 HZ1;unfold edC at hW1 HE1 HEk HA1 ⊢;unfold Doc.cells at *;clear hE hat hf hrw hsm hend;go_enter Tryz.func6,Tryz.ntmps6
 go_wp2_with (refine qAa rfl 27 (.tmp 2) rfl w.heap.size 27 _ _ (by exact rfl) (by rw [← hW1];exact HB1.out) Tryz.underlying27 rfl (by exact qAb) ?_);rw [← hW1];clear hW1;refine HCk.out.mono ?_;rintro en w2 ⟨rfl,hx2⟩;have HX2:=gH (HX1.out.trans hx2);have HB2:=gH (HB1.out.ext hx2);have HE2:=gH (HE1.out.ext hx2);have HZ2:=gH (HZ1.out.ext hx2);clear hx2 HX1 HB1 HE1 HZ1 HCk
 by_cases h0:d.err=0
 case neg =>
  (have hne2:(d.err != 0)=true:=by simpa using h0);have HS:Hid (d.apRows id rows=(Doc.zero,d.err)):=gH (by unfold Doc.apRows;rw [if_pos h0]);have H0:=gH h0;clear h0;go_wp2_with (refine qAc rfl 27 (.tmp 4) _ rfl (w.heap.size+2) 27 _ _ (by exact rfl) (by exact rfl) (by exact HZ2.out) (by exact rfl) (by exact qAb) (by simp [Value.oneCell']) ?_);refine bodyPost_ret (v:=.tuple #[.agg qAl,.int .i64 d.err]) ?_ rfl (HEnd.out _ _ H0.out HS.out (HX2.out.put (by omega) 27 qAl));exact qAq (P:=Tryz.prog) Tryz.results6 (g:=w.heap.size+2) rfl (by exact HZ2.out.put _) Tryz.underlying27 rfl qAb
 have H0:=gH h0;rw [h0];clear h0;go_wp2_with (refine qAa rfl 48 (.tmp 3) rfl (w.heap.size+1) 48 _ _ (by exact rfl) (by exact HE2.out) Tryz.underlying48 rfl (by exact qBq) ?_);refine (HEk.out _ HX2.out).mono ?_;rintro en w3 ⟨rfl,hx3⟩;have HX3:=gH (HX2.out.trans hx3);have HB3:=gH (HB2.out.ext hx3);have HE3:=gH (HE2.out.ext hx3);have HZ3:=gH (HZ2.out.ext hx3);clear hx3 HX2 HB2 HE2 HZ2 HEk
 by_cases h1:qDd id rows=0
 case neg =>
  (have hne2:(qDd id rows != 0)=true:=by simpa using h1);have HS:Hid (d.apRows id rows=(Doc.zero,qDd id rows)):=gH (by unfold Doc.apRows;rw [if_neg (by simpa using H0.out),if_pos h1]);have H1:=gH h1;clear h1;go_wp2_with (refine qAc rfl 27 (.tmp 4) _ rfl (w.heap.size+2) 27 _ _ (by exact rfl) (by exact rfl) (by exact HZ3.out) (by exact rfl) (by exact qAb) (by simp [Value.oneCell']) ?_);refine bodyPost_ret (v:=.tuple #[.agg qAl,.int .i64 (qDd id rows)]) ?_ rfl (HEnd.out _ _ H1.out HS.out (HX3.out.put (by omega) 27 qAl));exact qAq (P:=Tryz.prog) Tryz.results6 (g:=w.heap.size+2) rfl (by exact HZ3.out.put _) Tryz.underlying27 rfl qAb
 have HS:Hid (d.apRows id rows=d.setX id rows):=gH (by unfold Doc.apRows;rw [if_neg (by simpa using H0.out),if_neg (by simpa using h1)]);rw [h1];clear h1;have HA:=gH (HA1.out _ HX3.out HB3.out HE3.out);(have he3:=fun o=>HE3.out.cell o);go_wp2_with fail;refine HA.out.mono ?_;rintro en w5 ⟨h5,rfl,ho5,hx5⟩;have HX5:=gH (HX3.out.trans hx5);have HZ5:=gH (HZ3.out.ext hx5);have HO5:=gH (ho5.le HX3.out.size);clear ho5 hx5 HA he3;obtain ⟨D,hD⟩:∃ D,D=d.setX id rows:=⟨_,rfl⟩;rw [← hD] at HO5 HS ⊢;clear hD;go_wp2_with (refine qAc rfl 27 (.tmp 4) _ rfl (w.heap.size+2) 27 _ _ (by exact rfl) (by exact rfl) (by exact HZ5.out) (by exact rfl) (by exact qAb) (by simp [Doc.cells,Value.oneCell']) ?_);refine bodyPost_ret (v:=.tuple #[.agg (D.1.cells h5),.int .i64 D.2]) ?_ rfl ⟨h5,by rw [HS.out],by rw [HS.out];exact HO5.out.put HZ5.out _,HX5.out.put (by omega) _ _⟩;exact qAq (P:=Tryz.prog) Tryz.results6 (g:=w.heap.size+2) rfl (by exact HZ5.out.put _) Tryz.underlying27 rfl qAb
theorem zDt {s:ByteArray} (h:vld s=true):s.size<=4*(qAo s 0).length:=by
 have h3:(encL (qAo s 0)).length=s.size:=by
  rw [qIe,qSh _ _ (Nat.le_refl _) (qGu h)];exact Array.length_toList
 have:=zFj (qAo s 0);omega
theorem qKr:∀ {l:Row},RV l->qAe l<=4*(rch l).length
 | [],_=>Nat.le_refl _
 | x :: l,h=>by
  (have h1:=qKr (l:=l) fun y hy=>h y (by simp [hy]));have h2:=zDt (h x (by simp));rw [qEd,qIt,List.length_append];omega
theorem zCs {α:Type} {l:List α} {k:Nat} {r:α} (h:l[k]?=some r):l=l.take k++r :: l.drop (k+1)/\∀ o,l.set k o=l.take k++o :: l.drop (k+1):=by
 obtain ⟨hk,he⟩:=List.getElem?_eq_some_iff.1 h;refine ⟨by rw [← he,← List.drop_eq_getElem_cons hk,List.take_append_drop],fun o=>?_⟩;rw [List.set_eq_take_append_cons_drop,if_pos hk]
theorem qYu:qCg []≠0:=by decide +kernel
theorem qZe:∀ {l:Row} {z:Run},z∈l->z.text.size<=qAe l
 | y :: l,z,h=>by
  rw [qEd]
  rcases List.mem_cons.1 h with rfl | h1
  . omega
  . have:=qZe h1
    omega
theorem qKa (m:Nat):∀ {l:List Row},(∀ y∈l,qAe y<=m)->(l.map qAe).sum<=m*l.length
 | [],_=>Nat.le_refl _
 | y :: l,h=>by
  (have h1:=qKa m (l:=l) fun z hz=>h z (by simp [hz]));have h2:=h y (by simp);rw [List.map_cons,List.sum_cons,List.length_cons,Nat.mul_add];omega
theorem zLf {d:Doc} {id ev:Int} {c:Com} {x:Ev} (ha:Anc d id ev c x) (hf:qCf d) {k:Nat} {r o:Row} (hk:x.rows[k]?=some r) (hrep:o=[]\/∃ u t v,rch r=u++v/\RV o/\rch o=u++(t++v))
 (hrb:∀ y∈o,y.ruby.size<=4611686018427387904) (hap:(d.apRows ev (x.rows.set k o)).2=0) :
 ∃ d' c',d.apRows ev (x.rows.set k o)=(d',0)/\Anc d' id ev c' (x.withRows (x.rows.set k o))/\qCf d'/\(qAo (d.quX id).1 0).Sublist (qAo (d'.quX id).1 0)/\(d'.quX id).2=0:=by
 obtain ⟨hxm,hxi,hxe⟩:=ha.mem;obtain ⟨m,hm1,hm2⟩:=ha.evt;unfold Doc.apRows at hap ⊢;rw [if_neg (by rw [ha.err];decide)] at hap ⊢
 by_cases hck:qDd ev (x.rows.set k o)=0
 . rw [if_neg (by rw [hck];decide)] at hap ⊢
   have hset:d.setX ev (x.rows.set k o)=d.putX (x.withRows (x.rows.set k o)):=by
    unfold Doc.setX;rw [hm1];dsimp only;rw [hm2]
   rw [hset] at hap ⊢;have hid:(x.withRows (x.rows.set k o)).id=ev:=hxi;obtain ⟨-,hnew,k1,x1,-,-,hput⟩:=qYo hap;have hok:=Ev.ok_of hnew;obtain ⟨hs1,hs2⟩:=zCs hk;have hrows:(x.withRows (x.rows.set k o)).rows=x.rows.take k++o :: x.rows.drop (k+1):=hs2 o;(have hom:o∈(x.withRows (x.rows.set k o)).rows:=by rw [hrows];simp);(have hno:o≠[]:=fun h0=>qYu (by have:=hok.rows o hom;rwa [h0] at this));obtain ⟨u,t,v,h1,h2,h3⟩:=hrep.resolve_left hno;obtain ⟨rg,-,-,-,hrx⟩:=(Ev.ok_of hxe).found;obtain ⟨rg2,-,-,-,hre⟩:=hok.found;have hrm:r∈x.rows:=List.mem_of_getElem? hk;have hrv:RV r:=rv_of (hrx r hrm).1;have hins:=zEs hs1 hrows (fun y hy=>(hrx y (List.mem_of_mem_take hy)).1) (zQy hrv h2 h1 h3)
   have hwid:∀ y∈(x.withRows (x.rows.set k o)).rows,qAe y<=128:=fun y hy=>by
    obtain ⟨g1,g2⟩:=qIu (hok.rows y hy);(have g3:RV y:=fun z hz=>(g1 z hz).1);have g4:=qKr g3;have g5:=qIf g3;omega
   have hes:qFi (x.withRows (x.rows.set k o)):=by
    have hx0:=(hf.evs x hxm).1;refine ⟨hx0.1,hx0.2.1,fun y hy=>⟨by have:=hwid y hy;omega,fun z hz=>⟨by have:=hwid y hy;have:=qZe hz;omega,?_⟩⟩⟩;rw [hrows] at hy
    rcases List.mem_append.1 hy with h8 | h8
    . exact ((hx0.2.2 y (List.mem_of_mem_take h8)).2 z hz).2
    . rcases List.mem_cons.1 h8 with rfl | h9
      . exact hrb z hz
      . exact ((hx0.2.2 y (List.mem_of_mem_drop h9)).2 z hz).2
   have hby:(x.withRows (x.rows.set k o)).bytes<=1099511627776:=by
    have g1:=qKa 128 hwid;have g2:=hok.few;unfold Ev.bytes;omega
   obtain ⟨⟨c',h4⟩,h5,h6,h7⟩:=zNl ha hf hes hby hid hap hins;refine ⟨_,c',Prod.ext rfl hap,h4,h5,h6,h7⟩
 . rw [if_pos hck] at hap
   exact absurd hap hck
theorem zIh {x:Ev} {regs:List Reg} (hx:x.err regs=0) (hs:qFi x) {j:Nat} {r o:Row} {b k:Nat} {cs:List Int} (hr:x.rows[j]?=some r) (hq:o=[]\/RQ r cs b k o) (hb:b<=2000000) :
 (∀ y∈x.rows.set j o,qDn y)/\((x.rows.set j o).map qAe).sum<=1099511627776/\∀ y∈o,y.ruby.size<=4611686018427387904:=by
 have hok:=Ev.ok_of hx
 have h128:∀ y∈x.rows,qAe y<=128:=fun y hy=>by
  obtain ⟨g1,g2⟩:=qIu (hok.rows y hy);(have g3:RV y:=fun z hz=>(g1 z hz).1);have g4:=qKr g3;have g5:=qIf g3;omega
 have hru:∀ y∈o,y.ruby.size<=4611686018427387904:=fun y hy=>by
  rcases hq with h0 | h0
  . rw [h0] at hy
    cases hy
  . exact h0.ruby _ (fun z hz=>((hs.2.2 r (List.mem_of_getElem? hr)).2 z hz).2) y hy
 have hob:qAe o<=2000000:=by
  rcases hq with h0 | h0
  . rw [h0];exact Nat.zero_le _
  . have:=h0.by'
    omega
 have hall:∀ y∈x.rows.set j o,qAe y<=2000000:=fun y hy=>by
  rcases List.mem_or_eq_of_mem_set hy with h1 | h1
  . have:=h128 y h1
    omega
  . rw [h1];exact hob
 refine ⟨fun y hy=>?_,?_,hru⟩
 . have hyb:=hall y hy
   refine ⟨by omega,fun z hz=>⟨by have:=qZe hz;omega,?_⟩⟩
   rcases List.mem_or_eq_of_mem_set hy with h1 | h1
   . exact ((hs.2.2 y h1).2 z hz).2
   . subst h1
     exact hru z hz
 . have g1:=qKa 2000000 hall
   have g2:=hok.few;rw [List.length_set] at g1;omega
theorem zAl {d:Doc} {id ev:Int} {c:Com} {x:Ev} (h:Anc d id ev c x):(d.quX id).1.size<=4294967296:=by
 have hx:=h.mem.2.2;have hok:=Ev.ok_of hx;rw [h.quote]
 have h128:∀ y∈x.rows,qAe y<=128:=fun y hy=>by
  obtain ⟨g1,g2⟩:=qIu (hok.rows y hy);(have g3:RV y:=fun z hz=>(g1 z hz).1);have g4:=qKr g3;have g5:=qIf g3;omega
 have hq:=qJp c.fr c.til x.chars x.chars.length (Nat.le_refl _);rw [List.take_length] at hq;have h1:=qMt [10] (x.rows.map qAy)
 have h2:((x.rows.map qAy).map List.length)=x.rows.map qAe:=by
  rw [List.map_map];(refine List.map_congr_left fun y _=>?_)
  show (qAy y).length=qAe y
  unfold qAy qAe;rw [List.length_flatMap];rfl
 rw [h2,List.length_map] at h1;have h3:=qKa 128 h128;have h4:=hok.few
 have h5:x.text.length<=516:=by
  have h6:x.text.length<=(x.rows.map qAe).sum+x.rows.length*1:=h1;omega
 have h7:=qGr ⟨x.text.toArray⟩
 have h8:x.chars.length<=516:=by
  unfold Ev.chars;refine Nat.le_trans h7 ?_
  show x.text.toArray.size<=516
  rw [List.size_toArray];exact h5
 show (qCz c.fr c.til x.chars).size<=_
 omega
theorem zCo:(Tryz.prog.info? 119).map (fun i=>(i.zero,i.size,i.bytes))=some (some (.agg #[.int .i64 0,.slice none 0 0]),2,32):=by kernel_rfl
structure LnH where
 num:Int
 A:Option Addr
 n:Nat
 c:Nat
def LnH.vals (h:LnH):List Value:=[.int .i64 h.num,.slice h.A h.n h.c]
def FdsK (w:World) (A:Option Addr) (n:Nat) (l:List Fd):Prop:=∀ w1,KB 122 w w1->qJy w1 A n l
theorem FdsK.of_own {w:World} {L n c:Nat} {A:Option Addr} {l:List Fd} (h:w.ownsRow L 122 3 (.slice A n c) l.length (l.flatMap Fd.vals)):n=l.length/\FdsK w A l.length l:=by
 obtain ⟨A',c',hv,-⟩:=qBn (f:=Fd.vals) (size:=3) (fun _=>rfl) rfl h
 cases hv
 refine ⟨rfl,fun w1 k=>?_⟩
 have h2:w1.ownsRow L 122 3 (.slice A l.length c) l.length (l.flatMap Fd.vals):=by
  refine ⟨h.1,?_⟩
  rcases h.2 with hn | ⟨g,cap,cur,hv,hb,hg,rest⟩
  . exact .inl hn
  . cases hv
    exact .inr ⟨g,c,cur,rfl,hb,k _ _ hg,rest⟩
 obtain ⟨A',c',hv,-,-,hsl,-⟩:=qBn (f:=Fd.vals) (size:=3) (fun _=>rfl) rfl h2
 cases hv
 exact hsl
theorem FdsK.kb {w w1:World} {A:Option Addr} {n:Nat} {l:List Fd} (h:FdsK w A n l) (k:KB 122 w w1):FdsK w1 A n l:=fun w2 k2=>h w2 (k.trans k2)
theorem FdsK.at_ {w:World} {A:Option Addr} {n:Nat} {l:List Fd} (h:FdsK w A n l):qJy w A n l:=h w (KB.refl w)
structure qIz (w:World) (L:Nat) (v:Value) (l:List (Int × List Fd)) (hs:List LnH):Prop where
 own:w.ownsRow L 119 2 v l.length (hs.flatMap LnH.vals)
 len:hs.length=l.length
 each:∀ (i:Nat) (h:LnH) (x:Int × List Fd),hs[i]?=some h->l[i]?=some x->h.num=x.1/\h.n=x.2.length/\FdsK w h.A h.n x.2
section
variable {w w1:World} {L:Nat} {v v':Value} {l:List (Int × List Fd)} {hs:List LnH}
theorem qIz.nil (w:World) (L:Nat):qIz w L (.slice none 0 0) [] []:=⟨⟨rfl,.inl ⟨rfl,rfl⟩⟩,rfl,fun i h x a=>by simp at a⟩
theorem qIz.kb (h:qIz w L v l hs) (k1:KB 119 w w1) (k2:KB 122 w w1):qIz w1 L v l hs:=by
 refine ⟨⟨h.own.1,?_⟩,h.len,fun i a b c d=>⟨(h.each i a b c d).1,(h.each i a b c d).2.1,(h.each i a b c d).2.2.kb k2⟩⟩
 rcases h.own.2 with hn | ⟨g,cap,cur,hv,hb,hg,rest⟩
 . exact .inl hn
 . exact .inr ⟨g,cap,cur,hv,hb,k1 _ _ hg,rest⟩
theorem qIz.ext (h:qIz w L v l hs) (k:Ext w w1):qIz w1 L v l hs:=h.kb (KB.ext k) (KB.ext k)
theorem qIz.snoc {A:Option Addr} {c:Nat} {num:Int} {fl:List Fd} (h:qIz w L v l hs) (hg:w.grownBy w1 v.ownBlock) (hf:FdsK w A fl.length fl)
 (ho:w1.ownsRow L 119 2 v' (l.length+1) (hs.flatMap LnH.vals++[.int .i64 num,.slice A fl.length c])):qIz w1 L v' (l++[(num,fl)]) (hs++[⟨num,A,fl.length,c⟩]):=by
 have k2:KB 122 w w1:=KB.grown hg (qAt h.own) (by decide);refine ⟨?_,by simp [h.len],fun i a b p q=>?_⟩
 . rw [List.length_append,List.flatMap_append];exact ho
 . by_cases hi:i<l.length
   . have hl:=h.len
     rw [List.getElem?_append_left (by omega)] at p q;exact ⟨(h.each i a b p q).1,(h.each i a b p q).2.1,(h.each i a b p q).2.2.kb k2⟩
   . have hi':i=l.length:=by
      have:=(List.getElem?_eq_some_iff.1 q).1;simp at this;omega
     subst hi';rw [List.getElem?_append_right (by rw [h.len];exact Nat.le_refl _),h.len,Nat.sub_self] at p;rw [List.getElem?_append_right (Nat.le_refl _),Nat.sub_self] at q;simp only [List.getElem?_cons_zero,Option.some.injEq] at p q;subst p q;exact ⟨rfl,rfl,hf.kb k2⟩
end
def lnsL:Nat->List (List Fl)->List (Int × List Fd)
 | _,[]=>[]
 | k,l :: r=>(if l=[] then [] else [((k:Int)+1,qDz l 0 l)])++lnsL (k+1) r
theorem qOe:∀ (a b:List (List Fl)) (k:Nat),lnsL k (a++b)=lnsL k a++lnsL (k+a.length) b
 | [],b,k=>by simp [lnsL]
 | l :: a,b,k=>by
  rw [List.cons_append,lnsL,lnsL,qOe a b (k+1),List.append_assoc,List.length_cons,show k+1+a.length=k+(a.length+1) by omega]
theorem zGv {ls:List (List Fl)} {k:Nat} {l:List Fl} (h:ls[k]?=some l):lnsL 0 (ls.take (k+1))=lnsL 0 (ls.take k)++(if l=[] then [] else [((k:Int)+1,qDz l 0 l)]):=by
 have hk:=(List.getElem?_eq_some_iff.1 h).1;rw [take_snoc' ls k l h,qOe,List.length_take,Nat.min_eq_left (Nat.le_of_lt hk),Nat.zero_add];simp [lnsL]
theorem zAe:∀ (ls:List (List Fl)) (k:Nat),(lnsL k ls).length<=ls.length
 | [],_=>Nat.le_refl _
 | l :: r,k=>by
  have:=zAe r (k+1);rw [lnsL,List.length_append,List.length_cons]
  split<;>simp<;>omega
def zQe (w1:World) (L:Nat) (ls:List (List Fl)) (v dv i:Value) (wr:World):Prop:=∃ (k:Nat) (hs:List LnH),k<=ls.length/\dv = .slice none 0 0/\i = .int .i64 (k:Int)/\Ext w1 wr/\qIz wr L v (lnsL 0 (ls.take k)) hs
theorem qVt (s:ByteArray) (parts:List ByteArray) (ls:List (List Fl)) (w:World) (hE:Env w) (hsz:s.size<=262144) (hsp:Lib.splitB ⟨#[10]⟩ 0 (Lib.countB s ⟨#[10]⟩) s=parts) (hcn:Lib.countB s ⟨#[10]⟩+1=ls.length) (hln:parts.length=ls.length)
 (hfew:ls.length<=1000000) (heach:∀ (i:Nat) (p:ByteArray) (l:List Fl),parts[i]?=some p->ls[i]?=some l->p.data.toList=qOd l/\p.size<=1000/\l.length<=1000/\∀ f∈l,f.Ok) :
 Calls Tryz.prog 55 #[.string s] w fun e w'=>∃ v hs,e = .returned (.tuple #[v,.slice none 0 0])/\qIz w' w.heap.size v (lnsL 0 ls) hs/\Ext w w':=by
 obtain ⟨m,hm⟩:=hE.2;have HS:=gH (Tryz.strings_Split s ⟨#[10]⟩ m w (by omega) hm (by decide));rw [hsp,hcn] at HS;have HX1:=gH ((Ext.refl w).alloc (.cells (parts.map Value.string).toArray 9));have HB1:=gH (Blk.new w 9 (parts.map Value.string).toArray);have HEa:=gH heach;have HLn:=gH hln;have d0:decide (262144<s.size)=false:=decide_eq_false (by omega);(have d0':¬ 262144<s.size:=by omega);clear hE hm hsp hcn hln heach;obtain ⟨n,hn⟩:∃ n,n=ls.length:=⟨_,rfl⟩;rw [← hn] at HS hfew;have HN:=gH hn;clear hn;go_enter Tryz.func55,Tryz.ntmps55;go_wp2_with fail;refine HS.out.mono ?_;rintro e w1 ⟨rfl,hw1⟩;rw [← hw1] at HX1 HB1;clear hw1 HS;go_wp2_with fail
 go_loopw [4,5,18] (fun v dv i wr=>zQe w1 w1.heap.size ls v dv i wr) (fun _ _ i _=>n-(intOf i).toNat)
 case atStart=>exact ⟨0,[],Nat.zero_le _,rfl,rfl,Ext.refl _,qIz.nil _ _⟩
 case round =>
  obtain ⟨k,hs,hk,rfl,rfl,hx,hbd⟩:=hrel;rw [← HN.out] at hk;have HX:=gH hx;have HD:=gH hbd;clear hx hbd
  by_cases hlt:k<n
  . obtain ⟨l,hl⟩:∃ l,ls[k]?=some l:=⟨_,List.getElem?_eq_getElem (by rw [← HN.out];exact hlt)⟩
    obtain ⟨p,hp⟩:∃ p,parts[k]?=some p:=⟨_,List.getElem?_eq_getElem (by rw [HLn.out,← HN.out];exact hlt)⟩;obtain ⟨e1,e2,e3,e4⟩:=HEa.out k p l hp hl;(have hcell:w1.cell? ⟨w.heap.size,k,none⟩=some (.string p):=by rw [HB1.out.cell];simp [hp]);have hcw:=HX.out.cell hcell;have d1:decide (1000<p.size)=false:=decide_eq_false (by omega);(have d1':¬ 1000<p.size:=by omega);have HF:=gH (fun w=>zCr p l w e1 (by omega) e4);have HSn:=gH (zGv hl);have HXa:=gH ((Ext.refl wr).alloc (.cells #[.int .i64 ((k:Int)+1),.int .i64 0,.int .i64 0] 116));have HBa:=gH (Blk.new wr 116 #[.int .i64 ((k:Int)+1),.int .i64 0,.int .i64 0]);have HLn2:=gH (Nat.le_trans (zAe (ls.take k) 0) (by rw [List.length_take];exact Nat.min_le_left _ _));clear hcell hp hl e1 e4;go_wp2_with fail;refine (HF.out _).mono ?_;rintro e w2 ⟨v2,rfl,ho2,hx2⟩;rw [← qQi,← qNq l 0 l] at ho2;obtain ⟨A2,c2,rfl,-⟩:=qBn (f:=Fd.vals) (size:=3) (fun _=>rfl) rfl ho2;obtain ⟨-,hfk⟩:=FdsK.of_own ho2;have HFk:=gH hfk;have HB2:=gH (HBa.out.ext hx2);have HX2:=gH (HXa.out.trans hx2);have HD2:=gH (HD.out.ext HX2.out);(have hc2:=fun o=>HB2.out.cell o);(have hf2:=fun o=>HB2.out.frozen o);(have hset:w2.setCell ⟨wr.heap.size,1,none⟩ (.int .i64 0)=w2:=by rw [qAd HB2.out 1];exact qEv HB2.out);have hfl:=qNq l 0 l;obtain ⟨fl,hfl2⟩:∃ fl,fl=qDz l 0 l:=⟨_,rfl⟩;rw [← hfl2] at HFk HSn hfl ⊢
    have HXw:=gH (HX.out.trans HX2.out);have hsz2:=HXw.out.size;clear ho2 hx2 hfk hfl2
    by_cases hl0:l=[]
    . have hz:fl.length=0:=by rw [hfl,hl0];rfl
      rw [if_pos hl0,List.append_nil] at HSn;(have d2:¬ (0:Int)<((fl.length:Nat):Int):=by omega);clear hfl hl0;rw [hz] at d2 ⊢;go_wp2_with fail;exact ⟨⟨k+1,hs,by rw [← HN.out];omega,rfl,by go_num,HXw.out,by rw [HSn.out];exact HD2.out⟩,by simp only [intOf];omega⟩
    . rw [if_neg hl0] at HSn
      (have hz:0<fl.length:=by rw [hfl];exact List.length_pos_iff.2 hl0);have d2:decide ((0:Int)<((fl.length:Nat):Int))=true:=decide_eq_true (by omega);(have d3:(0:Int)<((fl.length:Nat):Int):=by omega);clear hfl hl0;go_wp2_with (at_builtin;refine qAi rfl (.tmp 56) (.tmp 61) 112 rfl zCo Tryz.underlying112 rfl (by decide) (HD2.out.own.alloc _) (by exact rfl) w2.heap.size _ (by exact rfl) (by exact Blk.new' rfl) (by exact rfl) (by simp [Value.oneCell']) (by have:=HLn2.out;omega) (by have:=HLn2.out;unfold maxLen;omega) (by simp;omega) ?_;intro v' w4 hown4 hgr);refine ⟨⟨k+1,hs++[⟨(k:Int)+1,A2,fl.length,c2⟩],by rw [← HN.out];omega,rfl,by go_num,(HXw.out.alloc _).grown hgr (fun q hq=>qBg HD2.out.own q hq),by rw [HSn.out];exact (HD2.out.ext ((Ext.refl _).alloc _)).snoc hgr (HFk.out.kb (KB.ext ((Ext.refl _).alloc _))) hown4⟩,by simp only [intOf];omega⟩
  . obtain rfl:k=n:=by omega
    have ht:ls.take k=ls:=List.take_of_length_le (by rw [← HN.out];exact Nat.le_refl _);rw [ht] at HD;have HXf:=gH (HX1.out.trans HX.out);clear ht;obtain ⟨A9,c9,rfl,-⟩:=qBn (f:=LnH.vals) (size:=2) (fun _=>rfl) HD.out.len HD.out.own;go_wp2_with fail;go_ret2;exact ⟨_,hs,rfl,⟨qBo HD.out.own HX1.out.size,HD.out.len,HD.out.each⟩,HXf.out⟩
end
end Go.Proofs.YtneffpbodfjceaaGreatDoor