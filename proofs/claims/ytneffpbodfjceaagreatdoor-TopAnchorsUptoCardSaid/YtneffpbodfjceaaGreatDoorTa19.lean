/- Texts laid together. -/
import Derived.Test.YtneffpbodfjceaaGreatDoorTa18
set_option linter.unusedVariables false
set_option linter.unusedSimpArgs false
set_option maxRecDepth 100000
set_option maxHeartbeats 16000000
namespace Go.Proofs.YtneffpbodfjceaaGreatDoor
section
open Go.RowKit
theorem qPs {P:Program} {ops:Array Oper} {rest:List Oper} {op:Oper} {a:Act} {w:World} {Q:Exit->Act->World->Prop} (hw:Region.wanted op (yielded ops a.tmps)=true) (ty:TypeId) (x:Operand) (ho:op.op = .load ty x) (g:Nat) (t:TypeId) (cs:Array Value) (d:TypeDesc) (hx:a.eval x = .pointer (some ⟨g,0,none⟩))
 (hB:Blk w g t cs) (hu:P.underlying ty=some d) (hd:d.isRow=true) (hi:(P.info? ty).map (·.size)=some cs.size) (h:wpList P ops Q rest (a.put op.dst (.agg cs)) w):wpList P ops Q (op :: rest) a w :=
 BigFrame.wpList_want hw fun _ hK=>qBf ty x ho g t cs d hx hB hu hd hi (hK _ _ h)
theorem zNd (A:Option Addr) (n c:Nat) (l:Row) (i:Int) (w:World) (hE:Env w) (hl:qBj w A n l) (hb:qAe l<=35184372088831) (hn:n<=4611686018427387904) (hi:i<0\/qAs l<=i) :
 Calls Tryz.prog 51 #[.agg #[.slice A n c],.int .i64 i] w fun e w'=>e = .returned (.tuple #[.int .i32 0,.agg #[.int .u8 0,.bool false,.bool false],.bool false])/\Ext w w':=by
 have HX:=gH (((Ext.refl w).alloc (.cells #[.slice A n c] 61)).alloc (.cells #[.int .u8 0,.bool false,.bool false] 42));have HB:=gH ((Blk.new w 61 #[.slice A n c]).alloc (.cells #[.int .u8 0,.bool false,.bool false] 42));have HZ:=gH (Blk.new' (w:=w.alloc (.cells #[.slice A n c] 61)) (g:=w.heap.size+1) (t:=42) (cs:=#[.int .u8 0,.bool false,.bool false]) (by simp));have HLn:=gH (qIm A n c l _ (hE.ext HX.out) (hl.ext HX.out) (by omega) hn)
 by_cases h0:i<0
 . have q1:decide (i<0)=true:=decide_eq_true h0
   clear hE hl hb hn hi;go_enter Tryz.func51,Tryz.ntmps51;go_wp2_with (refine qAc rfl 42 (.tmp 5) _ rfl (w.heap.size+1) 42 _ _ (by exact rfl) (by exact rfl) (by exact HZ.out) (by exact rfl) (by exact qDu) (by simp [Value.oneCell']) ?_);refine bodyPost_ret (v:=.tuple #[.int .i32 0,.agg #[.int .u8 0,.bool false,.bool false],.bool false]) ?_ rfl ⟨rfl,HX.out.put (by omega) _ _⟩;exact qJr (P:=Tryz.prog) Tryz.results51 (g:=w.heap.size+1) rfl (by exact HZ.out.put _) Tryz.underlying42 rfl qDu
 . have q1:decide (i<0)=false:=decide_eq_false h0
   have q2:decide (qAs l<=i)=true:=decide_eq_true (by omega);(have q3:qAs l<=i:=by omega);clear hE hl hb hn hi;go_enter Tryz.func51,Tryz.ntmps51;go_wp2_with (refine qPs (by exact rfl) 61 (.tmp 2) rfl w.heap.size 61 _ _ (by exact rfl) (by exact HB.out) Tryz.underlying61 rfl (by exact qAz) ?_);refine HLn.out.mono ?_;rintro e w2 ⟨rfl,hx2⟩;have HX2:=gH (HX.out.trans hx2);have HZ2:=gH (HZ.out.ext hx2);clear hx2 HX HB HZ HLn;go_wp2_with (refine qAc rfl 42 (.tmp 5) _ rfl (w.heap.size+1) 42 _ _ (by exact rfl) (by exact rfl) (by exact HZ2.out) (by exact rfl) (by exact qDu) (by simp [Value.oneCell']) ?_);refine bodyPost_ret (v:=.tuple #[.int .i32 0,.agg #[.int .u8 0,.bool false,.bool false],.bool false]) ?_ rfl ⟨rfl,HX2.out.put (by omega) _ _⟩;exact qJr (P:=Tryz.prog) Tryz.results51 (g:=w.heap.size+1) rfl (by exact HZ2.out.put _) Tryz.underlying42 rfl qDu
theorem zNc (A:Option Addr) (n c:Nat) (l:Row) (i:Int) (w:World) (hE:Env w) (hl:qBj w A n l) (hb:qAe l<=35184372088831) (hn:n<=4611686018427387904) (hv:RV l) (hlen:(rch l).length<=1000000) :
 Calls Tryz.prog 51 #[.agg #[.slice A n c],.int .i64 i] w fun e w'=>∃ (r cl:Int) (it un ok:Bool),e = .returned (.tuple #[.int .i32 r,.agg #[.int .u8 cl,.bool it,.bool un],.bool ok])/\Ext w w':=by
 by_cases hi:i<0\/qAs l<=i
 . exact (zNd A n c l i w hE hl hb hn hi).mono fun e w' ⟨h1,h2⟩=>⟨0,0,false,false,false,h1,h2⟩
 . have h0:0<=qAs l:=by rw [qIf hv];omega
   obtain ⟨-,hch⟩:=qId h0;have hr:=qIf hv;obtain ⟨k,rfl⟩:∃ k:Nat,i=k:=⟨i.toNat,by omega⟩;(have hk:k<(qOn l).length:=by omega);(exact (zNb A n c l k (qOn l)[k] w hE hl hb hn h0 (by omega) (List.getElem?_eq_getElem hk)).mono fun e w' ⟨h1,h2⟩=>⟨_,_,_,_,true,h1,h2⟩)
structure RQ (l:Row) (cs:List Int) (b k:Nat) (o:Row):Prop where
 rv:RV o
 ch:rch o=cs
 by':qAe o<=b
 len:o.length<=k
 ruby:∀ m:Nat,(∀ x∈l,x.ruby.size<=m)->∀ x∈o,x.ruby.size<=m
theorem RQ.app {l o1 o2 o:Row} {c1 c2:List Int} {b1 b2 k1 k2:Nat} (h:RQ l c1 b1 k1 o1) (k:RQ l c2 b2 k2 o2) (hn:NOk (o1++o2) o):RQ l (c1++c2) (b1+b2) (k1+k2) o:=by
 (have hv:RV (o1++o2):=fun x hx=>(List.mem_append.1 hx).elim (h.rv x) (k.rv x));refine ⟨hn.rv hv,by rw [hn.ch hv,qHd,h.ch,k.ch],by rw [hn.by',qBe];have:=h.by';have:=k.by';omega,by have:=hn.len;rw [List.length_append] at this;have:=h.len;have:=k.len;omega,fun m hm=>hn.ruby m fun x hx=>(List.mem_append.1 hx).elim (h.ruby m hm x) (k.ruby m hm x)⟩
theorem RQ.sl1 {l o:Row} {I:Nat} (h:NOk (slR (0:Nat) I 0 l) o) (hv:RV l):RQ l ((rch l).take I) (qAe l) l.length o:=by
 have hs:=zIf ((0:Nat):Int) I 0 hv;refine ⟨h.rv hs,?_,by rw [h.by'];exact qKv _ _ 0 hv,by have:=h.len;rwa [qTe] at this,fun m hm=>h.ruby m (qTf _ _ m 0 hm)⟩;rw [h.ch hs,qZa 0 hv];simp
theorem RQ.sl2 {l o:Row} {I N:Nat} (h:NOk (slR I N 0 l) o) (hv:RV l) (hN:N=(rch l).length):RQ l ((rch l).drop I) (qAe l) l.length o:=by
 have hs:=zIf (I:Int) N 0 hv;refine ⟨h.rv hs,?_,by rw [h.by'];exact qKv _ _ 0 hv,by have:=h.len;rwa [qTe] at this,fun m hm=>h.ruby m (qTf _ _ m 0 hm)⟩;rw [h.ch hs,qZa 0 hv,hN];simp
theorem RQ.one {l o:Row} {s:ByteArray} {cl:Int} {it un:Bool} (h:NOk [⟨s,cl,it,un,⟨#[]⟩⟩] o) (hv:vld s=true):RQ l (qAo s 0) s.size 1 o:=by
 have hs:RV [(⟨s,cl,it,un,⟨#[]⟩⟩:Run)]:=fun x hx=>by
  obtain rfl:=List.mem_singleton.1 hx;exact hv
 refine ⟨h.rv hs,by rw [h.ch hs,qLm],by rw [h.by',qCi];exact Nat.le_refl _,h.len,fun m hm=>h.ruby m fun x hx=>?_⟩;obtain rfl:=List.mem_singleton.1 hx;exact Nat.zero_le _
def RPd (l:Row) (cs:List Int) (b k L:Nat) (u:Value) (w:World):Prop:=∃ A c o,u = .agg #[.slice A o.length c]/\w.ownsRow L 102 5 (.slice A o.length c) o.length (o.flatMap Run.cells)/\RQ l cs b k o
def zLi (l:Row) (s:ByteArray) (I L:Nat):List (Value->World->Prop) :=
 [RPd l ((rch l).take I) (qAe l) l.length L,RPd l (qAo s 0) s.size 1 L,RPd l ((rch l).take I++qAo s 0) (qAe l+s.size) (l.length+1) L,RPd l ((rch l).drop I) (qAe l) l.length L,
  RPd l ((rch l).take I++qAo s 0++(rch l).drop I) (qAe l+s.size+qAe l) (l.length+1+l.length) L]
theorem qEq (l:Row) (s:ByteArray) (I L:Nat):QSt (zLi l s I L):=by
 (have key:∀ cs b k u wa wb,Ext wa wb->RPd l cs b k L u wa->RPd l cs b k L u wb:=fun cs b k u wa wb hx ⟨A,c,o,e,ho,hq⟩=>⟨A,c,o,e,qAh ho hx,hq⟩);intro p hp u wa wb hx hh;simp only [zLi,List.mem_cons,List.not_mem_nil,or_false] at hp
 rcases hp with rfl | rfl | rfl | rfl | rfl<;>exact key _ _ _ _ _ _ hx hh
def RpJ (l:Row) (s:ByteArray) (I L g:Nat) (W:World):List Value->World->Prop
 | [a0,a1,a2,a3,a4,_],w'=>∃ w5 A c,∃ o:Row,QJ (zLi l s I L) W [a0,a1,a2,a3,a4] w5/\a4 = .agg #[.slice A o.length c]/\w5.ownsRow L 102 5 (.slice A o.length c) o.length (o.flatMap Run.cells) /\
  RQ l ((rch l).take I++qAo s 0++(rch l).drop I) (qAe l+s.size+qAe l) (l.length+1+l.length) o/\w'=putB w5 g 61 #[.slice A o.length c]
 | us,w'=>QJ (zLi l s I L) W us w'
theorem RpJ.ext {l:Row} {s:ByteArray} {I L g:Nat} {W:World}:∀ {us:List Value} {w':World},RpJ l s I L g W us w'->us.length<=5->Ext W w'
 | [],_,h,_=>QJ.ext h
 | [_],_,h,_=>QJ.ext h
 | [_,_],_,h,_=>QJ.ext h
 | [_,_,_],_,h,_=>QJ.ext h
 | [_,_,_,_],_,h,_=>QJ.ext h
 | [_,_,_,_,_],_,h,_=>QJ.ext h
 | _ :: _ :: _ :: _ :: _ :: _ :: _,_,_,hl=>by simp at hl
def zEg (l:Row) (s:ByteArray) (w:World) (e:Ending) (w':World):Prop :=
 ∃ A c,∃ o:Row,e = .returned (.agg #[.slice A o.length c])/\w'.ownsRow w.heap.size 102 5 (.slice A o.length c) o.length (o.flatMap Run.cells)/\Ext w w' /\
  (o=[]\/∃ u v,rch l=u++v/\RQ l (u++(qAo s 0++v)) (qAe l+s.size+qAe l) (l.length+1+l.length) o)
theorem qUh (A:Option Addr) (n c:Nat) (l:Row) (P:Int) (s:ByteArray) (w:World) (hE:Env w) (hl:qBj w A n l) (hrv:RV l) (hn:n<=1000) (hb:qAe l<=1000000) (hlen:(rch l).length<=1000) (hs:s.size<=4294967296) :
 Calls Tryz.prog 10 #[.agg #[.slice A n c],.int .i64 P,.int .i64 P,.string s] w (zEg l s w):=by
 have HX:=gH (((Ext.refl w).alloc (.cells #[.slice A n c] 61)).alloc (.cells #[.slice none 0 0] 61));have HB:=gH ((Blk.new w 61 #[.slice A n c]).alloc (.cells #[.slice none 0 0] 61));have HZ:=gH (Blk.new' (w:=w.alloc (.cells #[.slice A n c] 61)) (g:=w.heap.size+1) (t:=61) (cs:=#[.slice none 0 0]) (by simp));have hnl:=gH (show n=l.length from hl.len.symm);have HLn:=gH (qIm A n c l _ (hE.ext HX.out) (hl.ext HX.out) (by omega) (by omega));rw [qIf hrv] at HLn;have HVd:=gH (fun w' (hx:Ext w w')=>qDj s w' (hE.ext hx) (by omega));have HAt:=gH (fun i w' (hx:Ext w w')=>zNc A n c l i w' (hE.ext hx) (hl.ext hx) (by omega) (by omega) hrv (by omega));obtain ⟨N,hN⟩:∃ N,N=(rch l).length:=⟨_,rfl⟩;rw [← hN] at HLn hlen;have HNN:=gH hN;obtain ⟨I,hI⟩:∃ I:Nat,(I:Int)=min (max P 0) (N:Int):=⟨(min (max P 0) (N:Int)).toNat,by omega⟩;(have hIN:I<=N:=by omega);have HLi:=gH (fun w'=>qSt N P P w');rw [← hI,show min (max P (I:Int)) (N:Int)=I by omega] at HLi;have HSl:=gH (fun w' (hx:Ext w w')=>qPy A n c l 0 I w' (hE.ext hx) (hl.ext hx) hrv hn (by omega) (Nat.zero_le _) (by omega) (by omega));have HSr:=gH (fun w' (hx:Ext w w')=>qPy A n c l I N w' (hE.ext hx) (hl.ext hx) hrv hn (by omega) hIN (by omega) (by omega));have HOf:=gH (fun cl it un w'=>zNe s cl it un w' hs);have HV:=gH hrv;unfold zQd at HSl HSr;unfold zBe at HOf;(have m3:¬ ((N:Int)<0):=by omega)
 (have q1:wrap64 ((I:Int)-1)=(I:Int)-1:=by unfold wrap64;omega);have q0:decide ((N:Int)<0)=false:=decide_eq_false m3;have HBy:=gH hb;have HLe:=gH hlen;have HSz:=gH hs;have HNs:=gH hn;clear hE hl hrv hN hI hIN hb hlen hs hn;go_enter Tryz.func10,Tryz.ntmps10;go_wp2_with (refine qAa rfl 61 (.tmp 4) rfl w.heap.size 61 _ _ (by exact rfl) (by exact HB.out) Tryz.underlying61 rfl (by exact qAz) ?_);refine HLn.out.mono ?_;rintro e w1 ⟨rfl,hx1⟩;have HX1:=gH (HX.out.trans hx1);have HB1:=gH (HB.out.ext hx1);have HZ1:=gH (HZ.out.ext hx1);clear hx1 HX HB HZ HLn;go_wp2_with fail;refine (HVd.out _ HX1.out).mono ?_;rintro e w2 ⟨rfl,hx2⟩;have HX2:=gH (HX1.out.trans hx2);have HB2:=gH (HB1.out.ext hx2);have HZ2:=gH (HZ1.out.ext hx2);clear hx2 HX1 HB1 HZ1 HVd
 cases hvs:vld s with
 | false =>
  go_wp2_with (refine qAc rfl 61 (.tmp 8) _ rfl (w.heap.size+1) 61 _ _ (by exact rfl) (by exact rfl) (by exact HZ2.out) (by exact rfl) (by exact qAz) (by simp [Value.oneCell']) ?_);refine bodyPost_ret (v:=.agg #[.slice none 0 0]) ?_ rfl ⟨none,0,[],rfl,⟨rfl,.inl ⟨rfl,rfl⟩⟩,HX2.out.put (by omega) _ _,.inl rfl⟩;exact qBz (P:=Tryz.prog) Tryz.results10 (g:=w.heap.size+1) rfl (by exact HZ2.out.put _) Tryz.underlying61 rfl qAz
 | true =>
  have HVs:=gH hvs;clear hvs;go_wp2_with fail;refine (HLi.out _).mono ?_;rintro e w2' ⟨rfl,hw⟩;subst hw;go_wp2_with (refine qAa rfl 61 (.tmp 4) rfl w.heap.size 61 _ _ (by exact rfl) (by exact HB2.out) Tryz.underlying61 rfl (by exact qAz) ?_);refine (HAt.out _ _ HX2.out).mono ?_;rintro e w3 ⟨r0,cl,it,un,ok,rfl,hx3⟩;have hs3z:=gH (HX2.out.trans hx3).size;have hy3:=hx3.alloc (.cells #[.int .u8 cl,.bool it,.bool un] 42);have HX3:=gH (HX2.out.trans hy3);have HB3:=gH (HB2.out.ext hy3);have HZ3:=gH (HZ2.out.ext hy3);have HS3:=gH (Blk.new w3 42 #[.int .u8 cl,.bool it,.bool un]);clear hx3 hy3 HX2 HB2 HZ2 HLi
  cases ok with
  | true =>
   go_wp2_with fail;have HOfq:=gH (HOf.out cl it un);obtain ⟨Wq,hWq⟩:∃ W,W=w3.alloc (.cells #[.int .u8 cl,.bool it,.bool un] 42):=⟨_,rfl⟩;rw [← hWq] at HX3 HB3 HZ3 HS3 ⊢;clear hWq;obtain ⟨gs,hgs⟩:∃ g,g=w3.heap.size:=⟨_,rfl⟩;rw [← hgs] at HS3 ⊢;clear hgs HAt;have HXq:=HX3;have HBq:=HB3;have HZq:=HZ3;have HSq:=HS3;have hszq:w.heap.size<=Wq.heap.size:=HXq.out.size;refine qAr [some 47,some 48,some 49,some 50,some 51,some 52,some 53,some 54,some 55,some 56,some 57,some 58,none] [[],[],[0,1],[],[],[3,4,2],[2,5,5],[],[],[],[7,8,9,6],[6,10,10],[11,11,0,1,2,3,4,5,6,7,8,9,10,11]] [2,5,6,10,11,12] [.agg #[.slice A n c],.int .i64 I,undef,.string s,.agg #[.int .u8 cl,.bool it,.bool un],undef,undef,.agg #[.slice A n c],.int .i64 I,.int .i64 N,undef,undef,undef] (RpJ l s I w.heap.size (w.heap.size+1) Wq) (by kernel_rfl) (by kernel_rfl) (by kernel_rfl) (by kernel_rfl) (by kernel_rfl) (by kernel_rfl) (by kernel_rfl) (by decide) ?_ ?_ ?_ ?_
   . exact QJ.start _ Wq
   . intro i o ho hc a w' us K' hJ hF hlim hk
     match i,ho with
     | 0,ho =>
      simp only [gA,gB,gC,gD] at ho;subst ho;have e4:=hF.old 4 (.pointer (some ⟨w.heap.size,0,none⟩)) rfl rfl;exact qBf 61 (.tmp 4) rfl _ 61 _ _ e4 (HBq.out.ext (hJ.ext (Nat.le_trans (hlim 0 2 rfl rfl) (by decide)))) Tryz.underlying61 rfl (by exact qAz) hk
     | 1,ho =>
      simp only [gA,gB,gC,gD] at ho;subst ho;have e1:=hF.old 1 (.int .i64 I) rfl rfl;simp only [Act.eval] at e1;clear hF hlim hJ;go_simp;exact hk
     | 2,ho=>simp at hc
     | 3,ho =>
      simp only [gA,gB,gC,gD] at ho;subst ho;have e3:=hF.old 3 (.string s) rfl rfl;simp only [Act.eval] at e3;clear hF hlim hJ;go_simp;exact hk
     | 4,ho =>
      simp only [gA,gB,gC,gD] at ho;subst ho;have e11:=hF.old 11 (.pointer (some ⟨gs,0,none⟩)) rfl rfl;exact qBf 42 (.tmp 11) rfl _ 42 _ _ e11 (HSq.out.ext (hJ.ext (Nat.le_trans (hlim 1 5 rfl rfl) (by decide)))) Tryz.underlying42 rfl (by exact qDu) hk
     | 5,ho | 6,ho=>simp at hc
     | 7,ho =>
      simp only [gA,gB,gC,gD] at ho;subst ho;have e4:=hF.old 4 (.pointer (some ⟨w.heap.size,0,none⟩)) rfl rfl;exact qBf 61 (.tmp 4) rfl _ 61 _ _ e4 (HBq.out.ext (hJ.ext (Nat.le_trans (hlim 3 10 rfl rfl) (by decide)))) Tryz.underlying61 rfl (by exact qAz) hk
     | 8,ho =>
      simp only [gA,gB,gC,gD] at ho;subst ho;have e2:=hF.old 2 (.int .i64 I) rfl rfl;simp only [Act.eval] at e2;clear hF hlim hJ;go_simp;exact hk
     | 9,ho =>
      simp only [gA,gB,gC,gD] at ho;subst ho;have e9:=hF.old 9 (.int .i64 N) rfl rfl;simp only [Act.eval] at e9;clear hF hlim hJ;go_simp;exact hk
     | 10,ho | 11,ho | 12,ho=>simp at hc
     | i+13,ho=>simp at ho
   . intro p c' o hp ho a w' us K' hl hJ hF hk
     match p,hp with
     | 0,hp =>
      (obtain rfl:2=c':=by simpa using hp);simp only [gA,gB,gC,gD] at ho;subst ho;obtain rfl:us=[]:=List.eq_nil_of_length_eq_zero hl;have e47:=hF.pure 0 47 (.agg #[.slice A n c]) rfl rfl rfl rfl;have e48:=hF.pure 1 48 (.int .i64 I) rfl rfl rfl rfl;refine qIj rfl e47 rfl e48 Tryz.call53 (HSl.out w' (HXq.out.trans (RpJ.ext hJ (by simp)))) ?_;rintro en w5 ⟨A1,c1,o,rfl,ho,hok,hx5⟩;exact ⟨_,rfl,hk _ w5 (QJ.push hJ (qEq _ _ _ _) hx5 (fun p hp=>by cases hp;exact ⟨A1,c1,o,rfl,qBo ho (Nat.le_trans hszq (RpJ.ext hJ (by simp)).size),RQ.sl1 hok HV.out⟩))⟩
     | 1,hp =>
      (obtain rfl:5=c':=by simpa using hp);simp only [gA,gB,gC,gD] at ho;subst ho;obtain ⟨u0,rfl⟩:=qBv hl;have e50:=hF.pure 3 50 (.string s) rfl rfl rfl rfl;have e51:=hF.pure 4 51 (.agg #[.int .u8 cl,.bool it,.bool un]) rfl rfl rfl rfl;refine qDm rfl e50 e51 Tryz.call54 (HOfq.out w') ?_;rintro en w5 ⟨A1,c1,o,rfl,ho,hok,hx5⟩;exact ⟨_,rfl,hk _ w5 (QJ.push hJ (qEq _ _ _ _) hx5 (fun p hp=>by cases hp;exact ⟨A1,c1,o,rfl,qBo ho (Nat.le_trans hszq (RpJ.ext hJ (by simp)).size),RQ.one hok HVs.out⟩))⟩
     | 2,hp =>
      (obtain rfl:6=c':=by simpa using hp);simp only [gA,gB,gC,gD] at ho;subst ho;obtain ⟨u0,u1,rfl⟩:=qCm hl;obtain ⟨A1,c1,o1,rfl,ho1,q1⟩:=QJ.val hJ 0 u0 _ rfl rfl;obtain ⟨A2,c2,o2,rfl,ho2,q2⟩:=QJ.val hJ 1 u1 _ rfl rfl;have e49:=hF.link 0 2 49 _ rfl rfl rfl rfl;have e52:=hF.link 1 5 52 _ rfl rfl rfl rfl;refine qDm rfl e49 e52 Tryz.call52 (qGx A1 A2 o1.length o2.length c1 c2 o1 o2 w' (qEg ho1 rfl).1 (qEg ho2 rfl).1 (by have:=q1.len;have:=hnl.out;have:=HNs.out;omega) (by have:=q2.len;have:=hnl.out;have:=HNs.out;omega) (by rw [qBe];have:=q1.by';have:=q2.by';have:=HBy.out;have:=HSz.out;omega)) ?_;rintro en w5 ⟨A3,c3,o,rfl,ho,hok,hx5⟩;exact ⟨_,rfl,hk _ w5 (QJ.push hJ (qEq _ _ _ _) hx5 (fun p hp=>by cases hp;exact ⟨A3,c3,o,rfl,qBo ho (Nat.le_trans hszq (RpJ.ext hJ (by simp)).size),RQ.app q1 q2 hok⟩))⟩
     | 3,hp =>
      (obtain rfl:10=c':=by simpa using hp);simp only [gA,gB,gC,gD] at ho;subst ho;obtain ⟨u0,u1,u2,rfl⟩:=qCn hl;have e54:=hF.pure 7 54 (.agg #[.slice A n c]) rfl rfl rfl rfl;have e55:=hF.pure 8 55 (.int .i64 I) rfl rfl rfl rfl;have e56:=hF.pure 9 56 (.int .i64 N) rfl rfl rfl rfl;refine qIj rfl e54 e55 e56 Tryz.call53 (HSr.out w' (HXq.out.trans (RpJ.ext hJ (by simp)))) ?_;rintro en w5 ⟨A1,c1,o,rfl,ho,hok,hx5⟩;exact ⟨_,rfl,hk _ w5 (QJ.push hJ (qEq _ _ _ _) hx5 (fun p hp=>by cases hp;exact ⟨A1,c1,o,rfl,qBo ho (Nat.le_trans hszq (RpJ.ext hJ (by simp)).size),RQ.sl2 hok HV.out HNN.out⟩))⟩
     | 4,hp =>
      (obtain rfl:11=c':=by simpa using hp);simp only [gA,gB,gC,gD] at ho;subst ho;obtain ⟨u0,u1,u2,u3,rfl⟩:=qEm hl;obtain ⟨A1,c1,o1,rfl,ho1,q1⟩:=QJ.val hJ 2 u2 _ rfl rfl;obtain ⟨A2,c2,o2,rfl,ho2,q2⟩:=QJ.val hJ 3 u3 _ rfl rfl;have e53:=hF.link 2 6 53 _ rfl rfl rfl rfl;have e57:=hF.link 3 10 57 _ rfl rfl rfl rfl;refine qDm rfl e53 e57 Tryz.call52 (qGx A1 A2 o1.length o2.length c1 c2 o1 o2 w' (qEg ho1 rfl).1 (qEg ho2 rfl).1 (by have:=q1.len;have:=hnl.out;have:=HNs.out;omega) (by have:=q2.len;have:=hnl.out;have:=HNs.out;omega) (by rw [qBe];have:=q1.by';have:=q2.by';have:=HBy.out;have:=HSz.out;omega)) ?_;rintro en w5 ⟨A3,c3,o,rfl,ho,hok,hx5⟩;exact ⟨_,rfl,hk _ w5 (QJ.push hJ (qEq _ _ _ _) hx5 (fun p hp=>by cases hp;exact ⟨A3,c3,o,rfl,qBo ho (Nat.le_trans hszq (RpJ.ext hJ (by simp)).size),RQ.app q1 q2 hok⟩))⟩
     | 5,hp =>
      (obtain rfl:12=c':=by simpa using hp);simp only [gA,gB,gC,gD] at ho;subst ho;obtain ⟨u0,u1,u2,u3,u4,rfl⟩:=qHz hl;obtain ⟨A3,c3,o,rfl,ho,q3⟩:=QJ.val hJ 4 u4 _ rfl rfl;have e8:=hF.old 8 (.pointer (some ⟨w.heap.size+1,0,none⟩)) rfl rfl;have e58:=hF.link 4 11 58 _ rfl rfl rfl rfl;exact qCh 61 (.tmp 8) (.tmp 58) rfl (w.heap.size+1) 61 _ _ e8 e58 (by exact qAz) (by simp [Value.oneCell']) (HZq.out.ext (RpJ.ext hJ (by simp))) rfl (hk undef _ ⟨w',A3,c3,o,hJ,rfl,ho,q3,rfl⟩)
     | p+6,hp=>simp at hp
   intro us w9q hl hJ;obtain ⟨u0,u1,u2,u3,u4,u5,rfl⟩:=zAb hl
   first | (rename_i hK;refine hK _ _ ?_;clear hK) | (rename_i hK hK_1;refine hK _ _ ?_;clear hK) | (rename_i hK hK_1 hK_2;refine hK _ _ ?_;clear hK) | (rename_i hK hK_1 hK_2 hK_3;refine hK _ _ ?_;clear hK)
   generalize hL:qCd _ _ _ _=L;obtain rfl:L=[(47,.agg #[.slice A n c]),(48,.int .i64 I),(49,u0),(50,.string s),(51,.agg #[.int .u8 cl,.bool it,.bool un]),(52,u1),(53,u2),(54,.agg #[.slice A n c]),(55,.int .i64 I),(56,.int .i64 N),(57,u3),(58,u4)]:=hL.symm.trans (by kernel_rfl);clear hL hl;simp only [Act.put,List.foldl_cons,List.foldl_nil,List.setIfInBounds_toArray,List.set_cons_zero,List.set_cons_succ];obtain ⟨w9,A3,c3,o,hq,-,ho,q3,rfl⟩:=hJ;have hx9:=HXq.out.trans hq.ext;have hz9:=HZq.out.ext hq.ext;clear hq;go_wp2_with fail;refine bodyPost_ret (v:=.agg #[.slice A3 o.length c3]) ?_ rfl ⟨A3,c3,o,rfl,qBi ho hz9 (by decide),hx9.put (by omega) _ _,.inr ⟨(rch l).take I,(rch l).drop I,(List.take_append_drop _ _).symm,by rw [← List.append_assoc];exact ⟨q3.rv,q3.ch,by have:=q3.by';omega,by have:=q3.len;omega,q3.ruby⟩⟩⟩;exact qBz (P:=Tryz.prog) Tryz.results10 (g:=w.heap.size+1) rfl (by exact hz9.put _) Tryz.underlying61 rfl qAz
  | false =>
   go_wp2_with (refine qAa rfl 61 (.tmp 4) rfl w.heap.size 61 _ _ (by exact rfl) (by exact HB3.out) Tryz.underlying61 rfl (by exact qAz) ?_);refine (HAt.out _ _ HX3.out).mono ?_;rintro e w4 ⟨r1,clq,itq,unq,okq,rfl,hx4⟩;have HX4:=gH (HX3.out.trans hx4);have HB4:=gH (HB3.out.ext hx4);have HZ4:=gH (HZ3.out.ext hx4);have HS4:=gH (HS3.out.ext hx4);have hs3:w.heap.size<=w3.heap.size:=hs3z.out;clear hx4 HX3 HB3 HZ3 HS3 HAt;go_wp2_with (refine qAc rfl 42 (.tmp 11) _ rfl w3.heap.size 42 _ _ (by exact rfl) (by exact rfl) (by exact HS4.out) (by exact rfl) (by exact qDu) (by simp [Value.oneCell']) ?_);have HOfq:=gH (HOf.out clq itq unq);have HXp:=gH (HX4.out.put hs3 42 #[.int .u8 clq,.bool itq,.bool unq]);have HBp:=gH (HB4.out.put_other (g':=w3.heap.size) (t':=42) (fun e=>qBc.ne HS4.out.typed HB4.out.typed (by decide) e) #[.int .u8 clq,.bool itq,.bool unq]);have HZp:=gH (HZ4.out.put_other (g':=w3.heap.size) (t':=42) (fun e=>qBc.ne HS4.out.typed HZ4.out.typed (by decide) e) #[.int .u8 clq,.bool itq,.bool unq]);have HSp:=gH (HS4.out.put #[.int .u8 clq,.bool itq,.bool unq]);obtain ⟨Wq,hWq⟩:∃ W,W=putB w4 w3.heap.size 42 #[.int .u8 clq,.bool itq,.bool unq]:=⟨_,rfl⟩;rw [← hWq] at HXp HBp HZp HSp ⊢;clear hWq HX4 HB4 HZ4 HS4 hs3;obtain ⟨gs,hgs⟩:∃ g,g=w3.heap.size:=⟨_,rfl⟩;rw [← hgs] at HSp ⊢;clear hgs;have HXq:=HXp;have HBq:=HBp;have HZq:=HZp;have HSq:=HSp;have hszq:w.heap.size<=Wq.heap.size:=HXq.out.size
   refine qAr [some 47,some 48,some 49,some 50,some 51,some 52,some 53,some 54,some 55,some 56,some 57,some 58,none] [[],[],[0,1],[],[],[3,4,2],[2,5,5],[],[],[],[7,8,9,6],[6,10,10],[11,11,0,1,2,3,4,5,6,7,8,9,10,11]] [2,5,6,10,11,12] [.agg #[.slice A n c],.int .i64 I,undef,.string s,.agg #[.int .u8 clq,.bool itq,.bool unq],undef,undef,.agg #[.slice A n c],.int .i64 I,.int .i64 N,undef,undef,undef] (RpJ l s I w.heap.size (w.heap.size+1) Wq) (by kernel_rfl) (by kernel_rfl) (by kernel_rfl) (by kernel_rfl) (by kernel_rfl) (by kernel_rfl) (by kernel_rfl) (by decide) ?_ ?_ ?_ ?_
   . exact QJ.start _ Wq
   . intro i o ho hc a w' us K' hJ hF hlim hk
     match i,ho with
     | 0,ho =>
      simp only [gA,gB,gC,gD] at ho;subst ho;have e4:=hF.old 4 (.pointer (some ⟨w.heap.size,0,none⟩)) rfl rfl;exact qBf 61 (.tmp 4) rfl _ 61 _ _ e4 (HBq.out.ext (hJ.ext (Nat.le_trans (hlim 0 2 rfl rfl) (by decide)))) Tryz.underlying61 rfl (by exact qAz) hk
     | 1,ho =>
      simp only [gA,gB,gC,gD] at ho;subst ho;have e1:=hF.old 1 (.int .i64 I) rfl rfl;simp only [Act.eval] at e1;clear hF hlim hJ;go_simp;exact hk
     | 2,ho=>simp at hc
     | 3,ho =>
      simp only [gA,gB,gC,gD] at ho;subst ho;have e3:=hF.old 3 (.string s) rfl rfl;simp only [Act.eval] at e3;clear hF hlim hJ;go_simp;exact hk
     | 4,ho =>
      simp only [gA,gB,gC,gD] at ho;subst ho;have e11:=hF.old 11 (.pointer (some ⟨gs,0,none⟩)) rfl rfl;exact qBf 42 (.tmp 11) rfl _ 42 _ _ e11 (HSq.out.ext (hJ.ext (Nat.le_trans (hlim 1 5 rfl rfl) (by decide)))) Tryz.underlying42 rfl (by exact qDu) hk
     | 5,ho | 6,ho=>simp at hc
     | 7,ho =>
      simp only [gA,gB,gC,gD] at ho;subst ho;have e4:=hF.old 4 (.pointer (some ⟨w.heap.size,0,none⟩)) rfl rfl;exact qBf 61 (.tmp 4) rfl _ 61 _ _ e4 (HBq.out.ext (hJ.ext (Nat.le_trans (hlim 3 10 rfl rfl) (by decide)))) Tryz.underlying61 rfl (by exact qAz) hk
     | 8,ho =>
      simp only [gA,gB,gC,gD] at ho;subst ho;have e2:=hF.old 2 (.int .i64 I) rfl rfl;simp only [Act.eval] at e2;clear hF hlim hJ;go_simp;exact hk
     | 9,ho =>
      simp only [gA,gB,gC,gD] at ho;subst ho;have e9:=hF.old 9 (.int .i64 N) rfl rfl;simp only [Act.eval] at e9;clear hF hlim hJ;go_simp;exact hk
     | 10,ho | 11,ho | 12,ho=>simp at hc
     | i+13,ho=>simp at ho
   . intro p c' o hp ho a w' us K' hl hJ hF hk
     match p,hp with
     | 0,hp =>
      (obtain rfl:2=c':=by simpa using hp);simp only [gA,gB,gC,gD] at ho;subst ho;obtain rfl:us=[]:=List.eq_nil_of_length_eq_zero hl;have e47:=hF.pure 0 47 (.agg #[.slice A n c]) rfl rfl rfl rfl;have e48:=hF.pure 1 48 (.int .i64 I) rfl rfl rfl rfl;refine qIj rfl e47 rfl e48 Tryz.call53 (HSl.out w' (HXq.out.trans (RpJ.ext hJ (by simp)))) ?_;rintro en w5 ⟨A1,c1,o,rfl,ho,hok,hx5⟩;exact ⟨_,rfl,hk _ w5 (QJ.push hJ (qEq _ _ _ _) hx5 (fun p hp=>by cases hp;exact ⟨A1,c1,o,rfl,qBo ho (Nat.le_trans hszq (RpJ.ext hJ (by simp)).size),RQ.sl1 hok HV.out⟩))⟩
     | 1,hp =>
      (obtain rfl:5=c':=by simpa using hp);simp only [gA,gB,gC,gD] at ho;subst ho;obtain ⟨u0,rfl⟩:=qBv hl;have e50:=hF.pure 3 50 (.string s) rfl rfl rfl rfl;have e51:=hF.pure 4 51 (.agg #[.int .u8 clq,.bool itq,.bool unq]) rfl rfl rfl rfl;refine qDm rfl e50 e51 Tryz.call54 (HOfq.out w') ?_;rintro en w5 ⟨A1,c1,o,rfl,ho,hok,hx5⟩;exact ⟨_,rfl,hk _ w5 (QJ.push hJ (qEq _ _ _ _) hx5 (fun p hp=>by cases hp;exact ⟨A1,c1,o,rfl,qBo ho (Nat.le_trans hszq (RpJ.ext hJ (by simp)).size),RQ.one hok HVs.out⟩))⟩
     | 2,hp =>
      (obtain rfl:6=c':=by simpa using hp);simp only [gA,gB,gC,gD] at ho;subst ho;obtain ⟨u0,u1,rfl⟩:=qCm hl;obtain ⟨A1,c1,o1,rfl,ho1,q1⟩:=QJ.val hJ 0 u0 _ rfl rfl;obtain ⟨A2,c2,o2,rfl,ho2,q2⟩:=QJ.val hJ 1 u1 _ rfl rfl;have e49:=hF.link 0 2 49 _ rfl rfl rfl rfl;have e52:=hF.link 1 5 52 _ rfl rfl rfl rfl;refine qDm rfl e49 e52 Tryz.call52 (qGx A1 A2 o1.length o2.length c1 c2 o1 o2 w' (qEg ho1 rfl).1 (qEg ho2 rfl).1 (by have:=q1.len;have:=hnl.out;have:=HNs.out;omega) (by have:=q2.len;have:=hnl.out;have:=HNs.out;omega) (by rw [qBe];have:=q1.by';have:=q2.by';have:=HBy.out;have:=HSz.out;omega)) ?_;rintro en w5 ⟨A3,c3,o,rfl,ho,hok,hx5⟩;exact ⟨_,rfl,hk _ w5 (QJ.push hJ (qEq _ _ _ _) hx5 (fun p hp=>by cases hp;exact ⟨A3,c3,o,rfl,qBo ho (Nat.le_trans hszq (RpJ.ext hJ (by simp)).size),RQ.app q1 q2 hok⟩))⟩
     | 3,hp =>
      (obtain rfl:10=c':=by simpa using hp);simp only [gA,gB,gC,gD] at ho;subst ho;obtain ⟨u0,u1,u2,rfl⟩:=qCn hl;have e54:=hF.pure 7 54 (.agg #[.slice A n c]) rfl rfl rfl rfl;have e55:=hF.pure 8 55 (.int .i64 I) rfl rfl rfl rfl;have e56:=hF.pure 9 56 (.int .i64 N) rfl rfl rfl rfl;refine qIj rfl e54 e55 e56 Tryz.call53 (HSr.out w' (HXq.out.trans (RpJ.ext hJ (by simp)))) ?_;rintro en w5 ⟨A1,c1,o,rfl,ho,hok,hx5⟩;exact ⟨_,rfl,hk _ w5 (QJ.push hJ (qEq _ _ _ _) hx5 (fun p hp=>by cases hp;exact ⟨A1,c1,o,rfl,qBo ho (Nat.le_trans hszq (RpJ.ext hJ (by simp)).size),RQ.sl2 hok HV.out HNN.out⟩))⟩
     | 4,hp =>
      (obtain rfl:11=c':=by simpa using hp);simp only [gA,gB,gC,gD] at ho;subst ho;obtain ⟨u0,u1,u2,u3,rfl⟩:=qEm hl;obtain ⟨A1,c1,o1,rfl,ho1,q1⟩:=QJ.val hJ 2 u2 _ rfl rfl;obtain ⟨A2,c2,o2,rfl,ho2,q2⟩:=QJ.val hJ 3 u3 _ rfl rfl;have e53:=hF.link 2 6 53 _ rfl rfl rfl rfl;have e57:=hF.link 3 10 57 _ rfl rfl rfl rfl;refine qDm rfl e53 e57 Tryz.call52 (qGx A1 A2 o1.length o2.length c1 c2 o1 o2 w' (qEg ho1 rfl).1 (qEg ho2 rfl).1 (by have:=q1.len;have:=hnl.out;have:=HNs.out;omega) (by have:=q2.len;have:=hnl.out;have:=HNs.out;omega) (by rw [qBe];have:=q1.by';have:=q2.by';have:=HBy.out;have:=HSz.out;omega)) ?_;rintro en w5 ⟨A3,c3,o,rfl,ho,hok,hx5⟩;exact ⟨_,rfl,hk _ w5 (QJ.push hJ (qEq _ _ _ _) hx5 (fun p hp=>by cases hp;exact ⟨A3,c3,o,rfl,qBo ho (Nat.le_trans hszq (RpJ.ext hJ (by simp)).size),RQ.app q1 q2 hok⟩))⟩
     | 5,hp =>
      (obtain rfl:12=c':=by simpa using hp);simp only [gA,gB,gC,gD] at ho;subst ho;obtain ⟨u0,u1,u2,u3,u4,rfl⟩:=qHz hl;obtain ⟨A3,c3,o,rfl,ho,q3⟩:=QJ.val hJ 4 u4 _ rfl rfl;have e8:=hF.old 8 (.pointer (some ⟨w.heap.size+1,0,none⟩)) rfl rfl;have e58:=hF.link 4 11 58 _ rfl rfl rfl rfl;exact qCh 61 (.tmp 8) (.tmp 58) rfl (w.heap.size+1) 61 _ _ e8 e58 (by exact qAz) (by simp [Value.oneCell']) (HZq.out.ext (RpJ.ext hJ (by simp))) rfl (hk undef _ ⟨w',A3,c3,o,hJ,rfl,ho,q3,rfl⟩)
     | p+6,hp=>simp at hp
   intro us w9q hl hJ;obtain ⟨u0,u1,u2,u3,u4,u5,rfl⟩:=zAb hl
   first | (rename_i hK;refine hK _ _ ?_;clear hK) | (rename_i hK hK_1;refine hK _ _ ?_;clear hK) | (rename_i hK hK_1 hK_2;refine hK _ _ ?_;clear hK) | (rename_i hK hK_1 hK_2 hK_3;refine hK _ _ ?_;clear hK)
   generalize hL:qCd _ _ _ _=L;obtain rfl:L=[(47,.agg #[.slice A n c]),(48,.int .i64 I),(49,u0),(50,.string s),(51,.agg #[.int .u8 clq,.bool itq,.bool unq]),(52,u1),(53,u2),(54,.agg #[.slice A n c]),(55,.int .i64 I),(56,.int .i64 N),(57,u3),(58,u4)]:=hL.symm.trans (by kernel_rfl);clear hL hl;simp only [Act.put,List.foldl_cons,List.foldl_nil,List.setIfInBounds_toArray,List.set_cons_zero,List.set_cons_succ];obtain ⟨w9,A3,c3,o,hq,-,ho,q3,rfl⟩:=hJ;have hx9:=HXq.out.trans hq.ext;have hz9:=HZq.out.ext hq.ext;clear hq;go_wp2_with fail;refine bodyPost_ret (v:=.agg #[.slice A3 o.length c3]) ?_ rfl ⟨A3,c3,o,rfl,qBi ho hz9 (by decide),hx9.put (by omega) _ _,.inr ⟨(rch l).take I,(rch l).drop I,(List.take_append_drop _ _).symm,by rw [← List.append_assoc];exact ⟨q3.rv,q3.ch,by have:=q3.by';omega,by have:=q3.len;omega,q3.ruby⟩⟩⟩;exact qBz (P:=Tryz.prog) Tryz.results10 (g:=w.heap.size+1) rfl (by exact hz9.put _) Tryz.underlying61 rfl qAz
theorem qZu (hs:List Hd):(hs.flatMap fun h=>[Hd.val h])=hs.map Hd.val:=by
 induction hs with
 | nil=>rfl
 | cons h hs ih=>rw [List.flatMap_cons,ih];rfl
theorem zLk {w:World} {L L' g n c k:Nat} {l:List Row} (h:qDg w L (some ⟨g,0,none⟩) n c l) (hk:k<n) {A':Option Addr} {c':Nat} {o:Row}
 (ho:w.ownsRow L' 102 5 (.slice A' o.length c') o.length (o.flatMap Run.cells)) (hb:o.length*40<=140737488355328) :
 qCb (w.setCell ⟨g,k,none⟩ (.slice A' o.length c')) (some ⟨g,0,none⟩) n (l.set k o)/\w.grownBy (w.setCell ⟨g,k,none⟩ (.slice A' o.length c')) (some g)/\qBc w 61 g/\L<=g:=by
 obtain ⟨hs,h1,h2,h3,h4,h5⟩:=h;obtain ⟨s1,s2⟩:=h1.stored k (.slice A' o.length c');have hT:qBc w 61 g:=qAt h1 _ rfl;have hL:L<=g:=qBg h1 _ rfl
 have e1:(hs.flatMap fun h=>[Hd.val h]).set k (.slice A' o.length c')=(hs.set k (A',o.length,c')).flatMap fun h=>[Hd.val h]:=by
  rw [qZu,qZu,List.map_set];rfl
 rw [e1] at s1;obtain ⟨B,d,hv,_,_,hsl,_⟩:=qBn (f:=fun h:Hd=>[Hd.val h]) (size:=1) (fun _=>rfl) (by rw [List.length_set];exact h2) s1
 cases hv
 refine ⟨qHg hsl (by rw [List.length_set];exact h4) fun i hd r ha hb'=>?_,s2,hT,hL⟩
 by_cases hik:k=i
 . subst hik
   rw [List.getElem?_set_self (by omega)] at ha hb'
   cases ha
   cases hb'
   obtain ⟨hr,hcc⟩:=qEg ho rfl;refine ⟨hcc,hb,Sl.keep hr fun hn b off hA' o' x hx=>hx.set (fun e=>?_) _⟩;have ht:=qAt ho b (by have hA2:A'=some ⟨b,off,none⟩:=hA';rw [hA2];rfl);exact qBc.ne ht hT (by decide) e
 . rw [List.getElem?_set_ne hik] at ha hb'
   refine (h3 i hd r ha hb').set (fun h0 ad had e=>?_) _;exact qBc.ne (h5 hd (List.mem_of_getElem? ha) ad had).2 hT (by decide) e
def edC (op id fr til:Int) (nm tx:ByteArray) (v:Value):Array Value:=#[.int .u8 op,.int .i64 id,.int .i64 0,.int .i64 0,.int .i64 0,.int .i64 0,.int .i64 0,.int .i64 fr,.int .i64 til,.int .u8 0,.int .u8 0,.bool false,.bool false,.string nm,.string tx,
 .string ⟨#[]⟩,.int .i64 0,.int .i64 0,.int .i64 0,.int .i64 0,.int .u8 0,.bool false,v]
theorem qFe {w:World} {b:Nat} {cs0:Array Value} (h:∀ o,w.cell? ⟨b,o,none⟩=cs0[o]?) (off:Nat) (cs:List Value) (hs:∃ post,cs0.toList.drop off=cs++post):w.rangeAt b off cs:=fun j v hv=>by
 obtain ⟨post,hp⟩:=hs;rw [h];(have e:cs0[off+j]?=(cs0.toList.drop off)[j]?:=by rw [List.getElem?_drop];simp);rw [e,hp,List.getElem?_append_left (List.getElem?_eq_some_iff.1 hv).1];exact hv
def inB (n lo hi:Int):Bool:=decide (lo<=n) && decide (n<=hi)
theorem qAn (n lo hi:Int) (w:World):Calls Tryz.prog 187 #[.int .i64 n,.int .i64 lo,.int .i64 hi] w fun e w'=>e = .returned (.bool (inB n lo hi))/\w=w':=by
 unfold inB
 by_cases h:lo<=n
 . have d1:decide (lo<=n)=true:=decide_eq_true h
   go_enter Tryz.func187,Tryz.ntmps187;go_wp2_with fail;go_ret;exact ⟨by simp [h],rfl⟩
 . have d1:decide (lo<=n)=false:=decide_eq_false h
   go_enter Tryz.func187,Tryz.ntmps187;go_wp2_with fail;go_ret;exact ⟨by simp [h],rfl⟩
theorem qRa (b:Bool) (n:Int) (w:World):Calls Tryz.prog 188 #[.bool b,.int .i64 n] w fun e w'=>e = .returned (.int .i64 (if b then 0 else n))/\w=w':=by
 cases b
 . go_enter Tryz.func188,Tryz.ntmps188
   go_wp2_with fail;go_ret;exact ⟨rfl,rfl⟩
 . go_enter Tryz.func188,Tryz.ntmps188
   go_wp2_with fail;go_ret;exact ⟨rfl,rfl⟩
theorem qAv {P:Program} {o:Oper} {a:Act} {w:World} {K:Act->World->Prop} {Q:Exit->Act->World->Prop} {f:FuncId} {x0 x1 x2:Operand} {ts:Array TypeId} {v0 v1 v2 v:Value} (ho:o.op = .call { callee:=.value (.func f),args:=#[x0,x1,x2],argTypes:=ts })
 (h0:a.eval x0=v0) (h1:a.eval x1=v1) (h2:a.eval x2=v2) (hcall:∀ args w,(callFunc f args).run P w = .ok (.enter f args) w) (hc:Calls P f #[v0,v1,v2] w fun e w'=>e = .returned v/\w=w') (h:K (a.put o.dst v) w):o.wp P a w K Q:=by
 have h9:Calls P f #[v0,v1,v2] w (fun
  | .returned u,w''=>K (a.put o.dst u) w''
  | .panicked chain,w''=>Q (.panic chain) a w''
  | .outgrown,_=>LetsOut Q):=hc.mono fun en w' hr=>by
  obtain ⟨rfl,rfl⟩:=hr;exact h
 unfold Oper.wp execOp;simp only [ho];have hev:a.eval (.func f) = .func (.func f) #[] #[]:=rfl;simp [resolve,invoke,hev,h0,h1,h2,hcall,Sem.run_bind,Deferred.ofValue];exact h9
def valG (av:Nat->Nat->Value) (chain al:List Nat) (pv us:List Value) (gs:Nat->Option Nat) (j:Nat):Value :=
 match chain.idxOf? j with
 | some i=>us.getD i undef
 | none=>if al.contains j then ((gs j).map (av j)).getD undef else pv.getD j undef
def zPo (av:Nat->Nat->Value) (ops:Array Oper) (chain al:List Nat) (pv:List Value) (a0:Act) (J:List Value->(Nat->Option Nat)->World->Prop) (l:Array Bool) (a:Act) (w:World):Prop :=
 l.size=ops.size/\a.defers=a0.defers/\a.tmps.size=a0.tmps.size/\(∀ s,(∀ j,dstO ops j=some s->l.getD j false=false)->a.tmps[s]?=a0.tmps[s]?) /\
 (∀ j o,l.getD j false=true->ops[j]?=some o->∀ d∈o.after,Region.binds .any d=true->l.getD d.on false=true) /\
 ∃ (us:List Value) (gs:Nat->Option Nat),us.length<=chain.length/\(∀ i c,chain[i]?=some c->(l.getD c false=true↔i<us.length))/\(∀ j,al.contains j=true->(l.getD j false=true↔(gs j).isSome=true)) /\
  (∀ j s,l.getD j false=true->dstO ops j=some s->a.tmps[s]?=some (valG av chain al pv us gs j))/\J us gs w
structure zBg (av:Nat->Nat->Value) (slots:List (Option Nat)) (deps:List (List Nat)) (chain al:List Nat) (pv us:List Value) (gs:Nat->Option Nat) (a0 a:Act) (i:Nat):Prop where
 old:∀ (s:Nat) (v:Value),slots.contains (some s)=false->a0.eval (.tmp s)=v->a.eval (.tmp s)=v
 pure:∀ (j s:Nat) (v:Value),(deps.getD i []).contains j=true->slots[j]?=some (some s)->chain.contains j=false->al.contains j=false->pv[j]?=some v->a.eval (.tmp s)=v
 link:∀ (p j s:Nat) (v:Value),chain[p]?=some j->(deps.getD i []).contains j=true->slots[j]?=some (some s)->us[p]?=some v->a.eval (.tmp s)=v
 ptr:∀ (j s:Nat),(deps.getD i []).contains j=true->slots[j]?=some (some s)->chain.contains j=false->al.contains j=true->∃ g,gs j=some g/\a.eval (.tmp s)=av j g
 made:∀ (j:Nat),(deps.getD i []).contains j=true->al.contains j=true->(gs j).isSome=true
 did:∀ (p j:Nat),chain[p]?=some j->(deps.getD i []).contains j=true->p<us.length
 olds:∀ (p j s:Nat) (v:Value),chain[p]?=some j->slots[j]?=some (some s)->us.length<=p->a0.eval (.tmp s)=v->a.eval (.tmp s)=v
def qVk (av:Nat->Nat->Value) (ops:Array Oper) (chain al:List Nat) (pv us:List Value) (gs:Nat->Option Nat):List (Nat × Value):=(List.range ops.size).filterMap fun j=>(dstO ops j).map fun s=>(s,valG av chain al pv us gs j)
def zNg (av:Nat->Nat->Value) (slots:List (Option Nat)) (chain al:List Nat) (pv us:List Value) (gs:Nat->Option Nat) (a:Act):List Nat->Prop
 | []=>True
 | j :: r=>(match slots.getD j none with
  | none=>True
  | some s=>match chain.idxOf? j with
   | some p=>match us[p]? with
    | some v=>a.eval (.tmp s)=v
    | none=>True
   | none=>if al.contains j then ∃ g,gs j=some g/\a.eval (.tmp s)=av j g else match pv[j]? with
    | some v=>a.eval (.tmp s)=v
    | none=>True)/\zNg av slots chain al pv us gs a r
theorem zBg.all {av:Nat->Nat->Value} {slots:List (Option Nat)} {deps:List (List Nat)} {chain al:List Nat} {pv us:List Value} {gs:Nat->Option Nat} {a0 a:Act} {i:Nat} (h:zBg av slots deps chain al pv us gs a0 a i):zNg av slots chain al pv us gs a (deps.getD i []):=by
 have key:∀ l:List Nat,(∀ j∈l,(deps.getD i []).contains j=true)->zNg av slots chain al pv us gs a l:=by
  intro l
  induction l with
  | nil=>intro _;trivial
  | cons j l ih =>
   intro hl;refine ⟨?_,ih fun k hk=>hl k (List.mem_cons_of_mem _ hk)⟩;have hj:=hl j (List.mem_cons_self ..)
   cases hs:slots.getD j none with
   | none=>trivial
   | some s =>
    have hs':slots[j]?=some (some s):=by
     rw [List.getD_eq_getElem?_getD] at hs
     cases hx:slots[j]? with
     | none=>rw [hx] at hs;simp at hs
     | some y=>rw [hx] at hs;simp at hs;rw [hs]
    dsimp only
    cases hc:chain.idxOf? j with
    | some p =>
     dsimp only
     have hp:chain[p]?=some j:=by
      obtain ⟨h1,h2,_⟩:=List.idxOf?_eq_some_iff.1 hc;rw [List.getElem?_eq_getElem h1,h2]
     cases hu:us[p]? with
     | none=>trivial
     | some v=>exact h.link p j s v hp hj hs' hu
    | none =>
     dsimp only;(have hcc:chain.contains j=false:=by simpa using List.idxOf?_eq_none_iff.1 hc)
     cases ha:al.contains j with
     | true=>rw [if_pos rfl];exact h.ptr j s hj hs' hcc ha
     | false =>
      rw [if_neg (by simp)]
      cases hv:pv[j]? with
      | none=>trivial
      | some v=>exact h.pure j s v hj hs' hcc ha hv
 exact key _ fun j hj=>by simpa using hj
def qHr (φ:Nat->Oper->Prop):Nat->List Oper->Prop
 | _,[]=>True
 | i,o :: l=>φ i o/\qHr φ (i+1) l
theorem qHr.at_ {φ:Nat->Oper->Prop}:∀ {l:List Oper} {k i:Nat} {o:Oper},qHr φ k l->l[i]?=some o->φ (k+i) o
 | [],_,_,_,_,h=>by simp at h
 | x :: l,k,0,o,h,ho=>by simp at ho;subst ho;exact h.1
 | x :: l,k,i+1,o,h,ho=>by
  have:=qHr.at_ (i:=i) h.2 (by simpa using ho)
  rwa [show k+1+i=k+(i+1) by omega] at this
def GoIf (P:Program) (ops:Array Oper) (o:Oper) (a:Act) (w:World) (K:Act->World->Prop) (Q:Exit->Act->World->Prop):Prop :=
 if Region.wanted o (yielded ops a.tmps)=true then Oper.wp P o a w K Q else K (a.put o.dst undef) w
def zMx (P:Program) (ops:Array Oper) (Q:Exit->Act->World->Prop) (av:Nat->Nat->Value) (slots:List (Option Nat)) (deps:List (List Nat)) (chain al:List Nat) (pv:List Value) (J:List Value->(Nat->Option Nat)->World->Prop) (a0:Act) (i:Nat) (o:Oper):Prop :=
 ∀ (a:Act) (w:World) (us:List Value) (gs:Nat->Option Nat) (K:Act->World->Prop),J us gs w->zBg av slots deps chain al pv us gs a0 a i->(∀ p c,chain[p]?=some c->qOk deps 9 c i=true->us.length<=p)->K (a.put o.dst (pv.getD i undef)) w->GoIf P ops o a w K Q
def zPv (P:Program) (ops:Array Oper) (Q:Exit->Act->World->Prop) (av:Nat->Nat->Value) (slots:List (Option Nat)) (deps:List (List Nat)) (chain al:List Nat) (pv:List Value) (J:List Value->(Nat->Option Nat)->World->Prop) (a0:Act) (p i:Nat) (o:Oper):Prop :=
 ∀ (a:Act) (w:World) (us:List Value) (gs:Nat->Option Nat) (K:Act->World->Prop),us.length=p->J us gs w->zBg av slots deps chain al pv us gs a0 a i->(∀ v w',J (us++[v]) gs w'->K (a.put o.dst v) w')->GoIf P ops o a w K Q
def zEc (P:Program) (ops:Array Oper) (Q:Exit->Act->World->Prop) (av:Nat->Nat->Value) (slots:List (Option Nat)) (deps:List (List Nat)) (chain al:List Nat) (pv:List Value) (obj:Nat->Obj) (a0:Act) (i:Nat) (o:Oper):Prop :=
 ∀ (a:Act) (w:World) (us:List Value) (gs:Nat->Option Nat) (K:Act->World->Prop),zBg av slots deps chain al pv us gs a0 a i->K (a.put o.dst (av i w.heap.size)) (w.alloc (obj i))->GoIf P ops o a w K Q
def qDx (P:Program) (ops:Array Oper) (Q:Exit->Act->World->Prop) (av:Nat->Nat->Value) (slots:List (Option Nat)) (deps:List (List Nat)) (chain al:List Nat) (pv:List Value) (obj:Nat->Obj) (J:List Value->(Nat->Option Nat)->World->Prop) (a0:Act) (i:Nat) (o:Oper):Prop :=
 match chain.idxOf? i with
 | some p=>zPv P ops Q av slots deps chain al pv J a0 p i o
 | none=>if al.contains i then zEc P ops Q av slots deps chain al pv obj a0 i o else zMx P ops Q av slots deps chain al pv J a0 i o
section
variable {P:Program} {ops:Array Oper} {Q:Exit->Act->World->Prop} {av:Nat->Nat->Value} {slots:List (Option Nat)} {deps:List (List Nat)} {chain al:List Nat} {pv:List Value} {obj:Nat->Obj} {J:List Value->(Nat->Option Nat)->World->Prop} {a0:Act} {i p:Nat} {o:Oper} {l:List Oper}
theorem qDx.pure (hc:chain.idxOf? i=none) (ha:al.contains i=false) (h:zMx P ops Q av slots deps chain al pv J a0 i o) (r:qHr (qDx P ops Q av slots deps chain al pv obj J a0) (i+1) l):qHr (qDx P ops Q av slots deps chain al pv obj J a0) i (o :: l):=by
 refine ⟨?_,r⟩;unfold qDx;rw [hc,ha];exact h
theorem qDx.alloc (hc:chain.idxOf? i=none) (ha:al.contains i=true) (h:zEc P ops Q av slots deps chain al pv obj a0 i o) (r:qHr (qDx P ops Q av slots deps chain al pv obj J a0) (i+1) l):qHr (qDx P ops Q av slots deps chain al pv obj J a0) i (o :: l):=by
 refine ⟨?_,r⟩;unfold qDx;rw [hc,ha];exact h
theorem zIq {a:Act} {s:Nat} {b:Bool} (h:a.eval (.tmp s) = .bool b):a.tmps[s]?=some (.bool b):=by
 simp only [Act.eval,Array.getD_eq_getD_getElem?] at h
 cases hx:a.tmps[s]? with
 | none=>rw [hx] at h;cases h
 | some v=>rw [hx] at h;simp at h;rw [h]
theorem qEb {a:Act} {w:World} {K:Act->World->Prop} (hg:o.guard=none) (h:Oper.wp P o a w K Q):GoIf P ops o a w K Q:=qAm hg h
theorem qHl {a:Act} {w:World} {K:Act->World->Prop} {k s:Nat} {b:Bool} (hg:o.guard=some (k,b)) (hk:(ops[k]?).bind (·.dst)=some s) (hv:a.eval (.tmp s) = .bool b) (h:Oper.wp P o a w K Q):GoIf P ops o a w K Q:=qAk hg hk (zIq hv) (by cases b<;>rfl) h
theorem qMi {a:Act} {w:World} {K:Act->World->Prop} {k s:Nat} {b:Bool} (hg:o.guard=some (k,b)) (hk:(ops[k]?).bind (·.dst)=some s) (hv:a.eval (.tmp s) = .bool (!b)) (h:K (a.put o.dst undef) w):GoIf P ops o a w K Q:=qTo hg hk (zIq hv) (by cases b<;>rfl) h
end
theorem qTt {P:Program} {ops:Array Oper} {Q:Exit->Act->World->Prop} {id:Nat} {a0:Act} {W:World} (slots:List (Option Nat)) (deps:List (List Nat)) (chain al:List Nat) (pv:List Value) (av:Nat->Nat->Value) (obj:Nat->Obj) (J:List Value->(Nat->Option Nat)->World->Prop) (hm:P.follows .mixedOrders=true) (hdst:qGi ops a0.tmps.size=true) (hord:ordB 0 ops.toList=true)
 (hs:ops.toList.map (·.dst)=slots) (hd:ops.toList.map qFm=deps) (hch:qEl ops chain=true) (hnd:chain.Nodup) (hal:(al.all fun j=>decide (j<ops.size) && !chain.contains j)=true) (h0:J [] (fun _=>none) W.drew)
 (hJal:∀ (i:Nat),al.contains i=true->∀ us gs w,J us gs w->gs i=none->(∀ p c,chain[p]?=some c->(deps.getD c []).contains i=true->us.length<=p)->J us (upd gs i w.heap.size) (w.alloc (obj i)))
 (hst:qHr (qDx P ops Q av slots deps chain al pv obj J a0) 0 ops.toList)
 (hQ:∀ us gs w,us.length=chain.length->(∀ j,al.contains j=true->(gs j).isSome=true)->J us gs w->Q .normal { a0 with tmps:=(qVk av ops chain al pv us gs).foldl (fun t p=>t.setIfInBounds p.1 p.2) a0.tmps } w) :
 (Code.region id ops true).wp P Q a0 W:=by
 have hstep:∀ (i:Nat) (o:Oper),ops[i]?=some o->qDx P ops Q av slots deps chain al pv obj J a0 i o:=fun i o ho=>by
  have:=hst.at_ (i:=i) (by simpa using ho)
  rwa [Nat.zero_add] at this
 have halloc:∀ (i:Nat) (o:Oper),ops[i]?=some o->chain.contains i=false->al.contains i=true->zEc P ops Q av slots deps chain al pv obj a0 i o:=fun i o ho hc ha=>by
  have:=hstep i o ho;unfold qDx at this;rw [qBx (by simpa using hc),ha] at this;exact this
 have hpure:∀ (i:Nat) (o:Oper),ops[i]?=some o->chain.contains i=false->al.contains i=false->zMx P ops Q av slots deps chain al pv J a0 i o:=fun i o ho hc ha=>by
  have:=hstep i o ho;unfold qDx at this;rw [qBx (by simpa using hc),ha] at this;exact this
 have hlink:∀ (p c:Nat) (o:Oper),chain[p]?=some c->ops[c]?=some o->zPv P ops Q av slots deps chain al pv J a0 p c o:=fun p c o hp ho=>by
  have:=hstep c o ho;unfold qDx at this;rw [qBk hnd hp] at this;exact this
 have hdep:∀ (i:Nat) (o:Oper),ops[i]?=some o->deps.getD i []=qFm o:=fun i o ho=>by
  rw [← hd,List.getD_eq_getElem?_getD,List.getElem?_map];(have:ops.toList[i]?=some o:=by simpa using ho);(rw [this];rfl)
 have hsl:∀ j s,slots[j]?=some (some s)->dstO ops j=some s:=fun j s h=>by
  rw [← hs,List.getElem?_map,Option.map_eq_some_iff] at h;obtain ⟨o',h1,h2⟩:=h;(have h1':ops[j]?=some o':=by simpa using h1);simp [dstO,h1',h2]
 have hallt:∀ j,al.contains j=true->j<ops.size/\chain.contains j=false:=fun j hj=>by
  have:=List.all_eq_true.1 hal j (by simpa using hj);simpa using this
 refine wp_region_any hm ?_;refine qGv (zPo av ops chain al pv a0 J) (fun l a w h=>h.1) ?_ (zGk hord) ?_ _ _ _ _ (by simp) ?_
 . intro l a w hI i o ho hl hall K hK
   obtain ⟨hsz0,hdf,hsz,hnot,hcl,us,gs,hul,hcu,hga,hval,hJ⟩:=hI;have hi:i<ops.size:=(Array.getElem?_eq_some_iff.1 ho).1;have hnl:=qIs hl;have hself:(l.setIfInBounds i true).getD i false=true:=qFc (by omega)
   have hdone:∀ j,(deps.getD i []).contains j=true->l.getD j false=true:=fun j hj=>by
    rw [hdep i o ho] at hj;obtain ⟨d,hd1,hd2,hd3⟩:=qDy (qDk hj);rw [← hd3];exact hall d hd1 hd2
   have hfind:zBg av slots deps chain al pv us gs a0 a i:=by
    refine ⟨fun s v hc hv=>?_,fun j s v he hj hc ha hv=>?_,fun p j s v hp he hj hv=>?_,fun j s he hj hc ha=>?_,fun j he ha=>(hga j ha).1 (hdone j he),fun p j hp he=>(hcu p j hp).1 (hdone j he),fun p j s v hp hj hl0 hv=>by
     have:=hnot s fun j' hj'=>by
      have e:j'=j:=qHt hdst hj' (hsl j s hj);subst e
      cases hx:l.getD j' false
      . rfl
      . exact absurd ((hcu p _ hp).1 hx) (by omega)
     rw [← hv]
     simp [Act.eval,this]⟩
    . have hn:some s ∉ ops.toList.map (·.dst):=by rw [hs];simpa using hc
      have:=hnot s (fun j hj=>by
       unfold dstO at hj;rw [Option.bind_eq_some_iff] at hj;obtain ⟨o',h1,h2⟩:=hj
       exact absurd (List.mem_map.2 ⟨o',by simpa using Array.mem_of_getElem? h1,h2⟩) hn)
      rw [← hv];simp [Act.eval,this]
    . refine qAg ?_
      rw [hval j s (hdone j he) (hsl j s hj)];have:chain.idxOf? j=none:=qBx (by simpa using hc);simp only [valG,this,ha];simp [hv]
    . refine qAg ?_
      rw [hval j s (hdone j he) (hsl j s hj)];have:chain.idxOf? j=some p:=qBk hnd hp;simp only [valG,this];simp [hv]
    . obtain ⟨g,hg'⟩:=Option.isSome_iff_exists.1 ((hga j ha).1 (hdone j he))
      refine ⟨g,hg',qAg ?_⟩;rw [hval j s (hdone j he) (hsl j s hj)];have:chain.idxOf? j=none:=qBx (by simpa using hc);simp only [valG,this,ha,hg'];rfl
   have hclosed:∀ j o',(l.setIfInBounds i true).getD j false=true->ops[j]?=some o'->∀ d∈o'.after,Region.binds .any d=true->(l.setIfInBounds i true).getD d.on false=true:=by
    intro j o' hj ho' d hd hb
    have mono:∀ k,l.getD k false=true->(l.setIfInBounds i true).getD k false=true:=fun k hk=>by
     by_cases hik:i=k
     . subst hik;exact hself
     . rw [qAj hik];exact hk
    by_cases hij:i=j
    . subst hij
      rw [ho] at ho'
      cases ho'
      exact mono _ (hall d hd hb)
    . rw [qAj hij] at hj
      exact mono _ (hcl j o' hj ho' d hd hb)
   have hput:∀ v s,(∀ j,dstO ops j=some s->(l.setIfInBounds i true).getD j false=false)->(a.put o.dst v).tmps[s]?=a0.tmps[s]?:=fun v s hsn=>by
    have hsn':∀ j,dstO ops j=some s->l.getD j false=false:=fun j hj=>by
     have h1:=hsn j hj
     by_cases hij:i=j
     . subst hij;rw [hself] at h1;cases h1
     . rwa [qAj hij] at h1
    cases hd:o.dst with
    | none=>simp only [Act.put];exact hnot s hsn'
    | some t =>
     have:dstO ops i=some t:=by unfold dstO;rw [ho];exact hd
     have hts:t≠s:=fun e=>by
      have h1:=hsn i (by rw [this,e]);(rw [hself] at h1;cases h1)
     simp only [Act.put];rw [Array.getElem?_setIfInBounds_ne hts];exact hnot s hsn'
   have hputd:∀ v,(a.put o.dst v).defers=a0.defers/\(a.put o.dst v).tmps.size=a0.tmps.size:=fun v=>by
    cases hd:o.dst with
    | none=>exact ⟨hdf,hsz⟩
    | some t=>exact ⟨hdf,by simpa [Act.put] using hsz⟩
   have hputv:∀ us' gs' v,valG av chain al pv us' gs' i=v->(∀ j,l.getD j false=true->valG av chain al pv us' gs' j=valG av chain al pv us gs j)->∀ j s,(l.setIfInBounds i true).getD j false=true->dstO ops j=some s->(a.put o.dst v).tmps[s]?=some (valG av chain al pv us' gs' j):=by
    intro us' gs' v hv hsame j s hj hd
    by_cases hij:i=j
    . subst hij
      (have hod:o.dst=some s:=by unfold dstO at hd;rw [ho] at hd;exact hd);rw [hod,hv];have:=qZo hdst hd;simp [Act.put,hsz,this]
    . rw [qAj hij] at hj
      rw [hsame j hj]
      cases hod:o.dst with
      | none=>simp only [Act.put];exact hval j s hj hd
      | some t =>
       (have h1:dstO ops i=some t:=by unfold dstO;rw [ho];exact hod);(have hts:t≠s:=fun e=>hij (qHt hdst h1 (by rw [hd,e])));simp only [Act.put];rw [Array.getElem?_setIfInBounds_ne hts];exact hval j s hj hd
   have hlimR:∀ p c,chain[p]?=some c->qOk deps 9 c i=true->us.length<=p:=fun p c hp he=>by
    rcases Nat.lt_or_ge p us.length with h | h
    . have hD:=qHe (D:=fun j=>l.getD j false=true) (fun j k hj hk=>by
       cases hoj:ops[j]? with
       | none =>
        have:deps.getD j []=[]:=by
         rw [← hd,List.getD_eq_getElem?_getD,List.getElem?_map];(have:ops.toList[j]?=none:=by simpa using hoj);(rw [this];rfl)
        rw [this] at hk;simp at hk
       | some oj =>
        rw [hdep j oj hoj] at hk;obtain ⟨d,hd1,hd2,hd3⟩:=qDy (qDk hk);have:=hcl j oj hj hoj d hd1 hd2
        rwa [hd3] at this) 9 c ((hcu p c hp).2 h) he
      rw [hnl] at hD
      cases hD
    . exact h
   have hlim:∀ p c,chain[p]?=some c->(deps.getD c []).contains i=true->us.length<=p:=fun p c hp he=>hlimR p c hp (by unfold qOk;rw [he];rfl)
   show GoIf P ops o a w K Q
   by_cases hc:i∈chain
   . obtain ⟨p,hp⟩:=List.getElem?_of_mem hc
     have hle:us.length<=p:=by
      rcases Nat.lt_or_ge p us.length with h | h
      . have:=(hcu p i hp).2 h
        rw [hnl] at this
        cases this
      . exact h
     have hge:p<=us.length:=by
      cases p with
      | zero=>omega
      | succ q =>
       have hpl:=(List.getElem?_eq_some_iff.1 hp).1;have hq:chain[q]?=some chain[q]:=List.getElem?_eq_getElem (by omega);have:=(hcu q _ hq).1 (qIo hcl hall hch hq hp ho);omega
     have hpl:=(List.getElem?_eq_some_iff.1 hp).1;refine hlink p i o hp ho a w us gs K (by omega) hJ hfind (fun v w' hJ'=>?_);apply hK;(have hlen:(us++[v]).length=us.length+1:=by simp);refine ⟨by simpa using hsz0,(hputd v).1,(hputd v).2,hput v,hclosed,us++[v],gs,by rw [hlen];omega,fun q c hq=>?_,fun j hj=>?_,hputv _ gs v ?_ ?_,hJ'⟩
     . rw [hlen]
       by_cases hic:i=c
       . subst hic
         have:q=p:=by
          have h1:=qBk hnd hq;have h2:=qBk hnd hp;rw [h1] at h2;exact Option.some.inj h2
         rw [hself];simp;omega
       . rw [qAj hic,hcu q c hq]
         (have:q≠p:=fun e=>hic (by rw [e,hp] at hq;exact Option.some.inj hq));omega
     . have:i≠j:=fun e=>by
        have:=(hallt j hj).2;rw [← e] at this;exact absurd hc (by simpa using this)
       rw [qAj this];exact hga j hj
     . simp only [valG,qBk hnd hp]
       rw [List.getD_eq_getElem?_getD,List.getElem?_append_right (by omega)];(have:p-us.length=0:=by omega);simp [this]
     . intro j hj
       unfold valG
       cases hx:chain.idxOf? j with
       | none=>rfl
       | some q =>
        have hq:chain[q]?=some j:=by
         obtain ⟨h1,h2,_⟩:=List.idxOf?_eq_some_iff.1 hx;rw [List.getElem?_eq_getElem h1,h2]
        have:=(hcu q j hq).1 hj;simp only [List.getD_eq_getElem?_getD];rw [List.getElem?_append_left this]
   . have hcf:chain.contains i=false:=by simpa using hc
     have hcq:∀ q c,chain[q]?=some c->((l.setIfInBounds i true).getD c false=true↔q<us.length):=fun q c hq=>by
      (have:i≠c:=fun e=>hc (by rw [e];exact List.mem_of_getElem? hq));rw [qAj this];exact hcu q c hq
     cases ha:al.contains i with
     | true =>
      have hgn:gs i=none:=by
       have:=hga i ha;rw [hnl] at this
       cases h:gs i with
       | none=>rfl
       | some g=>rw [h] at this;simp at this
      refine halloc i o ho hcf ha a w us gs K hfind ?_;apply hK;refine ⟨by simpa using hsz0,(hputd _).1,(hputd _).2,hput _,hclosed,us,upd gs i w.heap.size,hul,hcq,fun j hj=>?_,hputv us _ _ ?_ (fun j hj=>?_),hJal i ha us gs w hJ hgn hlim⟩
      . by_cases hij:j=i
        . subst hij
          rw [hself,qCv];simp
        . rw [qAj (Ne.symm hij),qEi _ hij]
          exact hga j hj
      . simp only [valG,qBx hc,ha,qCv]
        rfl
      . have hij:j≠i:=fun e=>by rw [e,hnl] at hj;cases hj
        simp only [valG,qEi _ hij]
     | false =>
      refine hpure i o ho hcf ha a w us gs K hJ hfind hlimR ?_;apply hK;refine ⟨by simpa using hsz0,(hputd _).1,(hputd _).2,hput _,hclosed,us,gs,hul,hcq,fun j hj=>?_,hputv us gs _ ?_ (fun _ _=>rfl),hJ⟩
      . have:i≠j:=fun e=>by rw [e,hj] at ha;cases ha
        rw [qAj this];exact hga j hj
      . simp only [valG,qBx hc,ha]
        rfl
 . rintro l a w ⟨hsz0,hdf,hsz,hnot,hcl,us,gs,hul,hcu,hga,hval,hJ⟩ hall
   have hlen:us.length=chain.length:=by
    rcases Nat.lt_or_ge us.length chain.length with h | h
    . have hq:chain[us.length]?=some chain[us.length]:=List.getElem?_eq_getElem h
      have:=(hcu _ _ hq).1 (hall _ (qEs hch hq));omega
    . omega
   have hfr:=qIr (a0:=a0.tmps) (qVk av ops chain al pv us gs) a.tmps a0.tmps hsz (fun p hp=>by
    obtain ⟨j,hj,hv⟩:=List.mem_filterMap.1 hp;rw [Option.map_eq_some_iff] at hv;obtain ⟨s,hd,rfl⟩:=hv
    exact hval j s (hall j (by simpa using hj)) hd) (fun s hsn=>hnot s fun j hj=>absurd (by
     have hjl:j<ops.size:=by
      unfold dstO at hj;rw [Option.bind_eq_some_iff] at hj;obtain ⟨o',h1,_⟩:=hj;exact (Array.getElem?_eq_some_iff.1 h1).1
     rw [List.mem_map]
     exact ⟨(s,valG av chain al pv us gs j),List.mem_filterMap.2 ⟨j,by simpa using hjl,by rw [hj];rfl⟩,rfl⟩) hsn)
   have:a={ a0 with tmps:=(qVk av ops chain al pv us gs).foldl (fun t p=>t.setIfInBounds p.1 p.2) a0.tmps }:=by
    obtain ⟨at_,ad⟩:=a;simp only at hfr hdf;rw [hfr,hdf]
   rw [this];exact hQ us gs w hlen (fun j hj=>(hga j hj).1 (hall j (hallt j hj).1)) hJ
 . refine ⟨by simp,rfl,rfl,fun _ _=>rfl,fun j o h=>?_,[],fun _=>none,by simp,fun i c hc=>?_,fun j hj=>?_,fun j s h=>?_,h0⟩
   . simp [Array.getElem?_replicate] at h
     split at h<;>simp at h
   . have:(Array.replicate ops.size false).getD c false=false:=by
      simp [Array.getElem?_replicate]
      split<;>rfl
     rw [this];simp
   . have:(Array.replicate ops.size false).getD j false=false:=by
      simp [Array.getElem?_replicate]
      split<;>rfl
     rw [this];simp
   . simp [Array.getElem?_replicate] at h
     split at h<;>simp at h
theorem qZf {P:Program} {l:List Oper} {Q:Exit->Act->World->Prop} {id:Nat} {a0:Act} {W:World} (slots:List (Option Nat)) (deps:List (List Nat)) (chain al:List Nat) (pv:List Value) (av:Nat->Nat->Value) (obj:Nat->Obj) (J:List Value->(Nat->Option Nat)->World->Prop) (hm:P.follows .mixedOrders=true) (hdst:qGi l.toArray a0.tmps.size=true) (hord:ordB 0 l=true)
 (hs:l.map (·.dst)=slots) (hd:l.map qFm=deps) (hch:qEl l.toArray chain=true) (hnd:chain.Nodup) (hal:(al.all fun j=>decide (j<l.length) && !chain.contains j)=true) (h0:J [] (fun _=>none) W.drew)
 (hJal:∀ (i:Nat),al.contains i=true->∀ us gs w,J us gs w->gs i=none->(∀ p c,chain[p]?=some c->(deps.getD c []).contains i=true->us.length<=p)->J us (upd gs i w.heap.size) (w.alloc (obj i)))
 (hst:qHr (qDx P l.toArray Q av slots deps chain al pv obj J a0) 0 l)
 (hQ:∀ us gs w,us.length=chain.length->(∀ j,al.contains j=true->(gs j).isSome=true)->J us gs w->Q .normal { a0 with tmps:=(qVk av l.toArray chain al pv us gs).foldl (fun t p=>t.setIfInBounds p.1 p.2) a0.tmps } w) :
 (Code.region id l.toArray true).wp P Q a0 W :=
 qTt slots deps chain al pv av obj J hm hdst (by simpa using hord) (by simpa using hs) (by simpa using hd) hch hnd (by simpa using hal) h0 hJal (by simpa using hst) hQ
def AlJ (W:World) (obj:Nat->Obj) (us:List Value) (gs:Nat->Option Nat) (w:World):Prop:=us=[]/\Ext W w/\∀ j g,gs j=some g->W.heap.size<=g/\w.heap[g]?=some (obj j)
theorem AlJ.start (W:World) (obj:Nat->Obj):AlJ W obj [] (fun _=>none) W.drew:=⟨rfl,(Ext.refl W).drew,fun j g h=>by cases h⟩
theorem AlJ.alloc {W w:World} {obj:Nat->Obj} {us:List Value} {gs:Nat->Option Nat} (h:AlJ W obj us gs w) (i:Nat):AlJ W obj us (upd gs i w.heap.size) (w.alloc (obj i)):=by
 obtain ⟨h1,h2,h3⟩:=h;refine ⟨h1,h2.alloc _,fun j g hg=>?_⟩
 by_cases hji:j=i
 . subst hji
   rw [qCv] at hg
   cases hg
   exact ⟨h2.size,by rw [show (w.alloc (obj j)).heap=w.heap.push (obj j) from rfl];simp⟩
 . rw [qEi _ hji] at hg
   obtain ⟨h4,h5⟩:=h3 j g hg;refine ⟨h4,?_⟩;have:g<w.heap.size:=(Array.getElem?_eq_some_iff.1 h5).1;rw [Below.heap_alloc _ _ _ this];exact h5
end
end Go.Proofs.YtneffpbodfjceaaGreatDoor