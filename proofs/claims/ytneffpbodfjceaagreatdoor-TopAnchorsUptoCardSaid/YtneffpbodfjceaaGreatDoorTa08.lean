/- Texts laid together. -/
import Derived.Test.YtneffpbodfjceaaGreatDoorTa07
set_option linter.unusedVariables false
set_option linter.unusedSimpArgs false
set_option maxRecDepth 100000
set_option maxHeartbeats 16000000
namespace Go.Proofs.YtneffpbodfjceaaGreatDoor
section
open Go.RowKit Go.ChangeShapes Go.WideShapes Go.ChangeAt
set_option maxRecDepth 100000
theorem qKc:Tryz.prog.cellsOf 95=8:=by kernel_rfl
theorem qPf:Tryz.prog.cellsOf 27=8:=by kernel_rfl
theorem qRu:Tryz.prog.bytesOf 95=72:=by kernel_rfl
theorem qXh:Tryz.prog.bytesOf 54=88:=by kernel_rfl
theorem qXj:Tryz.prog.cellsOf 22=1:=by kernel_rfl
theorem zBs:Tryz.prog.cellsOf 23=1:=by kernel_rfl
theorem zBn:Tryz.prog.cellsOf 24=1:=by kernel_rfl
theorem zBm:Tryz.prog.cellsOf 25=1:=by kernel_rfl
def Ev.Nums (e:Ev):Prop:=IW e.id/\IW e.inn/\IW e.out/\0<=e.kind/\e.kind<=255
theorem qVv (W:World):qBw Tryz.prog W 54 (fun k cs (e:Ev)=>(∃ A n c,cs=(e.cells A n c).toList/\EvAt W e A n c)/\e.bulk+2<=k/\e.Nums):=by
 intro H enc fuel cs x h hw;obtain ⟨hl,ks,hks,hkl,hf⟩:=qBw.fields Tryz.underlying54 h hw;rw [qNg] at hl;obtain ⟨v0,v1,v2,v3,v4,v5,v6,rfl⟩:=zMl hl;obtain ⟨k0,k1,k2,k3,k4,k5,rfl⟩:=zAb (show ks.length=6 from hkl);obtain ⟨a0,h0,s0⟩:=hf 0 _ rfl (.of (qCa.int Tryz.underlying2));obtain ⟨⟨a1,a2⟩,h1,s1,s2⟩:=hf 1 _ rfl (.of (zHj W));obtain ⟨a3,h3,s3⟩:=hf 2 _ rfl (qBw.string Tryz.underlying9);obtain ⟨a4,h4,s4⟩:=hf 3 _ rfl (.of (qCa.int Tryz.underlying39));obtain ⟨a5,h5,s5⟩:=hf 4 _ rfl (qBw.string Tryz.underlying9)
 obtain ⟨rows,h6,hb6⟩:=hf 5 _ rfl (R:=fun k cs (r:List Row)=>(∃ A n c,cs=[.slice A n c]/\n<=c/\n*24<=140737488355328/\qCb W A n r)/\qIv r<=k) (fun H enc fuel cs x h hw=>by
  obtain ⟨A,n,c,l,rfl,hnc,_,hb,hs,hk⟩:=qBw.slice Tryz.underlying46 qUp (by decide) zEp (zHh W) h hw;(have hn:n*24<=140737488355328:=by simp only [reachBytes] at hb;omega);refine ⟨l.map (fun p:Row × Nat=>p.1),⟨A,n,c,rfl,hnc,hn,Sl.mapK (D:=RowC) hs fun b o p hm=>?_⟩,?_⟩
  . obtain ⟨cs,h1,⟨A',n',c',h2,h3⟩,_⟩:=hm
    subst h2;exact ⟨A',n',c',h1 0 _ rfl,h3⟩
  . have:=qOw (f:=qFp) (l:=l) (fun p hp=>hs.all (p:=fun p=>qFp p.1<=p.2) (fun b o q hm=>by obtain ⟨_,_,_,h3⟩:=hm;exact h3) p hp)
    unfold qIv
    omega)
 have n0:=bounds_i64 s0;have n4:=bounds_u8 s4;simp [qFl,qCy,qQd,zBo,zBt] at h0 h1 h3 h4 h5 h6 s3 s5 hb6 hks;obtain ⟨h1,h2⟩:=h1;obtain ⟨A,n,c,h6,hnc,hn,hr⟩:=h6;subst h0 h1 h2 h3 h4 h5 h6;exact ⟨⟨a0,a1,a2,a3,a4,a5,rows⟩,⟨A,n,c,rfl,hr,hnc,hn⟩,by unfold Ev.bulk;simp only;omega,n0,s1,s2,n4.1,n4.2⟩
def Com.Nums (c:Com):Prop:=IW c.id/\IW c.ev/\IW c.fr/\IW c.til
theorem zHf (W:World):qBw Tryz.prog W 95 (fun k cs (c:Com)=>cs=c.vals/\c.author.size+c.text.size+2<=k/\c.Nums):=by
 intro H enc fuel cs x h hw;obtain ⟨hl,ks,hks,hkl,hf⟩:=qBw.fields Tryz.underlying95 h hw;rw [qKc] at hl;obtain ⟨v0,v1,v2,v3,v4,v5,v6,v7,rfl⟩:=zAc hl;obtain ⟨k0,k1,k2,k3,k4,k5,k6,k7,rfl⟩:=zAc (show ks.length=8 from hkl);obtain ⟨a0,h0,s0⟩:=hf 0 _ rfl (.of (qCa.int Tryz.underlying2));obtain ⟨a1,h1,s1⟩:=hf 1 _ rfl (.of (qCa.int Tryz.underlying2));obtain ⟨a2,h2,s2⟩:=hf 2 _ rfl (.of (qCa.int Tryz.underlying3));obtain ⟨a3,h3,s3⟩:=hf 3 _ rfl (.of (qCa.int Tryz.underlying3));obtain ⟨a4,h4,s4⟩:=hf 4 _ rfl (qBw.string Tryz.underlying9);obtain ⟨a5,h5,s5⟩:=hf 5 _ rfl (qBw.string Tryz.underlying9);obtain ⟨a6,h6⟩:=hf 6 _ rfl (.of (qCa.bool Tryz.underlying4));obtain ⟨a7,h7⟩:=hf 7 _ rfl (.of (qCa.bool Tryz.underlying4));have n0:=bounds_i64 s0;have n1:=bounds_i64 s1;have n2:=bounds_i64 s2;have n3:=bounds_i64 s3;simp [qFl,qKd,qCy,qIn] at h0 h1 h2 h3 h4 h5 h6 h7 s4 s5 hks;subst h0 h1 h2 h3 h4 h5 h6 h7;exact ⟨⟨a0,a1,a2,a3,a4,a5,a6,a7⟩,rfl,by simp only;omega,n0,n1,n2,n3⟩
structure DocIn (d:Doc) (h:DocH):Prop where
 fit:qCf d
 nums:∀ e∈d.evs,e.Nums
 cnums:∀ c∈d.coms,c.Nums
 last:IW d.last
 rn:h.rn<=9223372036854775807
 en:h.en<=1000000
 cn:h.cn<=1000000
 rc:h.rn<=h.rc/\h.rn*56<=140737488355328
 ec:h.en<=h.ec
 cc:h.cn<=h.cc
theorem zIn {α:Type} {n:Nat}:∀ {l:List (α × Nat)},(∀ p∈l,n<=p.2)->l.length*n<=(l.map (·.2)).sum
 | [],_=>by simp
 | p :: l,h=>by
  have h1:=h p (List.mem_cons_self ..);(have h2:=zIn (l:=l) fun q hq=>h q (List.mem_cons_of_mem _ hq));simp only [List.length_cons,List.map_cons,List.sum_cons,Nat.add_mul];omega
theorem zAf {α:Type}:∀ {l:List (α × Nat)} {p:α × Nat},p∈l->p.2<=(l.map (·.2)).sum
 | [],_,h=>by cases h
 | q :: l,p,h=>by
  simp only [List.map_cons,List.sum_cons]
  cases List.mem_cons.1 h with
  | inl e=>subst e;omega
  | inr e=>have:=zAf e;omega
theorem zKa {e:Ev} (h:e.bulk<=1048576):qFi e/\e.bytes<=1099511627776:=by
 unfold Ev.bulk at h
 have hrow:∀ r∈e.rows,qFp r<=1048576:=fun r hr=>by
  have:=zGu (f:=qFp) hr;unfold qIv at h;omega
 refine ⟨⟨by omega,by omega,fun r hr=>⟨?_,fun x hx=>?_⟩⟩,?_⟩
 . have h1:=hrow r hr
   have h2:=qOm r;omega
 . have h1:=hrow r hr
   have h2:=zGu (f:=qLo) hx;unfold qFp at h1;have h3:qLo x=x.text.size+x.ruby.size:=rfl;omega
 . have key:∀ l:List Row,(l.map qAe).sum<=qIv l:=fun l=>by
    unfold qIv
    induction l with
    | nil=>simp
    | cons y l ih=>have:=qOm y;simp only [List.map_cons,List.sum_cons];omega
   have:=key e.rows;unfold Ev.bytes;omega
theorem zJp {H:Type} {enc:TypeId × Value->H} {W:World} {base:Nat} {v:Value} {d:DataW H} {p:List MemPlace} (hv:Value.okWide Tryz.prog W .any base 27 v) (h:DataW.Trod enc Tryz.prog W 0 (fun _=>true) true 27 v d p)
 (hw:∀ n∈d.weights Tryz.prog 27,n<=reachBytes) (hk:Rows.uptoBulk d<=1048576):∃ d' h',v = .agg (Doc.cells d' h')/\qCx W d' h'/\DocIn d' h':=by
 obtain ⟨cs,rfl⟩:=qLu Tryz.underlying27 hv;obtain ⟨fuel,h⟩:=h;obtain ⟨hl,ks,hks,hkl,hf⟩:=qBw.fields Tryz.underlying27 h hw;rw [qPf] at hl;obtain ⟨v0,v1,v2,v3,v4,v5,v6,v7,he⟩:=zAc hl;obtain ⟨k0,k1,k2,k3,k4,k5,k6,k7,rfl⟩:=zAc (show ks.length=8 from hkl);obtain ⟨a0,h0,s0⟩:=hf 0 _ rfl (qBw.string Tryz.underlying9);obtain ⟨a1,h1,s1⟩:=hf 1 _ rfl (qBw.string Tryz.underlying9);obtain ⟨a2,h2,s2⟩:=hf 2 _ rfl (.of (qCa.int Tryz.underlying22));obtain ⟨a3,h3⟩:=hf 3 _ rfl (.of (qCa.bool Tryz.underlying4));obtain ⟨a4,h4,s4⟩:=hf 4 _ rfl (.of (qCa.int Tryz.underlying2))
 obtain ⟨⟨regs,A5,n5,c5⟩,h5,r5,r6,r7,r8⟩:=hf 5 _ rfl (R:=fun k cs (r:List Reg × Option Addr × Nat × Nat)=>cs=[.slice r.2.1 r.2.2.1 r.2.2.2]/\r.2.2.1<=r.2.2.2/\r.2.2.1*56<=140737488355328/\qFw W r.2.1 r.2.2.1 r.1/\qHp r.1) (fun H enc fuel cs x h hw=>by
  obtain ⟨A,n,c,l,hc,hnc,hcm,hb,hs⟩:=qCa.slice Tryz.underlying23 qLv (by decide) qUm (qYn W) h hw;refine ⟨(l,A,n,c),hc,hnc,(show n*56<=140737488355328 by simp only [reachBytes] at hb;omega),Sl.change (D:=RegC) hs fun b o r hm=>?_,show ∀ r∈l,r.name.size<=9223372036854775807 from hs.all (p:=fun r:Reg=>r.name.size<=9223372036854775807) fun b o r hm=>?_⟩
  . obtain ⟨cs,h1,h2,_⟩:=hm
    subst h2;exact ⟨h1 0 _ rfl,h1 1 _ rfl,h1 2 _ rfl,h1 3 _ rfl,h1 4 _ rfl,h1 5 _ rfl,h1 6 _ rfl⟩
  . obtain ⟨cs,_,_,h3⟩:=hm
    omega)
 obtain ⟨⟨evs,A6,n6,c6⟩,h6,e5,e6,e7,e8⟩:=hf 6 _ rfl (R:=fun k cs (r:List Ev × Option Addr × Nat × Nat)=>cs=[.slice r.2.1 r.2.2.1 r.2.2.2]/\r.2.2.1<=r.2.2.2/\r.2.2.1*2<=k/\qGw W r.2.1 r.2.2.1 r.1/\∀ e∈r.1,e.bulk<=k/\e.Nums) (fun H enc fuel cs x h hw=>by
  obtain ⟨A,n,c,l,hc,hnc,hcm,hb,hs,hk⟩:=qBw.slice Tryz.underlying24 qNg (by decide) qXh (qVv W) h hw;have hall:=hs.all (p:=fun p:Ev × Nat=>p.1.bulk+2<=p.2/\p.1.Nums) (fun b o q hm=>by obtain ⟨_,_,_,h3,h4⟩:=hm;exact ⟨h3,h4⟩);have h2:=zIn (n:=2) (l:=l) (fun p hp=>by have:=(hall p hp).1;omega);have hln:l.length=n:=hs.len;refine ⟨(l.map (fun p:Ev × Nat=>p.1),A,n,c),hc,hnc,(show n*2<=_ by omega),Sl.mapK (D:=EvC) hs fun b o p hm=>?_,fun e he=>?_⟩
  . obtain ⟨cs,h1,⟨A',n',c',h2,h3⟩,_⟩:=hm
    subst h2;exact ⟨A',n',c',h1,h3⟩
  . obtain ⟨p,hp,rfl⟩:=List.mem_map.1 he
    have h3:=hall p hp;have h4:=zAf hp
    exact ⟨by omega,h3.2⟩)
 obtain ⟨⟨coms,A7,n7,c7⟩,h7,m5,m6,m7,m8⟩:=hf 7 _ rfl (R:=fun k cs (r:List Com × Option Addr × Nat × Nat)=>cs=[.slice r.2.1 r.2.2.1 r.2.2.2]/\r.2.2.1<=r.2.2.2/\r.2.2.1*2<=k/\qHj W r.2.1 r.2.2.1 r.1/\∀ c∈r.1,c.author.size+c.text.size<=k/\c.Nums) (fun H enc fuel cs x h hw=>by
  obtain ⟨A,n,c,l,hc,hnc,hcm,hb,hs,hk⟩:=qBw.slice Tryz.underlying25 qKc (by decide) qRu (zHf W) h hw;have hall:=hs.all (p:=fun p:Com × Nat=>p.1.author.size+p.1.text.size+2<=p.2/\p.1.Nums) (fun b o q hm=>by obtain ⟨_,_,_,h3,h4⟩:=hm;exact ⟨h3,h4⟩);have h2:=zIn (n:=2) (l:=l) (fun p hp=>by have:=(hall p hp).1;omega);have hln:l.length=n:=hs.len;refine ⟨(l.map (fun p:Com × Nat=>p.1),A,n,c),hc,hnc,(show n*2<=_ by omega),Sl.mapK (D:=Cells Com.vals) hs fun b o p hm=>?_,fun e he=>?_⟩
  . obtain ⟨cs,h1,h2,_⟩:=hm
    subst h2;exact h1
  . obtain ⟨p,hp,rfl⟩:=List.mem_map.1 he
    have h3:=hall p hp;have h4:=zAf hp
    exact ⟨by omega,h3.2⟩)
 rw [he] at h0 h1 h2 h3 h4 h5 h6 h7;simp [qCy,qIn,qFl,qXj,zBs,zBn,zBm] at h0 h1 h2 h3 h4 h5 h6 h7 s0 s1 e6 e8 m6 m8 hks;have n2:=bounds_u8 s2;subst h0 h1 h2 h3 h4 h5 h6 h7;dsimp only at *;refine ⟨⟨a0,a1,a2,a3,a4,regs,evs,coms⟩,⟨A5,n5,c5,A6,n6,c6,A7,n7,c7⟩,?_,⟨r7,e7,m7⟩,⟨⟨⟨n2.1,n2.2,by simp only;omega,by simp only;omega⟩,r8,fun e hm=>zKa (by have:=(e8 e hm).1;omega),fun e hm=>(e8 e hm).2.1,fun c hm=>⟨(m8 c hm).2.1,(m8 c hm).2.2.1,by have:=(m8 c hm).1;omega,by have:=(m8 c hm).1;omega⟩⟩,fun e hm=>(e8 e hm).2,fun c hm=>(m8 c hm).2,bounds_i64 s4,by simp only;omega,by simp only;omega,by simp only;omega,⟨r5,r6⟩,e5,m5⟩⟩;have:cs=(Doc.cells ⟨a0,a1,a2,a3,a4,regs,evs,coms⟩ ⟨A5,n5,c5,A6,n6,c6,A7,n7,c7⟩):=Array.toList_inj.1 he;rw [this]
set_option maxRecDepth 100000
end
section
open Go.RowKit
theorem zAp:∀ (r:Run),∀ u∈r.cells,u.oneCell'=true:=by intro r u hu;simp [Run.cells] at hu;rcases hu with rfl | rfl | rfl | rfl | rfl<;>rfl
theorem zOp {w:World} {L:Nat} {e:TypeId} {size:Nat} {v:Value} {n:Nat} {xs:List Value} (h:w.ownsRow L e size v n xs) {g:Nat} {t:TypeId} {cs:Array Value} (hB:Blk w g t cs) (cs':Array Value) (hne:e≠t):(putB w g t cs').ownsRow L e size v n xs:=by
 have ht:=qAt h;refine ⟨h.1,?_⟩
 rcases h.2 with hn | ⟨g',cap,cur,rfl,hb,hg,rest⟩
 . exact .inl hn
 . refine .inr ⟨g',cap,cur,rfl,hb,?_,rest⟩
   (have:g≠g':=fun e=>qBc.ne (ht g' rfl) hB.typed hne e.symm);unfold putB;simp only;rw [Array.getElem?_setIfInBounds_ne this];exact hg
theorem qDg.put {w:World} {L:Nat} {A:Option Addr} {n c:Nat} {l:List Row} (h:qDg w L A n c l) {g:Nat} {t:TypeId} {cs:Array Value} (hB:Blk w g t cs) (cs':Array Value) (h1:61≠t) (h2:102≠t):qDg (putB w g t cs') L A n c l:=by
 obtain ⟨hs,a1,a2,a3,a4,a5⟩:=h;refine ⟨hs,zOp a1 hB cs' h1,a2,fun i hd r a b=>?_,a4,fun x hx=>(a5 x hx).put hB cs' h2⟩;have gd:=a3 i hd r a b;refine ⟨gd.1,gd.2.1,Sl.keep gd.2.2 fun _ b' off hA o x hx=>?_⟩;have hb:b'≠g:=qBc.ne (a5 hd (List.mem_of_getElem? a) _ hA).2 hB.typed h2;(have key:∀ q v,w.cell? ⟨b',q,none⟩=some v->(putB w g t cs').cell? ⟨b',q,none⟩=some v:=fun q v hv=>by rw [qOj (p:=⟨b',q,none⟩) hb];exact hv);exact ⟨key _ _ hx.1,key _ _ hx.2.1,key _ _ hx.2.2.1,key _ _ hx.2.2.2.1,key _ _ hx.2.2.2.2⟩
theorem qAu:(Tryz.prog.info? 54).map (·.size)=some 7:=by kernel_rfl
def qLx:Array Value:=#[.int .i64 0,.int .i64 0,.int .i64 0,.string ⟨#[]⟩,.int .u8 0,.string ⟨#[]⟩,.slice none 0 0]
def qXb (e:Ev) (n:Nat) (w:World) (en:Ending) (w':World):Prop :=
 ∃ A c,en = .returned (.agg (e.cells A n c))/\n<=c/\qBu w' w.heap.size A n e.rows/\Ext w w'
def zJc (e:Ev) (n:Nat) (w:World) (en:Ending) (w':World):Prop :=
 ∃ A c,en = .returned (.agg (e.cells A n c))/\n<=c/\qDg w' w.heap.size A n c e.rows/\Ext w w'
theorem zBc (e:Ev) (A:Option Addr) (n c:Nat) (w:World) (he:EvAt w e A n c) :
 Calls Tryz.prog 85 #[.agg (e.cells A n c)] w (zJc e n w):=by
 have hn24:=he.2.2;have HE:=gH he;clear he;have hx0:=((Ext.refl w).alloc (.cells (e.cells A n c) 54)).alloc (.cells qLx 54);unfold Ev.cells qLx at hx0;have HX0:=gH hx0;clear hx0;unfold Ev.cells;go_enter Tryz.func85,Tryz.ntmps85;go_wp2_with fail;refine (qPx A n c e.rows _ (HE.out.1.ext HX0.out) hn24).mono ?_;rintro en w1 ⟨A1,c1,rfl,hnc1,hrf,hx1⟩;have HB0:=gH (Blk.ext ((Blk.new w 54 #[.int .i64 e.id,.int .i64 e.inn,.int .i64 e.out,.string e.region,.int .u8 e.kind,.string e.speaker,.slice A n c]).alloc _) hx1);have HB1:=gH (Blk.ext (Blk.new' (g:=w.heap.size+1) (by simp)) hx1);(have hc0:=fun o=>HB0.out.cell o);(have hf0:=fun o=>HB0.out.frozen o);(have hset:=fun u=>qAd HB0.out 6 u);have HRF:=gH hrf;clear hrf;simp at hset;go_wp2_with (first | (refine qAa rfl 54 (.tmp 1) rfl w.heap.size 54 _ _ (by exact rfl) (by exact HB0.out.put _) Tryz.underlying54 rfl (by exact qAu) ?_) | (refine qAc rfl 54 (.tmp 2) (.tmp 7) rfl (w.heap.size+1) 54 _ _ (by exact rfl) (by exact rfl) (by exact HB1.out.put_other (by omega) _) (by exact rfl) (by exact qAu) (by simp [Value.oneCell']) ?_));refine bodyPost_ret (v:=.agg (e.cells A1 n c1)) ?_ rfl ⟨A1,c1,rfl,hnc1,?_,?_⟩
 . exact qBz (P:=Tryz.prog) Tryz.results85 (g:=w.heap.size+1) rfl (by exact (HB1.out.put_other (by omega) _).put _) Tryz.underlying54 rfl qAu
 . exact (qDg.put (qDg.put HRF.out HB0.out _ (by decide) (by decide)) (HB1.out.put_other (by omega) _) _ (by decide) (by decide)).le (by simp only [World.size_alloc];omega)
 . exact (((HX0.out.trans hx1)).put (Nat.le_refl _) _ _).put (by omega) _ _
theorem qGg (e:Ev) (A:Option Addr) (n c:Nat) (w:World) (he:EvAt w e A n c):Calls Tryz.prog 85 #[.agg (e.cells A n c)] w (qXb e n w) :=
 (zBc e A n c w he).mono fun _ _ ⟨A1,c1,h1,h2,h3,h4⟩=>⟨A1,c1,h1,h2,h3.fresh,h4⟩
end
section
open Go.RowKit Go.Maps
def KB (T:TypeId) (w w':World):Prop:=∀ (b:Nat) (cur:Array Value),w.heap[b]?=some (Obj.cells cur T (0,0))->w'.heap[b]?=some (Obj.cells cur T (0,0))
section
variable {T T':TypeId} {w w1 w2:World} {L n:Nat} {A:Option Addr}
theorem KB.refl (w:World):KB T w w:=fun _ _ h=>h
theorem KB.trans (h:KB T w w1) (k:KB T w1 w2):KB T w w2:=fun b cur hb=>k b cur (h b cur hb)
theorem KB.ext (k:Ext w w1):KB T w w1:=fun b _ hb=>(k.block b (Array.getElem?_eq_some_iff.1 hb).1).trans hb
theorem KB.put {g:Nat} {cs cs':Array Value} (hB:Blk w g T' cs) (hne:T≠T'):KB T w (putB w g T' cs'):=fun b cur hb=>by
 have hn:g≠b:=(qBc.ne ⟨cur,hb⟩ hB.typed hne).symm;unfold putB;simp only;rw [Array.getElem?_setIfInBounds_ne hn];exact hb
theorem KB.set {p:Addr} {u:Value} (hT:qBc w T' p.block) (hne:T≠T'):KB T w (w.setCell p u):=fun b cur hb=>by
 have hn:b≠p.block:=qBc.ne ⟨cur,hb⟩ hT hne;rw [RowKit.Below.heap_setCell _ _ _ _ hn];exact hb
theorem KB.sets {g:Nat} (hne:T≠T'):∀ (vs:List Value) (o:Nat) (w:World),qBc w T' g->KB T w (w.setCells g o vs)
 | [],_,w,_=>KB.refl w
 | v :: vs,o,w,h=>(KB.set (p:=⟨g,o,none⟩) h hne).trans (KB.sets hne vs (o+1) _ (h.setCell _ _))
theorem KB.grown {row:Option Nat} (hg:w.grownBy w1 row) (hr:∀ q,row=some q->qBc w T' q) (hne:T≠T'):KB T w w1:=fun b cur hb=>by
 refine (hg.block b (Array.getElem?_eq_some_iff.1 hb).1 (fun e=>?_)).trans hb;exact qBc.ne ⟨cur,hb⟩ (hr b e.symm) hne rfl
theorem qBc.kb (h:qBc w T n) (k:KB T w w1):qBc w1 T n:=h.elim fun cur hb=>⟨cur,k _ _ hb⟩
theorem qBc.cell_kb (h:qBc w T n) (k:KB T w w1) (o:Nat):w1.cell? ⟨n,o,none⟩=w.cell? ⟨n,o,none⟩:=by
 obtain ⟨cur,hb⟩:=h;simp [World.cell?,hb,k _ _ hb]
end
section
variable {T T':TypeId} {w w1 w2:World}
theorem Blk.kb {g:Nat} {cs:Array Value} (h:Blk w g T cs) (k:KB T w w1):Blk w1 g T cs:=k g cs h
end
theorem qDp {α:Type} {l:List α} {p:Nat} (h:p<l.length):∃ v,l[p]?=some v:=⟨_,List.getElem?_eq_getElem h⟩
end
section
open Go.RowKit
section
variable {T T':TypeId} {w w1 w2:World} {L n:Nat} {A:Option Addr}
theorem qEk.kb (h:qEk w T L A) (k:KB T w w1):qEk w1 T L A:=fun ad e=>⟨(h ad e).1,(h ad e).2.kb k⟩
theorem qDs {size:Nat} {v:Value} {xs:List Value} (h:w.ownsRow L T size v n xs) (k:KB T w w1):w1.ownsRow L T size v n xs:=by
 refine ⟨h.1,?_⟩
 rcases h.2 with hn | ⟨g,cap,cur,rfl,hb,hg,rest⟩
 . exact .inl hn
 . exact .inr ⟨g,cap,cur,rfl,hb,k _ _ hg,rest⟩
end
theorem qBu.kb {w w1:World} {L:Nat} {A:Option Addr} {n:Nat} {l:List Row} (h:qBu w L A n l) (k1:KB 61 w w1) (k2:KB 102 w w1):qBu w1 L A n l:=by
 obtain ⟨hs,a1,a2,a3,a4,a5⟩:=h;refine ⟨hs,Sl.keep a1 fun _ b off hA o x hx j u hu=>?_,fun i hd r a b=>?_,a3,a4.kb k1,fun x hx=>(a5 x hx).kb k2⟩
 . rw [(a4 _ hA).2.cell_kb k1];exact hx j u hu
 . have gd:=a2 i hd r a b
   refine ⟨gd.1,gd.2.1,Sl.keep gd.2.2 fun _ b' off hA o x hx=>?_⟩;(have key:∀ q v,w.cell? ⟨b',q,none⟩=some v->w1.cell? ⟨b',q,none⟩=some v:=fun q v hv=>by rw [((a5 hd (List.mem_of_getElem? a)) _ hA).2.cell_kb k2];exact hv);exact ⟨key _ _ hx.1,key _ _ hx.2.1,key _ _ hx.2.2.1,key _ _ hx.2.2.2.1,key _ _ hx.2.2.2.2⟩
def qOu:List Value->Nat->List Value->List Value
 | xs,_,[]=>xs
 | xs,j,v :: vs=>qOu (xs.set j v) (j+1) vs
theorem qKt:∀ (vs pre old post:List Value),old.length=vs.length->qOu (pre++old++post) pre.length vs=pre++vs++post
 | [],pre,old,post,h=>by
  obtain rfl:old=[]:=List.eq_nil_of_length_eq_zero h;rfl
 | v :: vs,pre,[],post,h=>by simp at h
 | v :: vs,pre,o :: old,post,h=>by
  (have e:(pre++o :: old++post).set pre.length v=(pre++[v])++old++post:=by simp [List.set_append]);have:=qKt vs (pre++[v]) old post (by simpa using h);rw [List.length_append,List.length_singleton] at this;rw [qOu,e,this];simp
theorem qHv {α:Type} {f:α->List Value} {size:Nat} (hf:∀ x,(f x).length=size) (l:List α) (k:Nat) (y:α) (hk:k<l.length):qOu (l.flatMap f) (k*size) (f y)=(l.set k y).flatMap f:=by
 (have e1:l=l.take k++l[k] :: l.drop (k+1):=by rw [← List.drop_eq_getElem_cons hk,List.take_append_drop]);(have e2:l.set k y=l.take k++y :: l.drop (k+1):=by rw [List.set_eq_take_append_cons_drop,if_pos hk]);(have hl:((l.take k).flatMap f).length=k*size:=by rw [qCc f size hf,List.length_take,Nat.min_eq_left (by omega)]);rw [e2,List.flatMap_append,List.flatMap_cons]
 conv=>lhs;rw [e1]
 rw [List.flatMap_append,List.flatMap_cons,← hl,← List.append_assoc,qKt _ _ _ _ (by rw [hf,hf]),List.append_assoc]
theorem qMu {L size n cap g:Nat} {T:TypeId}:∀ (vs:List Value) (j:Nat) (w:World) (xs:List Value),w.ownsRow L T size (.slice (some ⟨g,0,none⟩) n cap) n xs ->
 (w.setCells g j vs).ownsRow L T size (.slice (some ⟨g,0,none⟩) n cap) n (qOu xs j vs)
 | [],_,_,_,h=>h
 | v :: vs,j,w,xs,h=>qMu vs (j+1) _ _ (h.stored j v).1
theorem qMs {w0:World} {g:Nat} (hg:w0.heap.size<=g):∀ (vs:List Value) (j:Nat) (w:World),Ext w0 w->Ext w0 (w.setCells g j vs)
 | [],_,_,h=>h
 | v :: vs,j,w,h=>qMs hg vs (j+1) _ (h.setCell hg v)
structure EH where
 id:Int
 inn:Int
 out:Int
 region:ByteArray
 kind:Int
 speaker:ByteArray
 A:Option Addr
 n:Nat
 c:Nat
def EH.vals (h:EH):List Value:=[.int .i64 h.id,.int .i64 h.inn,.int .i64 h.out,.string h.region,.int .u8 h.kind,.string h.speaker,.slice h.A h.n h.c]
def EH.of (e:Ev) (A:Option Addr) (n c:Nat):EH:=⟨e.id,e.inn,e.out,e.region,e.kind,e.speaker,A,n,c⟩
theorem EH.of_vals (e:Ev) (A:Option Addr) (n c:Nat):(EH.of e A n c).vals=(e.cells A n c).toList:=rfl
theorem EH.len (h:EH):h.vals.length=7:=rfl
def Reg.vals (r:Reg):List Value:=[.string r.name,.int .i64 r.top,.int .i64 r.height,.int .i64 r.left,.int .i64 r.width,.int .u8 r.align,.bool r.bottom]
def qFu (w:World) (L:Nat) (h:EH) (e:Ev):Prop:=h=EH.of e h.A h.n h.c/\h.n<=h.c/\h.n*24<=140737488355328/\qBu w L h.A h.n e.rows
theorem qFu.kb {w w1:World} {L:Nat} {h:EH} {e:Ev} (g:qFu w L h e) (k1:KB 61 w w1) (k2:KB 102 w w1):qFu w1 L h e:=⟨g.1,g.2.1,g.2.2.1,g.2.2.2.kb k1 k2⟩
theorem qFu.ext {w w1:World} {L:Nat} {h:EH} {e:Ev} (g:qFu w L h e) (k:Ext w w1):qFu w1 L h e:=g.kb (KB.ext k) (KB.ext k)
theorem qFu.le {w:World} {L L':Nat} {h:EH} {e:Ev} (g:qFu w L h e) (hl:L'<=L):qFu w L' h e:=⟨g.1,g.2.1,g.2.2.1,g.2.2.2.le hl⟩
theorem qFu.at_ {w:World} {L:Nat} {h:EH} {e:Ev} (g:qFu w L h e):EvAt w e h.A h.n h.c:=⟨g.2.2.2.rows,g.2.1,g.2.2.1⟩
def qBs (w:World) (L:Nat) (v:Value) (n:Nat) (l:List Ev):Prop :=
 ∃ hs:List EH,w.ownsRow L 54 7 v n (hs.flatMap EH.vals)/\hs.length=n/\l.length=n/\∀ (i:Nat) (h:EH) (e:Ev),hs[i]?=some h->l[i]?=some e->qFu w L h e
section
variable {w w1:World} {L L' n c:Nat} {A:Option Addr} {v:Value} {l:List Ev}
theorem qBs.ext (h:qBs w L v n l) (k:Ext w w1):qBs w1 L v n l:=by
 obtain ⟨hs,h1,h2,h3,h4⟩:=h;exact ⟨hs,qAh h1 k,h2,h3,fun i x e a b=>(h4 i x e a b).ext k⟩
theorem qBs.kb (h:qBs w L v n l) (k0:KB 54 w w1) (k1:KB 61 w w1) (k2:KB 102 w w1):qBs w1 L v n l:=by
 obtain ⟨hs,h1,h2,h3,h4⟩:=h;exact ⟨hs,qDs h1 k0,h2,h3,fun i x e a b=>(h4 i x e a b).kb k1 k2⟩
theorem qBs.le (h:qBs w L v n l) (hl:L'<=L):qBs w L' v n l:=by
 obtain ⟨hs,h1,h2,h3,h4⟩:=h;exact ⟨hs,qOi h1 hl,h2,h3,fun i x e a b=>(h4 i x e a b).le hl⟩
theorem qBs.len (h:qBs w L v n l):l.length=n:=h.elim fun _ h=>h.2.2.1
theorem qBs.nil (w:World) (L:Nat):qBs w L (.slice none 0 0) 0 []:=⟨[],⟨rfl,.inl ⟨rfl,rfl⟩⟩,rfl,rfl,fun i x e a _=>by simp at a⟩
theorem qBs.at_ (h:qBs w L v n l):∃ A c,v = .slice A n c/\n<=c/\c<=maxLen/\qGw w A n l:=by
 obtain ⟨hs,h1,h2,h3,h4⟩:=h;obtain ⟨A,c,hv,hc,hm,hsl,_⟩:=qBn (f:=EH.vals) (size:=7) EH.len h2 h1;refine ⟨A,c,hv,hc,hm,h3,fun hn=>?_⟩;obtain ⟨b,off,hA,hcs⟩:=hsl.2 hn;refine ⟨b,off,hA,fun i e he=>?_⟩;(have hi:i<hs.length:=by rw [h2,← h3];exact (List.getElem?_eq_some_iff.1 he).1);have hx:hs[i]?=some hs[i]:=List.getElem?_eq_getElem hi;have g:=h4 i _ e hx he;refine ⟨hs[i].A,hs[i].n,hs[i].c,fun j u hu=>?_,g.at_⟩;refine hcs i _ hx j u ?_;rw [g.1,EH.of_vals];exact hu
theorem qBs.evs (h:qBs w L (.slice A n c) n l):qGw w A n l:=by
 obtain ⟨A',c',hv,_,_,h1⟩:=h.at_
 cases hv
 exact h1
theorem qBs.snoc {k:Nat} {e:Ev} {v':Value} {A':Option Addr} {n' c':Nat} (h:qBs w L v k l) (hg:qFu w L (EH.of e A' n' c') e) (hgr:w.grownBy w1 v.ownBlock)
 (hO:∀ xs,w.ownsRow L 54 7 v k xs->w1.ownsRow L 54 7 v' (k+1) (xs++(e.cells A' n' c').toList)):qBs w1 L v' (k+1) (l++[e]):=by
 obtain ⟨hs,h1,h2,h3,h4⟩:=h;have hty:∀ q,v.ownBlock=some q->qBc w 54 q:=qAt h1;have k1:KB 61 w w1:=KB.grown hgr hty (by decide);have k2:KB 102 w w1:=KB.grown hgr hty (by decide);refine ⟨hs++[EH.of e A' n' c'],?_,by simp [h2],by simp [h3],fun i x y hx hy=>?_⟩
 . rw [List.flatMap_append]
   have:=hO _ h1;simpa [EH.of_vals] using this
 . by_cases hik:i<k
   . rw [List.getElem?_append_left (by omega)] at hx hy
     exact (h4 i x y hx hy).kb k1 k2
   . have hik':i=k:=by
      have:=(List.getElem?_eq_some_iff.1 hx).1;simp [h2] at this;omega
     subst hik';rw [List.getElem?_append_right (by omega)] at hx hy;simp only [h2,h3,Nat.sub_self,List.getElem?_cons_zero,Option.some.injEq] at hx hy;subst hx hy;exact hg.kb k1 k2
end
structure qAw (w:World) (L:Nat) (d:Doc) (h:DocH):Prop where
 regs:w.ownsRow L 45 7 (.slice h.ra h.rn h.rc) h.rn (d.regs.flatMap Reg.vals)
 rlen:d.regs.length=h.rn
 evs:qBs w L (.slice h.ea h.en h.ec) h.en d.evs
 coms:w.ownsRow L 95 8 (.slice h.ca h.cn h.cc) h.cn (d.coms.flatMap Com.vals)
 clen:d.coms.length=h.cn
theorem qAw.ext {w w1:World} {L:Nat} {d:Doc} {h:DocH} (o:qAw w L d h) (k:Ext w w1):qAw w1 L d h:=⟨qAh o.regs k,o.rlen,o.evs.ext k,qAh o.coms k,o.clen⟩
theorem qAw.kb {w w1:World} {L:Nat} {d:Doc} {h:DocH} (o:qAw w L d h) (k1:KB 45 w w1) (k2:KB 54 w w1) (k3:KB 61 w w1) (k4:KB 102 w w1) (k5:KB 95 w w1):qAw w1 L d h :=
 ⟨qDs o.regs k1,o.rlen,o.evs.kb k2 k3 k4,qDs o.coms k5,o.clen⟩
theorem qAw.put {w:World} {L:Nat} {d:Doc} {h:DocH} (o:qAw w L d h) {g:Nat} {cs:Array Value} (hB:Blk w g 27 cs) (cs':Array Value):qAw (putB w g 27 cs') L d h :=
 o.kb (KB.put hB (by decide)) (KB.put hB (by decide)) (KB.put hB (by decide)) (KB.put hB (by decide)) (KB.put hB (by decide))
theorem qAw.le {w:World} {L L':Nat} {d:Doc} {h:DocH} (o:qAw w L d h) (hl:L'<=L):qAw w L' d h:=⟨qOi o.regs hl,o.rlen,o.evs.le hl,qOi o.coms hl,o.clen⟩
theorem zDc {w:World} {b o:Nat} {r:Reg} (h:Cells Reg.vals w b o r):RegC w b o r:=⟨h 0 _ rfl,h 1 _ rfl,h 2 _ rfl,h 3 _ rfl,h 4 _ rfl,h 5 _ rfl,h 6 _ rfl⟩
theorem zBr {w:World} {b o:Nat} {r:Reg} (h:RegC w b o r):Cells Reg.vals w b o r:=by
 obtain ⟨h0,h1,h2,h3,h4,h5,h6⟩:=h;intro j u hu
 match j,hu with
 | 0,hu=>simp [Reg.vals] at hu;subst hu;exact h0
 | 1,hu=>simp [Reg.vals] at hu;subst hu;exact h1
 | 2,hu=>simp [Reg.vals] at hu;subst hu;exact h2
 | 3,hu=>simp [Reg.vals] at hu;subst hu;exact h3
 | 4,hu=>simp [Reg.vals] at hu;subst hu;exact h4
 | 5,hu=>simp [Reg.vals] at hu;subst hu;exact h5
 | 6,hu=>simp [Reg.vals] at hu;subst hu;exact h6
 | j+7,hu=>simp [Reg.vals] at hu
theorem qVx {α:Type} {f:α->List Value} {size:Nat} (hf:∀ x,(f x).length=size) {w:World} {base:Nat} {e:TypeId} {A:Option Addr} {c n:Nat} {l:List α} (hl:l.length=n)
 (h:w.ownsRow base e size (.slice A n c) n (l.flatMap f)):n<=c/\c<=maxLen/\Sl w size (Cells f) A n l:=by
 obtain ⟨A',c',hv,h1,h2,h3,_⟩:=qBn hf hl h
 cases hv
 exact ⟨h1,h2,h3⟩
theorem qAw.at_ {w:World} {L:Nat} {d:Doc} {h:DocH} (o:qAw w L d h):qCx w d h :=
 ⟨Sl.change (qVx (f:=Reg.vals) (fun _=>rfl) o.rlen o.regs).2.2 fun _ _ _=>zDc,o.evs.evs,(qVx (f:=Com.vals) (fun _=>rfl) o.clen o.coms).2.2⟩
theorem qNx:(Tryz.prog.info? 45).map (fun i=>(i.zero,i.size,i.bytes))=some (some (.agg #[.string ⟨#[]⟩,.int .i64 0,.int .i64 0,.int .i64 0,.int .i64 0,.int .u8 0,.bool false]),7,56):=by kernel_rfl
theorem qKj:(Tryz.prog.info? 95).map (fun i=>(i.zero,i.size,i.bytes))=some (some (.agg #[.int .i64 0,.int .i64 0,.int .i64 0,.int .i64 0,.string ⟨#[]⟩,.string ⟨#[]⟩,.bool false,.bool false]),8,72):=by kernel_rfl
theorem qNv:(Tryz.prog.info? 54).map (fun i=>(i.zero,i.size,i.bytes))=some (some (.agg #[.int .i64 0,.int .i64 0,.int .i64 0,.string ⟨#[]⟩,.int .u8 0,.string ⟨#[]⟩,.slice none 0 0]),7,88):=by kernel_rfl
theorem qSz:∀ (r:Reg),∀ u∈r.vals,u.oneCell'=true:=by intro r u hu;simp [Reg.vals] at hu;rcases hu with rfl | rfl | rfl | rfl | rfl | rfl | rfl<;>rfl
theorem qMp:∀ (r:Com),∀ u∈r.vals,u.oneCell'=true:=by intro r u hu;simp [Com.vals] at hu;rcases hu with rfl | rfl | rfl | rfl | rfl | rfl | rfl | rfl<;>rfl
theorem qXv:∀ (r:EH),∀ u∈r.vals,u.oneCell'=true:=by intro r u hu;simp [EH.vals] at hu;rcases hu with rfl | rfl | rfl | rfl | rfl | rfl | rfl<;>rfl
def qRf (l:List Reg) (n:Nat) (w:World) (e:Ending) (w':World):Prop :=
 ∃ A c,e = .returned (.slice A n c)/\w'.ownsRow w.heap.size 45 7 (.slice A n c) n (l.flatMap Reg.vals)/\Ext w w'
theorem qRg (A:Option Addr) (n c:Nat) (l:List Reg) (w:World) (hl:Sl w 7 (Cells Reg.vals) A n l) (hn:n*56<=140737488355328) :
 Calls Tryz.prog 119 #[.slice A n c] w (qRf l n w):=by
 (have hq:=fun w=>Lib.run_eql_slice_nil (P:=Tryz.prog) w 23 45 A n c 0 0 Tryz.underlying23);have HL:=gH hl;clear hl
 cases A with
 | none =>
  have hn0:n=0:=by
   rcases Nat.eq_zero_or_pos n with h | h
   . exact h
   . obtain ⟨_,_,h,_⟩:=HL.out.2 h;cases h
  subst hn0;have hs0:l=[]:=List.eq_nil_of_length_eq_zero HL.out.len;subst hs0;simp only [Option.isNone_none] at hq;go_enter Tryz.func119,Tryz.ntmps119;go_wp2_with fail;go_ret;exact ⟨none,0,rfl,⟨rfl,.inl ⟨rfl,rfl⟩⟩,Ext.refl _⟩
 | some ad =>
  simp only [Option.isNone_some] at hq;go_enter Tryz.func119,Tryz.ntmps119;go_wp2_with (at_builtin;refine qAx rfl (.tmp 5) (.tmp 6) 23 rfl qNx Tryz.underlying23 rfl (by decide) (by exact qKo w _ _ w.heap.size (Nat.le_refl _)) (by exact rfl) (by exact rfl) (by exact Sl.ext (Cells.stays _) HL.out ((Ext.refl w).alloc _)) (fun _=>rfl) qSz (by omega) (by simp [maxLen];omega) (by simp) ?_;intro v' w' hown hgr hnil);go_ret;simp only [Nat.zero_add,List.nil_append] at hown;obtain ⟨A',c',rfl,hc,_,hsl,hfr⟩:=qBn (f:=Reg.vals) (size:=7) (fun _=>rfl) HL.out.len hown;exact ⟨A',c',rfl,hown,((Ext.refl w).alloc _).grown hgr (fun q hq=>by simp [Value.ownBlock] at hq;omega)⟩
def qRd (l:List Com) (n:Nat) (w:World) (e:Ending) (w':World):Prop :=
 ∃ A c,e = .returned (.slice A n c)/\w'.ownsRow w.heap.size 95 8 (.slice A n c) n (l.flatMap Com.vals)/\Ext w w'
theorem qRe (A:Option Addr) (n c:Nat) (l:List Com) (w:World) (hl:Sl w 8 (Cells Com.vals) A n l) (hn:n*72<=140737488355328) :
 Calls Tryz.prog 120 #[.slice A n c] w (qRd l n w):=by
 (have hq:=fun w=>Lib.run_eql_slice_nil (P:=Tryz.prog) w 25 95 A n c 0 0 Tryz.underlying25);have HL:=gH hl;clear hl
 cases A with
 | none =>
  have hn0:n=0:=by
   rcases Nat.eq_zero_or_pos n with h | h
   . exact h
   . obtain ⟨_,_,h,_⟩:=HL.out.2 h;cases h
  subst hn0;have hs0:l=[]:=List.eq_nil_of_length_eq_zero HL.out.len;subst hs0;simp only [Option.isNone_none] at hq;go_enter Tryz.func120,Tryz.ntmps120;go_wp2_with fail;go_ret;exact ⟨none,0,rfl,⟨rfl,.inl ⟨rfl,rfl⟩⟩,Ext.refl _⟩
 | some ad =>
  simp only [Option.isNone_some] at hq;go_enter Tryz.func120,Tryz.ntmps120;go_wp2_with (at_builtin;refine qAx rfl (.tmp 5) (.tmp 6) 25 rfl qKj Tryz.underlying25 rfl (by decide) (by exact qKo w _ _ w.heap.size (Nat.le_refl _)) (by exact rfl) (by exact rfl) (by exact Sl.ext (Cells.stays _) HL.out ((Ext.refl w).alloc _)) (fun _=>rfl) qMp (by omega) (by simp [maxLen];omega) (by simp) ?_;intro v' w' hown hgr hnil);go_ret;simp only [Nat.zero_add,List.nil_append] at hown;obtain ⟨A',c',rfl,hc,_,hsl,hfr⟩:=qBn (f:=Com.vals) (size:=8) (fun _=>rfl) HL.out.len hown;exact ⟨A',c',rfl,hown,((Ext.refl w).alloc _).grown hgr (fun q hq=>by simp [Value.ownBlock] at hq;omega)⟩
def qTv (l:List EH) (n:Nat) (w:World) (e:Ending) (w':World):Prop :=
 ∃ A c,e = .returned (.slice A n c)/\w'.ownsRow w.heap.size 54 7 (.slice A n c) n (l.flatMap EH.vals)/\Ext w w'
theorem qTw (A:Option Addr) (n c:Nat) (l:List EH) (w:World) (hl:Sl w 7 (Cells EH.vals) A n l) (hn:n*88<=140737488355328) :
 Calls Tryz.prog 121 #[.slice A n c] w (qTv l n w):=by
 (have hq:=fun w=>Lib.run_eql_slice_nil (P:=Tryz.prog) w 24 54 A n c 0 0 Tryz.underlying24);have HL:=gH hl;clear hl
 cases A with
 | none =>
  have hn0:n=0:=by
   rcases Nat.eq_zero_or_pos n with h | h
   . exact h
   . obtain ⟨_,_,h,_⟩:=HL.out.2 h;cases h
  subst hn0;have hs0:l=[]:=List.eq_nil_of_length_eq_zero HL.out.len;subst hs0;simp only [Option.isNone_none] at hq;go_enter Tryz.func121,Tryz.ntmps121;go_wp2_with fail;go_ret;exact ⟨none,0,rfl,⟨rfl,.inl ⟨rfl,rfl⟩⟩,Ext.refl _⟩
 | some ad =>
  simp only [Option.isNone_some] at hq;go_enter Tryz.func121,Tryz.ntmps121;go_wp2_with (at_builtin;refine qAx rfl (.tmp 5) (.tmp 6) 24 rfl qNv Tryz.underlying24 rfl (by decide) (by exact qKo w _ _ w.heap.size (Nat.le_refl _)) (by exact rfl) (by exact rfl) (by exact Sl.ext (Cells.stays _) HL.out ((Ext.refl w).alloc _)) (fun _=>rfl) qXv (by omega) (by simp [maxLen];omega) (by simp) ?_;intro v' w' hown hgr hnil);go_ret;simp only [Nat.zero_add,List.nil_append] at hown;obtain ⟨A',c',rfl,hc,_,hsl,hfr⟩:=qBn (f:=EH.vals) (size:=7) (fun _=>rfl) HL.out.len hown;exact ⟨A',c',rfl,hown,((Ext.refl w).alloc _).grown hgr (fun q hq=>by simp [Value.ownBlock] at hq;omega)⟩
theorem qFw.vals {w:World} {A:Option Addr} {n:Nat} {l:List Reg} (h:qFw w A n l):Sl w 7 (Cells Reg.vals) A n l:=Sl.change h fun _ _ _=>zBr
theorem zFv {w:World} {A:Option Addr} {n:Nat} {l:List Ev} (h:qGw w A n l):∃ hs:List EH,Sl w 7 (Cells EH.vals) A n hs/\∀ (i:Nat) (x:EH) (e:Ev),hs[i]?=some x->l[i]?=some e->x=EH.of e x.A x.n x.c/\EvAt w e x.A x.n x.c:=by
 have hall:∀ i:Nat,∃ x:EH,i<n->(∀ b off,A=some ⟨b,off,none⟩->∀ j u,x.vals[j]?=some u->w.cell? ⟨b,off+i*7+j,none⟩=some u)/\∀ e,l[i]?=some e->x=EH.of e x.A x.n x.c/\EvAt w e x.A x.n x.c:=by
  intro i
  by_cases hi:i<n
  . obtain ⟨b,off,e,hA,he,A',n',c',h1,h2⟩:=h.at_ hi
    refine ⟨EH.of e A' n' c',fun _=>⟨fun b' off' hA'=>?_,fun e' he'=>?_⟩⟩
    . rw [hA] at hA'
      cases hA'
      exact h1
    . rw [he] at he'
      cases he'
      exact ⟨rfl,h2⟩
  . exact ⟨⟨0,0,0,⟨#[]⟩,0,⟨#[]⟩,none,0,0⟩,fun h=>absurd h hi⟩
 obtain ⟨f,hf⟩:=Classical.axiomOfChoice hall
 have hat:∀ (i:Nat) (x:EH),((List.range n).map f)[i]?=some x->i<n/\x=f i:=fun i x hx=>by
  have hi:i<n:=by
   have:=(List.getElem?_eq_some_iff.1 hx).1;simpa using this
  rw [List.getElem?_map,List.getElem?_range hi] at hx;exact ⟨hi,(Option.some.inj hx).symm⟩
 refine ⟨(List.range n).map f,⟨by simp,fun hn=>?_⟩,fun i x e hx he=>?_⟩
 . obtain ⟨b,off,hA,_⟩:=h.2 hn
   refine ⟨b,off,hA,fun i x hx j u hu=>?_⟩;obtain ⟨hi,rfl⟩:=hat i x hx;exact (hf i hi).1 b off hA j u hu
 . obtain ⟨hi,rfl⟩:=hat i x hx
   exact (hf i hi).2 e he
def Doc.cells3 (d:Doc) (r e c:Value):Array Value:=#[.string d.title,.string d.lang,.int .u8 d.rate,.bool d.drop,.int .i64 d.last,r,e,c]
def qAl:Array Value:=#[.string ⟨#[]⟩,.string ⟨#[]⟩,.int .u8 0,.bool false,.int .i64 0,.slice none 0 0,.slice none 0 0,.slice none 0 0]
def qLe (d:Doc) (h:DocH):List Value->Array Value
 | [u0,_,_]=>d.cells3 u0 (.slice h.ea h.en h.ec) (.slice h.ca h.cn h.cc)
 | [u0,u1,_,_]=>d.cells3 u0 (.slice h.ea h.en h.ec) u1
 | _=>d.cells h
structure ClJ (d:Doc) (h:DocH) (w W0:World) (us:List Value) (w':World):Prop where
 ext:Ext w w'
 blk:Blk w' w.heap.size 27 (qLe d h us)
 zero:Blk w' (w.heap.size+1) 27 qAl
 regs:∀ u,us[0]?=some u->∃ A c,u = .slice A h.rn c/\w'.ownsRow w.heap.size 45 7 u h.rn (d.regs.flatMap Reg.vals)
 coms:∀ u,us[1]?=some u->∃ A c,u = .slice A h.cn c/\w'.ownsRow w.heap.size 95 8 u h.cn (d.coms.flatMap Com.vals)
theorem zEx (d:Doc) (h:DocH) (u0 u1:Value):qLe d h [u0,u1]=d.cells h:=rfl
theorem ClJ.call0 {d:Doc} {h:DocH} {w W0 w' w2:World} (j:ClJ d h w W0 [] w') {A:Option Addr} {c:Nat} (hx:Ext w' w2) (ho:w2.ownsRow w'.heap.size 45 7 (.slice A h.rn c) h.rn (d.regs.flatMap Reg.vals)):ClJ d h w W0 ([]++[.slice A h.rn c]) w2 :=
 ⟨j.ext.trans hx,j.blk.ext hx,j.zero.ext hx,fun u hu=>by simp at hu;subst hu;exact ⟨A,c,rfl,qOi ho j.ext.size⟩,fun u hu=>by simp at hu⟩
theorem ClJ.call1 {d:Doc} {h:DocH} {w W0 w' w2:World} {u0:Value} (j:ClJ d h w W0 [u0] w') {A:Option Addr} {c:Nat} (hx:Ext w' w2) (ho:w2.ownsRow w'.heap.size 95 8 (.slice A h.cn c) h.cn (d.coms.flatMap Com.vals)):ClJ d h w W0 ([u0]++[.slice A h.cn c]) w2 :=
 ⟨j.ext.trans hx,j.blk.ext hx,j.zero.ext hx,fun u hu=>by obtain ⟨A',c',h1,h2⟩:=j.regs u (by simpa using hu);exact ⟨A',c',h1,qAh h2 hx⟩,fun u hu=>by simp at hu;subst hu;exact ⟨A,c,rfl,qOi ho j.ext.size⟩⟩
theorem ClJ.put {d:Doc} {h:DocH} {w W0 w':World} {us:List Value} (j:ClJ d h w W0 us w') (v:Value) (hv:us.length=2\/us.length=3):ClJ d h w W0 (us++[v]) (putB w' w.heap.size 27 (qLe d h (us++[v]))):=by
 refine ⟨j.ext.put (Nat.le_refl _) _ _,j.blk.put _,j.zero.put_other (by omega) _,fun u hu=>?_,fun u hu=>?_⟩
 . obtain ⟨A',c',h1,h2⟩:=j.regs u (by rw [← hu,List.getElem?_append_left (by omega)])
   exact ⟨A',c',h1,qDs h2 (KB.put j.blk (by decide))⟩
 . obtain ⟨A',c',h1,h2⟩:=j.coms u (by rw [← hu,List.getElem?_append_left (by omega)])
   exact ⟨A',c',h1,qDs h2 (KB.put j.blk (by decide))⟩
structure CeJ (e:Ev) (g k n':Nat) (w4:World) (us:List Value) (w':World):Prop where
 nil:us=[]->Ext w4 w'
 one:∀ u0,us=[u0]->∃ A2 c2,u0 = .agg (e.cells A2 n' c2)/\n'<=c2/\qBu w' w4.heap.size A2 n' e.rows/\Ext w4 w'
 two:∀ u0 u1,us=[u0,u1]->∃ A2 c2 w5,u0 = .agg (e.cells A2 n' c2)/\n'<=c2/\qBu w5 w4.heap.size A2 n' e.rows/\Ext w4 w5/\w'=w5.setCells g (k*7) (e.cells A2 n' c2).toList
structure qZh (d:Doc) (h:DocH) (w:World) (v0:Value) (v1:Value) (ea:Option Addr) (ec:Nat) (i:Value) (wr:World):Prop where
 ext:Ext w wr
 blk:Blk wr w.heap.size 27 (d.cells3 v0 (.slice ea h.en ec) v1)
 zero:Blk wr (w.heap.size+1) 27 qAl
 regs:wr.ownsRow w.heap.size 45 7 v0 h.rn (d.regs.flatMap Reg.vals)
 coms:wr.ownsRow w.heap.size 95 8 v1 h.cn (d.coms.flatMap Com.vals)
 more:∃ (k:Nat) (hs:List EH),k<=h.en/\i = .int .i64 k/\hs.length=h.en/\wr.ownsRow w.heap.size 54 7 (.slice ea h.en ec) h.en (hs.flatMap EH.vals) /\
  ∀ (j:Nat) (x:EH) (e:Ev),hs[j]?=some x->d.evs[j]?=some e->(j<k->qFu wr w.heap.size x e)/\(k<=j->∃ A n c,x=EH.of e A n c/\EvAt w e A n c)
theorem qZh.step {d:Doc} {h:DocH} {w wr w4 w5:World} {v0 v1:Value} {g ec k n' c2:Nat} {A2:Option Addr} {hs:List EH} {e:Ev} (hgw:w.heap.size<=g) (h1:Ext w wr) (h2:Blk wr w.heap.size 27 (d.cells3 v0 (.slice (some ⟨g,0,none⟩) h.en ec) v1))
 (h3:Blk wr (w.heap.size+1) 27 qAl) (h4:wr.ownsRow w.heap.size 45 7 v0 h.rn (d.regs.flatMap Reg.vals)) (h5:wr.ownsRow w.heap.size 95 8 v1 h.cn (d.coms.flatMap Com.vals))
 (hk:k<h.en) (hl:hs.length=h.en) (h6:wr.ownsRow w.heap.size 54 7 (.slice (some ⟨g,0,none⟩) h.en ec) h.en (hs.flatMap EH.vals))
 (h7:∀ (j:Nat) (x:EH) (e:Ev),hs[j]?=some x->d.evs[j]?=some e->(j<k->qFu wr w.heap.size x e)/\(k<=j->∃ A n c,x=EH.of e A n c/\EvAt w e A n c))
 (he:d.evs[k]?=some e) (h8:Ext wr w5) (hw4:wr.heap.size<=w4.heap.size) (hnc:n'<=c2) (hn24:n' * 24<=140737488355328) (hf:qBu w5 w4.heap.size A2 n' e.rows) :
 qZh d h w v0 v1 (some ⟨g,0,none⟩) ec (.int .i64 ((k:Int)+1)) (w5.setCells g (k*7) (e.cells A2 n' c2).toList):=by
 have hty:qBc w5 54 g:=(qAt h6 g rfl).ext h8;(have kb:∀ {T:TypeId},T≠54->KB T w5 (w5.setCells g (k*7) (e.cells A2 n' c2).toList):=fun hne=>KB.sets hne _ _ _ hty);(have hB:∀ {b:Nat} {cs:Array Value},Blk wr b 27 cs->Blk (w5.setCells g (k*7) (e.cells A2 n' c2).toList) b 27 cs:=fun hb=>kb (by decide) _ _ (hb.ext h8));refine ⟨qMs hgw _ _ _ (h1.trans h8),hB h2,hB h3,qDs (qAh h4 h8) (kb (by decide)),qDs (qAh h5 h8) (kb (by decide)),k+1,hs.set k (EH.of e A2 n' c2),by omega,by simp,by simpa using hl,?_,fun j x y hx hy=>?_⟩
 . rw [← qHv EH.len hs k (EH.of e A2 n' c2) (by omega)]
   exact qMu _ _ _ _ (qAh h6 h8)
 . by_cases hkj:k=j
   . subst hkj
     rw [List.getElem?_set_self (by omega)] at hx
     cases hx
     rw [he] at hy
     cases hy
     exact ⟨fun _=>qFu.kb (w:=w5) ⟨rfl,hnc,hn24,hf.le (by have:=h1.size;omega)⟩ (kb (by decide)) (kb (by decide)),fun hh=>by omega⟩
   . rw [List.getElem?_set_ne hkj] at hx
     obtain ⟨a1,a2⟩:=h7 j x y hx hy;exact ⟨fun hh=>((a1 (by omega)).ext h8).kb (kb (by decide)) (kb (by decide)),fun hh=>a2 (by omega)⟩
def qJh (d:Doc) (w:World) (en:Ending) (w':World):Prop:=∃ h',en = .returned (.agg (d.cells h'))/\qAw w' w.heap.size d h'/\Ext w w'
theorem EH.cells_at {hs:List EH} {n g c L:Nat} {w:World} (h:w.ownsRow L 54 7 (.slice (some ⟨g,0,none⟩) n c) n (hs.flatMap EH.vals)) {k:Nat} {x:EH} (hx:hs[k]?=some x) (hk:k<n) {j:Nat} (hj:j<7):w.cell? ⟨g,k*7+j,none⟩=x.vals[j]?:=by
 rw [h.cellAt (k*7+j) (by omega),qDr EH.vals 7 EH.len hs k x j hx hj]
theorem qAb:(Tryz.prog.info? 27).map (·.size)=some 8:=by kernel_rfl
theorem qGf (d:Doc) (h:DocH) (w:World) (hat:qCx w d h) (hr:h.rn*56<=140737488355328) (hen:h.en*88<=140737488355328) (hcn:h.cn*72<=140737488355328) :
 Calls Tryz.prog 37 #[.agg (d.cells h)] w (qJh d w):=by
 have HX:=gH (((Ext.refl w).alloc (.cells (d.cells h) 27)).alloc (.cells qAl 27));have HB:=gH ((Blk.new w 27 (d.cells h)).alloc (.cells qAl 27));have HZ:=gH (Blk.new' (w:=w.alloc (.cells (d.cells h) 27)) (g:=w.heap.size+1) (t:=27) (cs:=qAl) (by simp));have HAt:=gH hat;have HRl:=gH hat.regs.len;have HCl:=gH hat.coms.len;have HEl:=gH hat.evs.len;clear hat;unfold Doc.cells qAl at HX HB HZ;unfold Doc.cells;go_enter Tryz.func37,Tryz.ntmps37;go_wp2_with fail;refine qAr [some 5,some 6,some 7,some 8,some 9,some 10,some 11,none,some 12,none] [[],[0],[1],[],[3],[4,2],[0,1,2,3,4],[6,2,5,0,1,2,3,4],[0,1,2,3,4,5,6,7],[8,5,7,0,1,2,3,4,5,6,7]] [2,5,7,9] [.pointer (some ⟨w.heap.size,5,none⟩),.slice h.ra h.rn h.rc,undef,.pointer (some ⟨w.heap.size,7,none⟩),.slice h.ca h.cn h.cc,undef,.pointer (some ⟨w.heap.size,5,none⟩),undef,.pointer (some ⟨w.heap.size,7,none⟩),undef] (ClJ d h w w) (by kernel_rfl) (by kernel_rfl) (by kernel_rfl) (by kernel_rfl) (by kernel_rfl) (by kernel_rfl) (by kernel_rfl) (by decide) ?_ ?_ ?_ ?_
 . exact ⟨HX.out.drew,HB.out.drew,HZ.out.drew,fun u hu=>by simp at hu,fun u hu=>by simp at hu⟩
 . intro i o ho hc a w' us K' hJ hF hlim hk
   match i,ho with
   | 0,ho =>
    simp only [gA,gB,gC,gD] at ho;subst ho;have e1:=hF.old 1 (.pointer (some ⟨w.heap.size,0,none⟩)) rfl rfl;simp only [Act.eval] at e1;clear hF hlim hJ;go_simp;exact hk
   | 1,ho =>
    simp only [gA,gB,gC,gD] at ho;subst ho;have e5:=hF.pure 0 5 (.pointer (some ⟨w.heap.size,5,none⟩)) rfl rfl rfl rfl
    have hcl:w'.cell? ⟨w.heap.size,5,none⟩=some (.slice h.ra h.rn h.rc):=by
     have hb:=hJ.blk;have hl0:=hlim 0 2 rfl rfl
     match us,hl0,hb with
     | [],_,hb=>exact hb.cell 5
     | [_],hl0,hb=>first | exact hb.cell 5 | exact absurd hl0 (by simp)
     | _ :: _ :: us,hl0,_=>exact absurd hl0 (by simp)
    have hlim:True:=trivial;simp only [Act.eval] at e5;clear hF hlim hJ;go_simp;exact hk
   | 2,ho=>simp at hc
   | 3,ho =>
    simp only [gA,gB,gC,gD] at ho;subst ho;have e1:=hF.old 1 (.pointer (some ⟨w.heap.size,0,none⟩)) rfl rfl;simp only [Act.eval] at e1;clear hF hlim hJ;go_simp;exact hk
   | 4,ho =>
    simp only [gA,gB,gC,gD] at ho;subst ho;have e8:=hF.pure 3 8 (.pointer (some ⟨w.heap.size,7,none⟩)) rfl rfl rfl rfl
    have hcl:w'.cell? ⟨w.heap.size,7,none⟩=some (.slice h.ca h.cn h.cc):=by
     have hb:=hJ.blk;have hl0:=hlim 1 5 rfl rfl
     match us,hl0,hb with
     | [],_,hb=>exact hb.cell 7
     | [_],hl0,hb=>first | exact hb.cell 7 | exact absurd hl0 (by simp)
     | _ :: _ :: us,hl0,_=>exact absurd hl0 (by simp)
    have hlim:True:=trivial;simp only [Act.eval] at e8;clear hF hlim hJ;go_simp;exact hk
   | 5,ho=>simp at hc
   | 6,ho =>
    simp only [gA,gB,gC,gD] at ho;subst ho;have e1:=hF.old 1 (.pointer (some ⟨w.heap.size,0,none⟩)) rfl rfl;simp only [Act.eval] at e1;clear hF hlim hJ;go_simp;exact hk
   | 7,ho=>simp at hc
   | 8,ho =>
    simp only [gA,gB,gC,gD] at ho;subst ho;have e1:=hF.old 1 (.pointer (some ⟨w.heap.size,0,none⟩)) rfl rfl;simp only [Act.eval] at e1;clear hF hlim hJ;go_simp;exact hk
   | 9,ho=>simp at hc
   | i+10,ho=>simp at ho
 . intro p c' o hp ho a w' us K' hl hJ hF hk
   match p,hp with
   | 0,hp =>
    (obtain rfl:2=c':=by simpa using hp);simp only [gA,gB,gC,gD] at ho;subst ho;obtain rfl:us=[]:=List.eq_nil_of_length_eq_zero hl;have e6:=hF.pure 1 6 (.slice h.ra h.rn h.rc) rfl rfl rfl rfl;refine qHi rfl e6 Tryz.call119 (qRg h.ra h.rn h.rc d.regs w' (qFw.vals (HAt.out.regs.ext hJ.ext)) hr) ?_;rintro en w4 ⟨A4,c4,rfl,ho4,hx4⟩;exact ⟨_,rfl,hk _ _ (hJ.call0 hx4 ho4)⟩
   | 1,hp =>
    (obtain rfl:5=c':=by simpa using hp);simp only [gA,gB,gC,gD] at ho;subst ho;obtain ⟨u0,rfl⟩:=qBv hl;have e9:=hF.pure 4 9 (.slice h.ca h.cn h.cc) rfl rfl rfl rfl;refine qHi rfl e9 Tryz.call120 (qRe h.ca h.cn h.cc d.coms w' (HAt.out.coms.ext hJ.ext) hcn) ?_;rintro en w4 ⟨A4,c4,rfl,ho4,hx4⟩;exact ⟨_,rfl,hk _ _ (hJ.call1 hx4 ho4)⟩
   | 2,hp =>
    (obtain rfl:7=c':=by simpa using hp);simp only [gA,gB,gC,gD] at ho;subst ho;obtain ⟨u0,u1,rfl⟩:=qCm hl;obtain ⟨A9,c9,hu9,_⟩:=hJ.regs u0 rfl;have e11:=hF.pure 6 11 (.pointer (some ⟨w.heap.size,5,none⟩)) rfl rfl rfl rfl;have e7:=hF.link 0 2 7 _ rfl rfl rfl rfl;subst hu9;have hput:=hJ.put undef (.inl rfl);have hb:=hJ.blk;rw [zEx] at hb;have hcl:=hb.cell 5;have hfr:=hb.frozen 5;have hset:=qAd hb 5 (.slice A9 h.rn c9);unfold Doc.cells at hcl hset;simp at hset;have HK:=gH (hk undef _ hput);unfold qLe Doc.cells3 at HK;clear hput hb hk hF hJ;simp only [Act.eval] at e11 e7;go_simp;exact HK.out
   | 3,hp =>
    (obtain rfl:9=c':=by simpa using hp);simp only [gA,gB,gC,gD] at ho;subst ho;obtain ⟨u0,u1,u2,rfl⟩:=qCn hl;obtain ⟨A9,c9,hu9,_⟩:=hJ.coms u1 rfl;have e12:=hF.pure 8 12 (.pointer (some ⟨w.heap.size,7,none⟩)) rfl rfl rfl rfl;have e10:=hF.link 1 5 10 _ rfl rfl rfl rfl;subst hu9;have hput:=hJ.put undef (.inr rfl);have hb:=hJ.blk;unfold qLe at hb;have hcl:=hb.cell 7;have hfr:=hb.frozen 7;have hset:=qAd hb 7 (.slice A9 h.cn c9);unfold Doc.cells3 at hcl hset;simp at hset;have HK:=gH (hk undef _ hput);unfold qLe Doc.cells3 at HK;clear hput hb hk hF hJ;simp only [Act.eval] at e12 e10;go_simp;exact HK.out
   | p+4,hp=>simp at hp
 intro us W1 hl hJ;obtain ⟨u0,u1,u2,u3,rfl⟩:=qEm hl;rename_i hK;refine hK _ _ ?_;clear hK;generalize hL:qCd _ _ _ _=L;obtain rfl:L=[(5,.pointer (some ⟨w.heap.size,5,none⟩)),(6,.slice h.ra h.rn h.rc),(7,u0),(8,.pointer (some ⟨w.heap.size,7,none⟩)),(9,.slice h.ca h.cn h.cc),(10,u1),(11,.pointer (some ⟨w.heap.size,5,none⟩)),(12,.pointer (some ⟨w.heap.size,7,none⟩))]:=hL.symm.trans (by kernel_rfl);clear hL hl;simp only [Act.put,List.foldl_cons,List.foldl_nil,List.setIfInBounds_toArray,List.set_cons_zero,List.set_cons_succ];obtain ⟨A0,c0,hu0,ho0⟩:=hJ.regs u0 rfl;obtain ⟨A1,c1,hu1,ho1⟩:=hJ.coms u1 rfl;subst hu0 hu1;have hx1:=hJ.ext;have hb1:Blk W1 w.heap.size 27 (d.cells3 (.slice A0 h.rn c0) (.slice h.ea h.en h.ec) (.slice A1 h.cn c1)):=hJ.blk;have hz1:=hJ.zero;clear hJ;obtain ⟨hs0,hsl0,hgd0⟩:=zFv HAt.out.evs;have HHs:=gH hsl0;have HGd:=gH hgd0;clear hsl0 hgd0;have HX1:=gH hx1;have HB1:=gH hb1;have HZ1:=gH hz1;have HR1:=gH ho0;have HC1:=gH ho1;clear hx1 hb1 hz1 ho0 ho1;(have hc1:=fun o=>HB1.out.cell o);unfold Doc.cells3 at hc1;go_wp2_with fail;refine (qTw h.ea h.en h.ec hs0 _ (Sl.ext (Cells.stays _) HHs.out HX1.out) hen).mono ?_;rintro en w2 ⟨ea,ec,rfl,hown2,hx2⟩;have HX2:=gH (HX1.out.trans hx2);have HB2:=gH (HB1.out.ext hx2);have HZ2:=gH (HZ1.out.ext hx2);have HR2:=gH (qAh HR1.out hx2);have HC2:=gH (qAh HC1.out hx2);have HO2:=gH (qOi hown2 HX1.out.size);clear hx2 hown2 hc1
 (have hc2:=fun o=>HB2.out.cell o);(have hf2:=fun o=>HB2.out.frozen o);(have hs2:=fun u=>qAd HB2.out 6 u);have HB3:=gH (HB2.out.put (d.cells3 (.slice A0 h.rn c0) (.slice ea h.en ec) (.slice A1 h.cn c1)));unfold Doc.cells3 at hc2 hs2;simp at hs2;(have hc3:=fun o=>HB3.out.cell o);unfold Doc.cells3 at hc3;go_wp2_with fail;clear hc2 hf2 hs2 hc3
 go_loopw [20] (fun i wr=>qZh d h w (.slice A0 h.rn c0) (.slice A1 h.cn c1) ea ec i wr) (fun i _=>h.en-(intOf i).toNat)
 case atStart =>
  refine ⟨HX2.out.put (Nat.le_refl _) _ _,HB3.out,HZ2.out.put_other (by omega) _,qDs HR2.out (KB.put HB2.out (by decide)),qDs HC2.out (KB.put HB2.out (by decide)),0,hs0,Nat.zero_le _,rfl,HHs.out.len,qDs HO2.out (KB.put HB2.out (by decide)),fun j x e hx he=>⟨fun hh=>by omega,fun _=>?_⟩⟩;have:=HGd.out j x e hx he;exact ⟨_,_,_,this.1,this.2⟩
 case round =>
  obtain ⟨hx,hb,hz,hor,hoc,k,hs,hk,rfl,hsl,hoe,hall⟩:=hrel;have HXr:=gH hx;have HBr:=gH hb;have HZr:=gH hz;have HRr:=gH hor;have HCr:=gH hoc;have HOr:=gH hoe;have HAl:=gH hall;have HSl:=gH hsl;clear hx hb hz hor hoc hsl hoe hall;(have hcr:=fun o=>HBr.out.cell o);unfold Doc.cells3 at hcr
  by_cases hlt:k<h.en
  . obtain ⟨g,cp,hv,hgb,hglt⟩:=qBt HOr.out (by omega)
    (have hA1:ea=some ⟨g,0,none⟩:=by injection hv);subst hA1;obtain ⟨x,hxx⟩:∃ x,hs[k]?=some x:=⟨_,List.getElem?_eq_getElem (by rw [HSl.out];exact hlt)⟩;obtain ⟨e,hee⟩:∃ e,d.evs[k]?=some e:=⟨_,List.getElem?_eq_getElem (by rw [HEl.out];exact hlt)⟩;obtain ⟨A',n',c',rfl,hev⟩:=(HAl.out k x e hxx hee).2 (Nat.le_refl _);have HCk:=gH (fun (j:Nat) (hj:j<7)=>EH.cells_at HOr.out hxx hlt (j:=j) hj);have HEe:=gH hee;have HEv:=gH hev;have hn24:=hev.2.2;(have c0:wr.cell? ⟨g,k*7,none⟩=some (.int .i64 e.id):=by have:=HCk.out 0 (by omega);simpa [EH.vals,EH.of] using this);have c1':wr.cell? ⟨g,k*7+1,none⟩=some (.int .i64 e.inn):=HCk.out 1 (by omega);have c2':wr.cell? ⟨g,k*7+2,none⟩=some (.int .i64 e.out):=HCk.out 2 (by omega);have c3':wr.cell? ⟨g,k*7+3,none⟩=some (.string e.region):=HCk.out 3 (by omega);have c4':wr.cell? ⟨g,k*7+4,none⟩=some (.int .u8 e.kind):=HCk.out 4 (by omega);have c5':wr.cell? ⟨g,k*7+5,none⟩=some (.string e.speaker):=HCk.out 5 (by omega);have c6':wr.cell? ⟨g,k*7+6,none⟩=some (.slice A' n' c'):=HCk.out 6 (by omega);clear hxx hee hev;go_wp2_with fail;clear c0 c1' c2' c3' c4' c5' c6' hcr;have HB4:=gH (HBr.out.alloc (.cells #[.int .i64 e.id,.int .i64 e.inn,.int .i64 e.out,.string e.region,.int .u8 e.kind,.string e.speaker,.slice A' n' c'] 54))
    have HE4:=gH (Blk.new wr 54 #[.int .i64 e.id,.int .i64 e.inn,.int .i64 e.out,.string e.region,.int .u8 e.kind,.string e.speaker,.slice A' n' c']);have HX4:=gH ((Ext.refl wr).alloc (.cells #[.int .i64 e.id,.int .i64 e.inn,.int .i64 e.out,.string e.region,.int .u8 e.kind,.string e.speaker,.slice A' n' c'] 54));have hsz4:=HX4.out.size;generalize hw4:wr.alloc (.cells #[.int .i64 e.id,.int .i64 e.inn,.int .i64 e.out,.string e.region,.int .u8 e.kind,.string e.speaker,.slice A' n' c'] 54)=w4 at *;refine qAr [some 25,some 26,some 27,some 28,some 29,some 30,none] [[],[0],[],[],[3],[1,2,0,1,2,3,4],[5,4,4,0,1,2,3,4]] [4,6] [.pointer (some ⟨w.heap.size,6,none⟩),.slice (some ⟨g,0,none⟩) h.en ec,.int .i64 (k:Int),.agg #[.int .i64 e.id,.int .i64 e.inn,.int .i64 e.out,.string e.region,.int .u8 e.kind,.string e.speaker,.slice A' n' c'],undef,.pointer (some ⟨g,k * 7,none⟩),undef] (CeJ e g k n' w4) (by kernel_rfl) (by kernel_rfl) (by kernel_rfl) (by kernel_rfl) (by kernel_rfl) (by kernel_rfl) (by kernel_rfl) (by decide) ?_ ?_ ?_ ?_
    . exact ⟨fun _=>(Ext.refl w4).drew,fun u hu=>by simp at hu,fun u v hu=>by simp at hu⟩
    . intro i o ho hc a w' us K' hJ hF hlim hk
      match i,ho with
      | 0,ho =>
       simp only [gA,gB,gC,gD] at ho;subst ho;have e1:=hF.old 1 (.pointer (some ⟨w.heap.size,0,none⟩)) rfl rfl;simp only [Act.eval] at e1;clear hF hlim hJ;go_simp;exact hk
      | 1,ho =>
       simp only [gA,gB,gC,gD] at ho;subst ho;have e25:=hF.pure 0 25 (.pointer (some ⟨w.heap.size,6,none⟩)) rfl rfl rfl rfl
       have hX6:∃ w6,Ext w4 w6/\KB 27 w6 w':=by
        have hl1:=hlim 1 6 rfl rfl
        match us,hl1,hJ with
        | [],_,hJ=>exact ⟨w',hJ.nil rfl,KB.refl _⟩
        | [u],_,hJ=>obtain ⟨_,_,_,_,_,h4⟩:=hJ.one u rfl;exact ⟨w',h4,KB.refl _⟩
        | _ :: _ :: _,hl1,_=>exact absurd hl1 (by simp)
       obtain ⟨w6,hX6,hK6⟩:=hX6;have hcl:w'.cell? ⟨w.heap.size,6,none⟩=some (.slice (some ⟨g,0,none⟩) h.en ec):=Blk.cell (hK6 _ _ (HB4.out.ext hX6)) 6;clear hX6 hK6;simp only [Act.eval] at e25;clear hF hlim hJ;go_simp;exact hk
      | 2,ho =>
       simp only [gA,gB,gC,gD] at ho;subst ho;have e3:=hF.old 3 (.int .i64 (k:Int)) rfl rfl;simp only [Act.eval] at e3;clear hF hlim hJ;go_simp;exact hk
      | 3,ho =>
       simp only [gA,gB,gC,gD] at ho;subst ho;have e4:=hF.old 4 (.pointer (some ⟨wr.heap.size,0,none⟩)) rfl rfl
       have hX6:Ext w4 w':=by
        have hl0:=hlim 0 4 rfl rfl;exact hJ.nil (List.eq_nil_of_length_eq_zero (by omega))
       exact qBf 54 (.tmp 4) rfl _ 54 _ _ e4 (HE4.out.ext hX6) Tryz.underlying54 rfl (by exact qAu) hk
      | 4,ho=>simp at hc
      | 5,ho =>
       simp only [gA,gB,gC,gD] at ho;subst ho;have e26:=hF.pure 1 26 (.slice (some ⟨g,0,none⟩) h.en ec) rfl rfl rfl rfl;have e27:=hF.pure 2 27 (.int .i64 (k:Int)) rfl rfl rfl rfl;exact qFz rfl e26 e27 hlt (by rw [Nat.zero_add];exact hk)
      | 6,ho=>simp at hc
      | i+7,ho=>simp at ho
    . intro p c' o hp ho a w' us K' hl hJ hF hk
      match p,hp with
      | 0,hp =>
       (obtain rfl:4=c':=by simpa using hp);simp only [gA,gB,gC,gD] at ho;subst ho;obtain rfl:us=[]:=List.eq_nil_of_length_eq_zero hl;have e28:=hF.pure 3 28 (.agg #[.int .i64 e.id,.int .i64 e.inn,.int .i64 e.out,.string e.region,.int .u8 e.kind,.string e.speaker,.slice A' n' c']) rfl rfl rfl rfl;have hX6:=hJ.nil rfl;refine qHi rfl e28 Tryz.call85 (qGg e A' n' c' w' (HEv.out.ext (HXr.out.trans (HX4.out.trans hX6)))) ?_;rintro en w8 ⟨A8,c8,rfl,hnc8,hrf8,hx8⟩;exact ⟨_,rfl,hk _ _ ⟨fun h=>absurd h (by simp),fun u hu=>by simp at hu;subst hu;exact ⟨A8,c8,rfl,hnc8,hrf8.le hX6.size,hX6.trans hx8⟩,fun u v hu=>by simp at hu⟩⟩
      | 1,hp =>
       (obtain rfl:6=c':=by simpa using hp);simp only [gA,gB,gC,gD] at ho;subst ho;obtain ⟨u0,rfl⟩:=qBv hl;obtain ⟨A2,c2,hu9,hnc,hrf,hx9⟩:=hJ.one u0 rfl;subst hu9;have e30:=hF.pure 5 30 (.pointer (some ⟨g,k*7,none⟩)) rfl rfl rfl rfl;have e29:=hF.link 0 4 29 _ rfl rfl rfl rfl;refine wp_store_mid 54 (.tmp 30) (.tmp 29) rfl g (k*7) (e.cells A2 n' c2) e30 e29 (fun j hj=>?_) (by exact qAu) (by simp [Ev.cells,Value.oneCell']) ?_
       . have hO9:=qAh (qAh HOr.out HX4.out) hx9
         have hj7:j<7:=hj;(have h8:k*7+j<(hs.flatMap EH.vals).length:=by rw [hO9.1];omega);exact ⟨by rw [hO9.cellAt _ (by omega),List.getElem?_eq_getElem h8];rfl,hO9.frozenAt _⟩
       . exact hk undef _ ⟨fun h=>absurd h (by simp),fun u hu=>by simp at hu,fun u v hu=>by simp at hu;obtain ⟨rfl,rfl⟩:=hu;exact ⟨A2,c2,w',rfl,hnc,hrf,hx9,rfl⟩⟩
      | p+2,hp=>simp at hp
    intro us W9 hl hJ;obtain ⟨u0_1,u1_1,rfl⟩:=qCm hl;rename_i hK;refine hK _ _ ?_;clear hK;generalize hL:qCd _ _ _ _=L;obtain rfl:L=[(25,.pointer (some ⟨w.heap.size,6,none⟩)),(26,.slice (some ⟨g,0,none⟩) h.en ec),(27,.int .i64 (k:Int)),(28,.agg #[.int .i64 e.id,.int .i64 e.inn,.int .i64 e.out,.string e.region,.int .u8 e.kind,.string e.speaker,.slice A' n' c']),(29,u0_1),(30,.pointer (some ⟨g,k*7,none⟩))]:=hL.symm.trans (by kernel_rfl);clear hL hl;simp only [Act.put,List.foldl_cons,List.foldl_nil,List.setIfInBounds_toArray,List.set_cons_zero,List.set_cons_succ];obtain ⟨A2,c2,w5,rfl,hnc2,hrf2,hx5,rfl⟩:=hJ.two u0_1 u1_1 rfl;clear hJ;go_wp2_with fail;exact ⟨qZh.step hgb HXr.out HBr.out HZr.out HRr.out HCr.out hlt HSl.out HOr.out HAl.out HEe.out (HX4.out.trans hx5) hsz4 hnc2 hn24 hrf2,by simp [intOf];omega⟩
  . have hkn:k=h.en:=by omega
    subst hkn;unfold Doc.cells3 at HBr;unfold qAl at HZr;clear hcr;go_wp2_with (first | (refine qAa rfl 27 (.tmp 1) rfl w.heap.size 27 _ _ (by exact rfl) (by exact HBr.out) Tryz.underlying27 rfl (by exact qAb) ?_) | (refine qAc rfl 27 (.tmp 2) (.tmp 32) rfl (w.heap.size+1) 27 _ _ (by exact rfl) (by exact rfl) (by exact HZr.out) (by exact rfl) (by exact qAb) (by simp [Value.oneCell']) ?_));refine bodyPost_ret (v:=.agg (d.cells ⟨A0,h.rn,c0,ea,h.en,ec,A1,h.cn,c1⟩)) ?_ rfl ⟨⟨A0,h.rn,c0,ea,h.en,ec,A1,h.cn,c1⟩,rfl,?_,?_⟩
    . exact qBz (P:=Tryz.prog) Tryz.results37 (g:=w.heap.size+1) rfl (by exact HZr.out.put _) Tryz.underlying27 rfl qAb
    . refine qAw.put (h:=⟨A0,h.rn,c0,ea,h.en,ec,A1,h.cn,c1⟩) (cs:=qAl) ⟨HRr.out,HRl.out,⟨hs,HOr.out,HSl.out,HEl.out,fun i x e hx he=>(HAl.out i x e hx he).1 (by have:=(List.getElem?_eq_some_iff.1 hx).1;have:=HSl.out;omega)⟩,HCr.out,HCl.out⟩ HZr.out _
    . exact HXr.out.put (by omega) _ _
end
end Go.Proofs.YtneffpbodfjceaaGreatDoor