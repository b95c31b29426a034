/- Texts laid together. -/
import Derived.Test.YtablhmobekmflaaGreatDoorCm24
import Derived.Test.YtablhmobekmflaaGreatDoorCm14
import Derived.Test.YtablhmobekmflaaGreatDoorCm15
import Derived.Laws.OwnMore
set_option linter.unusedVariables false
set_option linter.unusedSimpArgs false
set_option maxRecDepth 100000
namespace Go.Proofs.YtablhmobekmflaaGreatDoor
section
open Go.RowKit
theorem one_ok {s:Spn} (h:s.inn<s.out):qGh [s]:=⟨fun x hx=>by simp at hx;subst hx;exact h,by simp⟩
theorem qOw (a:Int) (l:List Spn):(qDl a l).length≤l.length+1:=by rw [restF_T,List.length_append];have:=qOc a l;simp;omega
theorem comm_set {s:Spn} {p:List Spn} (hp:qGh p) (hb:InT p):qGh (qDw [s] (qDl 0 p)):=⟨comm_full _ _,comm_apt _ (rest_ok hp hb (by unfold maxT;omega)).2.1⟩
theorem comm_in {s:Spn} {p:List Spn} (h0:0≤s.inn) (h1:s.out≤maxT):InT (qDw [s] (qDl 0 p)):=by
 intro x hx;rw [qIs] at hx;obtain ⟨y,hy,h⟩:=List.mem_flatMap.1 hx
 split at h
 · simp at h;subst h;simp only;omega
 · simp at h
set_option maxHeartbeats 4000000 in
theorem SMinus_one (A:Option Addr) (c:Nat) (s:Spn) (B:Option Addr) (m d:Nat) (p:List Spn) (w:World) (ha:qBj w A 1 [s]) (hb:qBj w B m p) (hm:m≤300) (hs:s.inn<s.out) (h0:0≤s.inn) (h1:s.out≤maxT) (hp:qGh p) (hpb:InT p) :
 Calls Tryz.prog 113 #[.slice A 1 c,.slice B m d] w (qCf (qDw [s] (qDl 0 p)) w):=by
 have hbl:=hb.len;(have hcl:(qDw [s] (qDl 0 p)).length≤301:=by have h1:=comm_len [s] (qDl 0 p);have h2:=qOw 0 p;simp at h1;omega);have hrl:=qOw 0 p;have HC1:=gH (fun w' (hx:Ext w w')=>qLm A 1 c [s] w' (ha.ext hx) (one_ok hs) (fun x hx=>by simp at hx;subst hx;exact ⟨h0,h1⟩) (by omega));have HC2:=gH (fun w' (hx:Ext w w')=>qLm B m d p w' (hb.ext hx) hp hpb (by omega));have HR:=gH (fun w' (hx:Ext w w')=>Rest_any B m d p w' (hb.ext hx) (by omega));have HCm:=gH (fun w' (hx:Ext w w') R rc (hr:qBj w' R (qDl 0 p).length (qDl 0 p))=>Common_any A 1 c [s] R (qDl 0 p).length rc (qDl 0 p) w' (ha.ext hx) hr (by omega) (by omega));clear ha hb hp hpb hs h0 h1;unfold qCf;unfold qDq at HR HCm;generalize qDw [s] (qDl 0 p)=cm at *;generalize qDl 0 p=rs at *;go_enter Tryz.func113,Tryz.ntmps113
 have HCk:Hid (∀ w' (hx:Ext w w'),Calls Tryz.prog 179 #[.slice A 1 c,.slice B m d] w' fun e w2=>e = .returned (.int .i64 0)∧Ext w' w2):=by
  intro w' hx;have HX:=gH hx;go_enter Tryz.func179,Tryz.ntmps179;go_wp2_with fail;refine (HC1.out _ HX.out).mono ?_;rintro e w2 ⟨rfl,hx2⟩;have HX2:=gH (HX.out.trans hx2);have HX3:=gH hx2;clear hx2;go_wp2_with fail;refine (HC2.out _ HX2.out).mono ?_;rintro e w3 ⟨rfl,hx3⟩;have HX4:=gH (HX3.out.trans hx3);clear hx3;go_wp2_with fail;go_ret;exact ⟨rfl,HX4.out⟩
 have HLim:Hid (∀ w' Z zc,Calls Tryz.prog 180 #[.slice Z cm.length zc] w' fun e w2=>e = .returned (.tuple #[.slice Z cm.length zc,.int .i64 0])∧w2=w'):=by
  intro w' Z zc;(have g1:decide ((cm.length:Int) > 400)=false:=by simp;omega);(have g2:decide ((400:Int)<cm.length)=false:=by simp;omega);go_enter Tryz.func180,Tryz.ntmps180;go_wp2_with fail;go_ret2;exact ⟨rfl,rfl⟩
 go_wp2_with fail;refine (HCk.out _ (Ext.refl _)).mono ?_;rintro e w1 ⟨rfl,hx1⟩;have HX1:=gH hx1;clear hx1;go_wp2_with fail;refine (HR.out _ HX1.out).mono ?_;rintro e w2 ⟨R,rc,rfl,hr,-,hx2,-⟩;have HX2:=gH (HX1.out.trans hx2);have HRr:=gH hr;clear hx2 hr;go_wp2_with fail;refine (HCm.out _ HX2.out R rc HRr.out).mono ?_;rintro e w3 ⟨Z,zc,rfl,hz,hzc,hx3,hzf⟩;have HX3:=gH (HX2.out.trans hx3);have HZ:=gH (And.intro hz (And.intro hzc (fun ad h=>Nat.le_trans HX2.out.size (hzf ad h))));clear hx3 hz hzc hzf;go_wp2_with fail;refine (HLim.out _ _ _).mono ?_;rintro e w4 ⟨rfl,rfl⟩;go_wp2_with fail;go_ret2;exact ⟨Z,zc,rfl,HZ.out.1,HZ.out.2.1,HX3.out,HZ.out.2.2⟩
theorem sum_bd:∀ (l:List Spn),Full l→InT l→0≤sumL l∧sumL l≤l.length*maxT
 | [],_,_=>by simp [sumL]
 | s :: l,h,hb=>by
  have ih:=sum_bd l (fun x hx=>h x (by simp [hx])) (fun x hx=>hb x (by simp [hx]));have h1:=h s (by simp);have h2:=hb s (by simp);(have e:sumL (s :: l)=(s.out-s.inn)+sumL l:=by unfold sumL;simp);rw [e];unfold maxT at *;simp only [List.length_cons];omega
theorem sum_snoc (l:List Spn) (x:Spn):sumL (l++[x])=sumL l+(x.out-x.inn):=by unfold sumL;simp
def LnRel (w:World) (n:Nat) (l:List Spn) (v i:Value) (wr:World):Prop:=∃ k:Nat,k≤n∧i = .int .i64 k∧v = .int .i64 (sumL (l.take k))∧Ext w wr
set_option maxHeartbeats 2000000 in
theorem SLen_ok (A:Option Addr) (n c:Nat) (l:List Spn) (w:World) (hl:qBj w A n l) (hok:qGh l) (hb:InT l) (hn:n≤400) :
 Calls Tryz.prog 114 #[.slice A n c] w fun e w'=>e = .returned (.tuple #[.int .i64 (sumL l),.int .i64 0])∧Ext w w':=by
 have HL:=gH hl;have HLn:=gH hl.len;have HC:=gH (qLm A n c l w hl hok hb hn);have HBd:=gH (fun k=>sum_bd (l.take k) (fun x hx=>hok.1 x (List.mem_of_mem_take hx)) (fun x hx=>hb x (List.mem_of_mem_take hx)));have HE:=gH (fun x (hx:x∈l)=>And.intro (hok.1 x hx) (hb x hx));clear hl hok hb;go_enter Tryz.func114,Tryz.ntmps114;go_wp2_with fail;refine HC.out.mono ?_;rintro e w1 ⟨rfl,hx1⟩;have HX1:=gH hx1;clear hx1 HC;go_wp2_with fail
 go_loopw [5,15] (fun v i wr=>LnRel w n l v i wr) (fun _ i _=>n-(intOf i).toNat)
 case atStart=>exact ⟨0,Nat.zero_le _,rfl,rfl,HX1.out⟩
 case round =>
  obtain ⟨k,hk,rfl,rfl,hx⟩:=hrel;have HX:=gH hx;clear hx
  by_cases hlt:k<n
  · obtain ⟨b,off,x,rfl,hxk,hC⟩:=(HL.out.ext HX.out).at_ hlt
    have c0:=hC 0 _ rfl;have c1:=hC 1 _ rfl;simp only [Nat.add_zero] at c0;have hb1:=HBd.out k;have hxb:=HE.out x (List.mem_of_getElem? hxk);(have HS:Hid (sumL (l.take (k+1))=sumL (l.take k)+(x.out-x.inn)):=by show _=_;rw [take_snoc' _ _ _ hxk];exact sum_snoc _ _);rw [List.length_take] at hb1;unfold maxT at hb1 hxb;clear hC hxk;generalize sumL (l.take k)=sm at *
    have hsm:sm≤400*10378368000:=by
     (have h1:(min k l.length:Nat)≤400:=by omega);(have h2:((min k l.length:Nat):Int)≤400:=by omega);have:=Int.mul_le_mul_of_nonneg_right h2 (show (0:Int)≤10378368000 by omega);omega
    have hsm0:=hb1.1;obtain ⟨hx1,hx2,hx3⟩:=hxb;have HX2:=gH (HX.out.alloc (.cells #[.int .i64 x.inn,.int .i64 x.out] 60));clear hb1;go_wp2_with fail;exact ⟨⟨k+1,by omega,by go_num,by rw [HS.out],HX2.out⟩,by simp [intOf];omega⟩
  · have hkn:k=n:=by omega
    subst hkn;(have HT:Hid (sumL (l.take k)=sumL l):=by show _=_;rw [List.take_of_length_le (by have:=HLn.out;omega)]);rw [HT.out];obtain ⟨sm,hsm⟩:∃ sm,sm=sumL l:=⟨_,rfl⟩;rw [← hsm];have HSm:=gH hsm;clear hsm;go_wp2_with fail;go_ret2;exact ⟨by rw [← HSm.out];rfl,HX.out⟩
set_option maxHeartbeats 2000000 in
theorem Lost_any (s:Spn) (B:Option Addr) (m d:Nat) (p:List Spn) (w:World) (hb:qBj w B m p) (hm:m≤300) (hs:s.inn<s.out) (h0:0≤s.inn) (h1:s.out≤maxT) (hp:qGh p) (hpb:InT p) :
 Calls Tryz.prog 53 #[.agg #[.int .i64 s.inn,.int .i64 s.out],.slice B m d] w fun e w'=>e = .returned (.int .i64 (qKl s p))∧Ext w w':=by
 have hbl:=hb.len;(have hcl:(qDw [s] (qDl 0 p)).length≤301:=by have h1:=comm_len [s] (qDl 0 p);have h2:=qOw 0 p;simp at h1;omega);have HX0:=gH (((Ext.refl w).alloc (.cells #[.int .i64 s.inn,.int .i64 s.out] 60)).alloc (.cells #[.int .i64 s.inn,.int .i64 s.out] 60));have HMn:=gH (fun w' A c (hx:Ext w w') (ha:qBj w' A 1 [s])=>SMinus_one A c s B m d p w' ha (hb.ext hx) hm hs h0 h1 hp hpb);have HLn:=gH (fun w' A c (ha:qBj w' A (qDw [s] (qDl 0 p)).length (qDw [s] (qDl 0 p)))=>SLen_ok A (qDw [s] (qDl 0 p)).length c (qDw [s] (qDl 0 p)) w' ha (comm_set hp hpb) (comm_in h0 h1) (by omega));have HF:Hid (qKl s p=sumL (qDw [s] (qDl 0 p))):=rfl;unfold qCf at HMn;clear hb hp hpb hs h0 h1 hcl;generalize qKl s p=ls at *;generalize qDw [s] (qDl 0 p)=cm at *
 have HS1:Hid (qBj ((w.alloc (.cells #[.int .i64 s.inn,.int .i64 s.out] 60)).alloc (.cells #[.int .i64 s.inn,.int .i64 s.out] 60)) (some ⟨(w.alloc (.cells #[.int .i64 s.inn,.int .i64 s.out] 60)).heap.size,0,none⟩) 1 [s]):=by
  refine ⟨rfl,fun _=>⟨_,0,rfl,fun i x hx j u hu=>?_⟩⟩
  match i,hx with
  | 0,hx =>
   (simp at hx;subst hx);have:=(Blk.new (w.alloc (.cells #[.int .i64 s.inn,.int .i64 s.out] 60)) 60 #[.int .i64 s.inn,.int .i64 s.out]).cell j;simp only [Nat.zero_mul,Nat.zero_add];rw [this];simpa [Spn.vals] using hu
  | i+1,hx=>simp at hx
 simp only [World.size_alloc] at HS1;go_enter Tryz.func53,Tryz.ntmps53;go_wp2_with fail;refine (HMn.out _ _ _ HX0.out HS1.out).mono ?_;rintro e w1 ⟨Z,zc,rfl,hz,-,hx1,-⟩;have HX1:=gH (HX0.out.trans hx1);have HZ:=gH hz;clear hz hx1;go_wp2_with fail;refine (HLn.out _ _ _ HZ.out).mono ?_;rintro e w2 ⟨rfl,hx2⟩;have HX2:=gH (HX1.out.trans hx2);clear hx2;go_wp2_with fail;go_ret;exact ⟨qAa HF.out.symm,HX2.out⟩
end
section
open Go.RowKit
def preP (s:Spn) (p:Pc):Spn:=⟨qAs p s.inn,qAs p s.out⟩
def preL (s:Spn) (l:List Pc):List Spn:=l.map (preP s)
theorem qHj {p:Pc} (hp:p.Ok) (v:Int):0≤qAs p v∧qAs p v≤maxT:=by
 have h0:=hp.i0;have h1:=hp.io;have h2:=hp.o1;unfold maxT qAs
 split
 · omega
 · rename_i hv
   split
   · omega
   · have:=hp.n0
     have:=hp.d1;have hq:=(quoI_bd ((v-p.dst)*p.d) p.n 3 (Int.mul_nonneg (by omega) (by omega)) (by omega)).1;omega
def PmS (cells:Array Value) (base:Nat) (v:Value) (k:Nat) (xs:List Value) (W:World):List Value→World→Prop
 | [],w'=>Ext W w'
 | [_],w'=>Ext W w'
 | [_,_],w'=>Ext W w'
 | [_,_,u2],w'=>(∃ g,u2 = .slice (some ⟨g,0,none⟩) 1 1∧Blk w' g 60 cells)∧Ext W w'
 | [_,_,_,u3],w'=>∃ w5,Ext W w5∧w5.grownBy w' v.ownBlock∧w'.ownsRow base 60 2 u3 (k+1) (xs++cells.toList)
 | [_,_,_,u3,u4],w'=>u4=u3∧∃ w5,Ext W w5∧w5.grownBy w' v.ownBlock∧w'.ownsRow base 60 2 u3 (k+1) (xs++cells.toList)
 | _,_=>False
structure PmJ (r0 r1:Int) (base:Nat) (v:Value) (k:Nat) (xs:List Value) (W:World) (us:List Value) (w':World):Prop where
 only:Only 60 W w'
 val0:∀ u,us[0]?=some u→u = .int .i64 r0
 val1:∀ u,us[1]?=some u→u = .int .i64 r1
 st:PmS #[.int .i64 r0,.int .i64 r1] base v k xs W us w'
section
variable {r0 r1:Int} {base k:Nat} {v:Value} {xs:List Value} {W w' w2:World} {u0 u1 u2 u3:Value}
theorem PmJ.start (W:World):PmJ r0 r1 base v k xs W [] W.drew:=⟨Only.ext (Ext.refl W).drew,fun u h=>by simp at h,fun u h=>by simp at h,(Ext.refl W).drew⟩
theorem PmJ.call0 (h:PmJ r0 r1 base v k xs W [] w') (hx:Ext w' w2):PmJ r0 r1 base v k xs W ([]++[.int .i64 r0]) w2 :=
 ⟨h.only.trans (Only.ext hx),fun u hu=>by simpa using hu.symm,fun u hu=>by simp at hu,Ext.trans h.st hx⟩
theorem PmJ.call1 (h:PmJ r0 r1 base v k xs W [u0] w') (hx:Ext w' w2):PmJ r0 r1 base v k xs W ([u0]++[.int .i64 r1]) w2 :=
 ⟨h.only.trans (Only.ext hx),fun u hu=>h.val0 u (by simpa using hu),fun u hu=>by simpa using hu.symm,Ext.trans h.st hx⟩
theorem PmJ.build (h:PmJ r0 r1 base v k xs W [u0,u1] w'):PmJ r0 r1 base v k xs W ([u0,u1]++[.slice (some ⟨w'.heap.size,0,none⟩) 1 1]) (w'.alloc (.cells #[.int .i64 r0,.int .i64 r1] 60)) :=
 ⟨h.only.trans (Only.ext ((Ext.refl w').alloc _)),fun u hu=>h.val0 u (by simpa using hu),fun u hu=>h.val1 u (by simpa using hu),⟨⟨_,rfl,Blk.new w' _ _⟩,Ext.alloc h.st _⟩⟩
theorem PmJ.app (h:PmJ r0 r1 base v k xs W [u0,u1,u2] w') (hv:∀ q,v.ownBlock=some q→qBf w' 60 q) (hg:w'.grownBy w2 v.ownBlock) (ho:w2.ownsRow base 60 2 u3 (k+1) (xs++[.int .i64 r0,.int .i64 r1])):PmJ r0 r1 base v k xs W ([u0,u1,u2]++[u3]) w2 :=
 ⟨h.only.trans (Only.grown hg hv),fun u hu=>h.val0 u (by simpa using hu),fun u hu=>h.val1 u (by simpa using hu),⟨w',h.st.2,hg,ho⟩⟩
theorem PmJ.asg (h:PmJ r0 r1 base v k xs W [u0,u1,u2,u3] w'):PmJ r0 r1 base v k xs W ([u0,u1,u2,u3]++[u3]) w':=⟨h.only,fun u hu=>h.val0 u (by simpa using hu),fun u hu=>h.val1 u (by simpa using hu),⟨rfl,h.st⟩⟩
end
theorem PmJ.span {r0 r1:Int} {base k g:Nat} {v:Value} {xs:List Value} {W w':World} {us:List Value} {cs:Array Value} (h:PmJ r0 r1 base v k xs W us w') (hB:Blk W g 60 cs) (hn:∀ q,v.ownBlock=some q→q≠g):Blk w' g 60 cs:=by
 have hb:g<W.heap.size:=hB.lt
 have key:∀ w5 w6,Ext W w5→w5.grownBy w6 v.ownBlock→Blk w6 g 60 cs:=fun w5 w6 hx hg=>by
  have h5:=hB.ext hx;exact (hg.block g h5.lt (fun e=>hn g e.symm rfl)).trans h5
 have hst:=h.st
 match us,hst with
 | [],hst=>exact hB.ext hst
 | [_],hst=>exact hB.ext hst
 | [_,_],hst=>exact hB.ext hst
 | [_,_,_],hst=>exact hB.ext hst.2
 | [_,_,_,_],hst=>obtain ⟨w5,a,b,_⟩:=hst;exact key w5 _ a b
 | [_,_,_,_,_],hst=>obtain ⟨_,w5,a,b,_⟩:=hst;exact key w5 _ a b
theorem Sl.one {w:World} {g:Nat} {s:Spn} (h:Blk w g 60 #[.int .i64 s.inn,.int .i64 s.out]):qBj w (some ⟨g,0,none⟩) 1 [s]:=by
 refine ⟨rfl,fun _=>⟨_,0,rfl,fun i x hx j u hu=>?_⟩⟩
 match i,hx with
 | 0,hx =>
  (simp at hx;subst hx);have:=h.cell j;simp only [Nat.zero_mul,Nat.zero_add];rw [this];simpa [Spn.vals] using hu
 | i+1,hx=>simp at hx
set_option maxHeartbeats 2000000 in
theorem CkSpan_ok (A:Option Addr) (n c:Nat) (l:List Pc) (s:Spn) (w:World) (hl:PcsAt w A n l) (hok:MapOk l) (h0:0≤s.inn) (hs:s.inn<s.out) (h1:s.out≤maxT) :
 Calls Tryz.prog 185 #[.slice A n c,.agg #[.int .i64 s.inn,.int .i64 s.out]] w fun e w'=>e = .returned (.int .i64 0)∧Ext w w':=by
 have HX0:=gH ((Ext.refl w).alloc (.cells #[.int .i64 s.inn,.int .i64 s.out] 60));have HB0:=gH (Blk.new w 60 #[.int .i64 s.inn,.int .i64 s.out]);have HCk:=gH (fun w' (hx:Ext w w')=>TCheck_ok A n c l w' (hl.ext hx) hok);have HCs:=gH (fun w' B d (hb:qBj w' B 1 [s])=>qLm B 1 d [s] w' hb (one_ok hs) (fun x hx=>by simp at hx;subst hx;exact ⟨h0,h1⟩) (by omega));clear hl hok h0 hs h1;go_enter Tryz.func185,Tryz.ntmps185;go_wp2_with fail;refine (HCk.out _ HX0.out).mono ?_;rintro e w1 ⟨rfl,hx1⟩;have HX1:=gH (HX0.out.trans hx1);have HB1:=gH (HB0.out.ext hx1);(have hcl:=fun o=>HB1.out.cell o);clear hx1 HCk;go_wp2_with fail;refine (HCs.out _ _ _ (Sl.one (Blk.new w1 60 #[.int .i64 s.inn,.int .i64 s.out]))).mono ?_;rintro e w2 ⟨rfl,hx2⟩;have HX2:=gH ((HX1.out.alloc (.cells #[.int .i64 s.inn,.int .i64 s.out] 60)).trans hx2);clear hx2 HCs;go_wp2_with fail;go_ret;exact ⟨rfl,HX2.out⟩
set_option maxHeartbeats 4000000 in
theorem Preimage_any (A:Option Addr) (n c:Nat) (l:List Pc) (s:Spn) (w:World) (hl:PcsAt w A n l) (hok:MapOk l) (h0:0≤s.inn) (hs:s.inn<s.out) (h1:s.out≤maxT) :
 Calls Tryz.prog 120 #[.slice A n c,.agg #[.int .i64 s.inn,.int .i64 s.out]] w (qCf (qDf (preL s l)) w):=by
 have HL:=gH hl;have HLn:=gH hl.len;have HOk:=gH hok;(have hn:n≤64:=by rw [← hl.len];exact hok.few);have HX0:=gH ((Ext.refl w).alloc (.cells #[.int .i64 s.inn,.int .i64 s.out] 60));have HB0:=gH (Blk.new w 60 #[.int .i64 s.inn,.int .i64 s.out]);have HCk:=gH (fun w' (hx:Ext w w')=>CkSpan_ok A n c l s w' (hl.ext hx) hok h0 hs h1);(have hso:s.inn≤maxT:=by omega);clear hl hok hs h0;unfold qCf;go_enter Tryz.func120,Tryz.ntmps120;go_wp2_with fail;refine (HCk.out _ HX0.out).mono ?_;rintro e w1 ⟨rfl,hx1⟩;have HX1:=gH (HX0.out.trans hx1);have HBs:=gH (HB0.out.ext hx1);(have hsc:=fun o=>HBs.out.cell o);clear hx1 HCk;go_wp2_with fail
 go_loopw [7,18] (fun v i wr=>LRel Spn.vals 2 60 w1 n (fun k=>preL s (l.take k)) v i wr) (fun _ i _=>n-(intOf i).toNat)
 case atStart=>exact ⟨0,Nat.zero_le _,rfl,Ext.refl _,⟨rfl,.inl ⟨rfl,rfl⟩⟩⟩
 case round =>
  obtain ⟨k,hk,rfl,hx,hown⟩:=hrel;have HXr:=gH hx;have HO:=gH hown;(have hjl:(preL s (l.take k)).length≤k:=by unfold preL;rw [List.length_map,List.length_take];omega);have hzr:=hx.size;dsimp only at HO;clear hx hown
  by_cases hlt:k<n
  · obtain ⟨b,off,r,rfl,hr,hC⟩:=(HL.out.ext (HX1.out.trans HXr.out)).at_ hlt
    have c0:=hC 0 _ rfl;have c1:=hC 1 _ rfl;have c2:=hC 2 _ rfl;have c3:=hC 3 _ rfl;have c4:=hC 4 _ rfl;simp only [Nat.add_zero] at c0;have HBc:=gH (Blk.new wr 95 #[.int .i64 r.inn,.int .i64 r.out,.int .i64 r.dst,.int .i64 r.n,.int .i64 r.d]);have HXc:=gH ((Ext.refl wr).alloc (.cells #[.int .i64 r.inn,.int .i64 r.out,.int .i64 r.dst,.int .i64 r.n,.int .i64 r.d] 95));have HBsr:=gH ((HBs.out.ext HXr.out).ext HXc.out);(have HT:Hid (preL s (l.take (k+1))=preL s (l.take k)++[⟨qAs r s.inn,qAs r s.out⟩]):=by show _=_;unfold preL;rw [take_snoc' _ _ _ hr,List.map_append];rfl);have hro:=HOk.out.each r (List.mem_of_getElem? hr);have HR0:=gH (fun w'=>qPb r s.inn w' hro hso);have HR1:=gH (fun w'=>qPb r s.out w' hro h1);(have HNs:Hid (∀ q,u7.ownBlock=some q→q≠w.heap.size):=fun q hq=>by have h1:=qAp HO.out q hq;have h2:=HBs.out.lt;omega);clear hr hC hro;generalize preL s (l.take k)=os at *;go_upto_region 8 with fail;generalize qAs r s.inn=r0 at *;generalize qAs r s.out=r1 at *;have HO2:=gH (qAh HO.out HXc.out);have hz2:=HXc.out.size;obtain ⟨W2,hW2⟩:∃ W2,W2=wr.alloc (.cells #[.int .i64 r.inn,.int .i64 r.out,.int .i64 r.dst,.int .i64 r.n,.int .i64 r.d] 95):=⟨_,rfl⟩;rw [← hW2] at HBc HXc HO2 hz2 HBsr ⊢;clear hW2
    refine qAy [some 22,some 23,some 24,some 25,some 26,some 27,some 28,some 29,some 30,some 31,some 32,some 33,some 7] [[],[],[],[2],[1,3],[],[],[6],[5,7,4],[4,8],[9],[0,10,8],[11,11,0,1,2,3,4,5,6,7,8,9,10,11]] [4,8,10,11,12] [u7,.agg #[.int .i64 r.inn,.int .i64 r.out,.int .i64 r.dst,.int .i64 r.n,.int .i64 r.d],.pointer (some ⟨w.heap.size,0,none⟩),.int .i64 s.inn,undef,.agg #[.int .i64 r.inn,.int .i64 r.out,.int .i64 r.dst,.int .i64 r.n,.int .i64 r.d],.pointer (some ⟨w.heap.size,1,none⟩),.int .i64 s.out,undef,.agg #[.int .i64 r0,.int .i64 r1],undef,undef,undef] (PmJ r0 r1 w1.heap.size u7 os.length (os.flatMap Spn.vals) W2) (by kernel_rfl) (by kernel_rfl) (by kernel_rfl) (by kernel_rfl) (by kernel_rfl) (by kernel_rfl) (by kernel_rfl) (by decide) ?_ ?_ ?_ ?_
    · exact PmJ.start W2
    · intro i o ho hc a w' us K' hJ hF hlim hk
      match i,ho with
      | 0,ho =>
       simp only [gA,gB,gC,gD] at ho;subst ho;have e7:=hF.olds 4 12 7 (u7) rfl rfl (hlim 4 12 rfl rfl) rfl;simp only [Act.eval] at e7;clear hF hlim hJ;go_simp;exact hk
      | 1,ho =>
       simp only [gA,gB,gC,gD] at ho;subst ho;have e9:=hF.old 9 (.pointer (some ⟨wr.heap.size,0,none⟩)) rfl rfl;exact qCd 95 (.tmp 9) rfl wr.heap.size 95 _ _ e9 (HBc.out.only hJ.only (by decide)) Tryz.underlying95 rfl (by exact qJt) hk
      | 2,ho =>
       simp only [gA,gB,gC,gD] at ho;subst ho;have e3:=hF.old 3 (.pointer (some ⟨w.heap.size,0,none⟩)) rfl rfl;simp only [Act.eval] at e3;clear hF hlim hJ;go_simp;exact hk
      | 3,ho =>
       simp only [gA,gB,gC,gD] at ho;subst ho;have e24:=hF.pure 2 24 (.pointer (some ⟨w.heap.size,0,none⟩)) rfl rfl rfl rfl;have hcl:=(hJ.span HBsr.out HNs.out).cell 0;simp only [gA,gB,gC] at hcl;simp only [Act.eval] at e24;clear hF hlim hJ;go_simp;exact hk
      | 4,ho=>simp at hc
      | 5,ho =>
       simp only [gA,gB,gC,gD] at ho;subst ho;have e9:=hF.old 9 (.pointer (some ⟨wr.heap.size,0,none⟩)) rfl rfl;exact qCd 95 (.tmp 9) rfl wr.heap.size 95 _ _ e9 (HBc.out.only hJ.only (by decide)) Tryz.underlying95 rfl (by exact qJt) hk
      | 6,ho =>
       simp only [gA,gB,gC,gD] at ho;subst ho;have e3:=hF.old 3 (.pointer (some ⟨w.heap.size,0,none⟩)) rfl rfl;simp only [Act.eval] at e3;clear hF hlim hJ;go_simp;exact hk
      | 7,ho =>
       simp only [gA,gB,gC,gD] at ho;subst ho;have e28:=hF.pure 6 28 (.pointer (some ⟨w.heap.size,1,none⟩)) rfl rfl rfl rfl;have hcl:=(hJ.span HBsr.out HNs.out).cell 1;simp only [gA,gB,gC] at hcl;simp only [Act.eval] at e28;clear hF hlim hJ;go_simp;exact hk
      | 8,ho=>simp at hc
      | 9,ho =>
       simp only [gA,gB,gC,gD] at ho;subst ho;obtain ⟨v26,hv26⟩:=qBq (hF.did 0 4 rfl rfl);have e26:=hF.link 0 4 26 _ rfl rfl rfl hv26;obtain ⟨v30,hv30⟩:=qBq (hF.did 1 8 rfl rfl);have e30:=hF.link 1 8 30 _ rfl rfl rfl hv30;have hu0:=hJ.val0 v26 hv26;have hu1:=hJ.val1 v30 hv30;subst hu0 hu1;simp [Act.eval] at e26 e30;clear hF hlim hJ;go_simp;exact hk
      | 10,ho | 11,ho | 12,ho=>simp at hc
      | i+13,ho=>simp at ho
    · intro p c' o hp ho a w' us K' hl hJ hF hk
      match p,hp with
      | 0,hp =>
       (obtain rfl:4=c':=by simpa using hp);simp only [gA,gB,gC,gD] at ho;subst ho;obtain rfl:us=[]:=List.eq_nil_of_length_eq_zero hl;have e23:=hF.pure 1 23 (.agg #[.int .i64 r.inn,.int .i64 r.out,.int .i64 r.dst,.int .i64 r.n,.int .i64 r.d]) rfl rfl rfl rfl;have e25:=hF.pure 3 25 (.int .i64 s.inn) rfl rfl rfl rfl;exact qDc rfl e23 e25 Tryz.call186 (HR0.out _) (fun w5 hx5=>hk _ w5 (hJ.call0 hx5))
      | 1,hp =>
       (obtain rfl:8=c':=by simpa using hp);simp only [gA,gB,gC,gD] at ho;subst ho;obtain ⟨u0,rfl⟩:=qEq hl;have e27:=hF.pure 5 27 (.agg #[.int .i64 r.inn,.int .i64 r.out,.int .i64 r.dst,.int .i64 r.n,.int .i64 r.d]) rfl rfl rfl rfl;have e29:=hF.pure 7 29 (.int .i64 s.out) rfl rfl rfl rfl;exact qDc rfl e27 e29 Tryz.call186 (HR1.out _) (fun w5 hx5=>hk _ w5 (hJ.call1 hx5))
      | 2,hp =>
       (obtain rfl:10=c':=by simpa using hp);simp only [gA,gB,gC,gD] at ho;subst ho;obtain ⟨u0,u1,rfl⟩:=qEo hl;have e31:=hF.pure 9 31 (.agg #[.int .i64 r0,.int .i64 r1]) rfl rfl rfl rfl;have HK:=gH (hk (.slice (some ⟨w'.heap.size,0,none⟩) 1 1) (w'.alloc (.cells #[.int .i64 r0,.int .i64 r1] 60)) hJ.build);simp [Act.eval] at e31;clear hk hF hJ;go_simp;exact HK.out
      | 3,hp =>
       (obtain rfl:11=c':=by simpa using hp);simp only [gA,gB,gC,gD] at ho;subst ho;obtain ⟨u0,u1,u2,rfl⟩:=qHg hl;obtain ⟨⟨g8,rfl,hB8⟩,hx8⟩:=hJ.st;have e22:=hF.pure 0 22 (u7) rfl rfl rfl rfl;have e32:=hF.link 2 10 32 _ rfl rfl rfl rfl;exact qHw (.tmp 22) (.tmp 32) 35 rfl qBe Tryz.underlying35 rfl (by decide) (qAh HO2.out hx8) e22 g8 _ e32 hB8 rfl (by simp [Value.oneCell']) (by omega) (by simp [maxLen];omega) (by have:=hx8.size;omega) (fun v' w9 ho9 hg9=>hk v' w9 (hJ.app (qAj (qAh HO2.out hx8)) hg9 ho9))
      | 4,hp =>
       (obtain rfl:12=c':=by simpa using hp);simp only [gA,gB,gC,gD] at ho;subst ho;obtain ⟨u0,u1,u2,u3,rfl⟩:=qLr hl;have e33:=hF.link 3 11 33 _ rfl rfl rfl rfl;exact qCi _ _ rfl e33 (hk _ _ hJ.asg)
      | p+5,hp=>simp at hp
    intro us w5 hl hJ;obtain ⟨uu0,uu1,uu2,uu3,uu4,rfl⟩:=list_5 hl
    first | (rename_i hK;refine hK _ _ ?_;clear hK) | (rename_i hK hK_1;refine hK _ _ ?_;clear hK) | (rename_i hK hK_1 hK_2;refine hK _ _ ?_;clear hK) | (rename_i hK hK_1 hK_2 hK_3;refine hK _ _ ?_;clear hK)
    generalize hL:qDx _ _ _ _=L;obtain rfl:L=[(22,u7),(23,.agg #[.int .i64 r.inn,.int .i64 r.out,.int .i64 r.dst,.int .i64 r.n,.int .i64 r.d]),(24,.pointer (some ⟨w.heap.size,0,none⟩)),(25,.int .i64 s.inn),(26,uu0),(27,.agg #[.int .i64 r.inn,.int .i64 r.out,.int .i64 r.dst,.int .i64 r.n,.int .i64 r.d]),(28,.pointer (some ⟨w.heap.size,1,none⟩)),(29,.int .i64 s.out),(30,uu1),(31,.agg #[.int .i64 r0,.int .i64 r1]),(32,uu2),(33,uu3),(7,uu4)]:=hL.symm.trans (by kernel_rfl);clear hL hl;simp only [Act.put,List.foldl_cons,List.foldl_nil,List.setIfInBounds_toArray,List.set_cons_zero,List.set_cons_succ];obtain ⟨rfl,w6,hx6,hg6,ho6⟩:=hJ.st;have HX5:=gH (Ext.grown ((HXr.out.trans HXc.out).trans hx6) hg6 (fun q hq=>qAp HO.out q hq));have HO5:=gH ho6;clear hJ hx6 hg6 ho6;go_wp2_with fail;exact ⟨⟨k+1,by omega,by go_num,HX5.out,by dsimp only;rw [HT.out,List.length_append,List.flatMap_append];exact HO5.out⟩,by simp [intOf];omega⟩
  · have hkn:k=n:=by omega
    subst hkn;(have HTk:Hid (preL s (l.take k)=preL s l):=by show _=_;rw [List.take_of_length_le (by have:=HLn.out;omega)]);rw [HTk.out] at HO hjl;obtain ⟨A',c',rfl,hc,_,hS,hfr⟩:=qBg (f:=Spn.vals) (size:=2) (fun _=>rfl) rfl HO.out;have HN:=gH (Norm_ok A' (preL s l).length c' (preL s l) wr hS (by omega) (fun x hx _=>by obtain ⟨p,hp,rfl⟩:=List.mem_map.1 hx;have h2:=qHj (HOk.out.each p hp) s.inn;have h3:=qHj (HOk.out.each p hp) s.out;exact ⟨h2.1,h3.2⟩));unfold qCf at HN;clear hc hS hfr HO;go_wp2_with fail;refine HN.out.mono ?_;rintro en2 w2 ⟨A2,c2,rfl,h1,h2,h3,h4⟩;have HR:=gH (And.intro h2 (And.intro h1 (And.intro (fun ad h=>Nat.le_trans (Nat.le_trans HX1.out.size hzr) (h4 ad h)) ((HX1.out.trans HXr.out).trans h3))));clear h1 h2 h3 h4 HN;go_wp2_with fail;go_ret2;exact ⟨A2,c2,rfl,HR.out.2.1,HR.out.1,HR.out.2.2.2,HR.out.2.2.1⟩
end
section
open Go.RowKit
theorem join_one (x:Spn):qDf [x]=if x.inn<x.out then [x] else []:=by
 unfold qDf full;rw [List.filter_cons,List.filter_nil]
 by_cases h:x.inn<x.out
 · rw [if_pos (by simpa using h),if_pos h];rfl
 · rw [if_neg (by simpa using h),if_neg h];rfl
theorem Pc.one {w:World} {g:Nat} {p:Pc} (h:Blk w g 95 #[.int .i64 p.inn,.int .i64 p.out,.int .i64 p.dst,.int .i64 p.n,.int .i64 p.d]):PcsAt w (some ⟨g,0,none⟩) 1 [p]:=by
 refine ⟨rfl,fun _=>⟨_,0,rfl,fun i x hx j u hu=>?_⟩⟩
 match i,hx with
 | 0,hx =>
  (simp at hx;subst hx);have:=h.cell j;simp only [Nat.zero_mul,Nat.zero_add];rw [this];simpa [Pc.vals] using hu
 | i+1,hx=>simp at hx
theorem one_map {p:Pc} (h:p.Ok):MapOk [p]:=⟨fun x hx=>by simp at hx;subst hx;exact h,by simp,by simp⟩
theorem qHh:(Tryz.prog.info? 60).map (·.size)=some 2:=by kernel_rfl
theorem part_ret {w':World} {g:Nat} {a b:Int} {q:Bool} {tmps:Array Value} (hB:Blk w' g 60 #[.int .i64 a,.int .i64 b])
 (h4:tmps.getD 4 undef = .pointer (some ⟨g,0,none⟩)) (h5:tmps.getD 5 undef = .bool q):(results Tryz.f59 tmps).run Tryz.prog w' = .ok (.tuple #[.agg #[.int .i64 a,.int .i64 b],.bool q]) w':=by
 rw [qDb (P:=Tryz.prog) Tryz.results59 h4 hB Tryz.underlying60 rfl qHh,h5]
def partV (c:Cut) (s:Spn):Value:=if qAs c.pc s.inn<qAs c.pc s.out then .tuple #[.agg #[.int .i64 (qAs c.pc s.inn),.int .i64 (qAs c.pc s.out)],.bool true] else .tuple #[.agg #[.int .i64 0,.int .i64 0],.bool false]
set_option maxHeartbeats 4000000 in
theorem Part_any (c:Cut) (s:Spn) (w:World) (hp:c.pc.Ok) (h0:0≤s.inn) (hs:s.inn<s.out) (h1:s.out≤maxT) :
 Calls Tryz.prog 59 #[.agg c.cells,.agg #[.int .i64 s.inn,.int .i64 s.out]] w fun e w'=>e = .returned (partV c s)∧Ext w w':=by
 have HX0:=gH ((((Ext.refl w).alloc (.cells c.cells 91)).alloc (.cells #[.int .i64 s.inn,.int .i64 s.out] 60)).alloc (.cells #[.int .i64 0,.int .i64 0] 60));have HB0:=gH ((Blk.new w 91 c.cells).alloc (.cells #[.int .i64 s.inn,.int .i64 s.out] 60) |>.alloc (.cells #[.int .i64 0,.int .i64 0] 60));have HBs:=gH (Blk.new ((w.alloc (.cells c.cells 91)).alloc (.cells #[.int .i64 s.inn,.int .i64 s.out] 60)) 60 #[.int .i64 0,.int .i64 0]);have HPr:=gH (fun w' B d (hb:PcsAt w' B 1 [c.pc])=>Preimage_any B 1 d [c.pc] s w' hb (one_map hp) h0 hs h1);have HJ:Hid (qDf (preL s [c.pc])=if qAs c.pc s.inn<qAs c.pc s.out then [⟨qAs c.pc s.inn,qAs c.pc s.out⟩] else []):=join_one _;have HPv:Hid (partV c s=if qAs c.pc s.inn<qAs c.pc s.out then .tuple #[.agg #[.int .i64 (qAs c.pc s.inn),.int .i64 (qAs c.pc s.out)],.bool true] else .tuple #[.agg #[.int .i64 0,.int .i64 0],.bool false]):=rfl;clear hp h0 hs h1;have HPc:Hid (c.pc=⟨c.inn,c.out,c.src,c.n,c.d⟩):=rfl;generalize qAs c.pc s.inn=r0 at *;generalize qAs c.pc s.out=r1 at *;generalize c.pc=p at *;obtain rfl:=HPc.out;unfold qCf at HPr;have HPA:=gH (Pc.one (p:=⟨c.inn,c.out,c.src,c.n,c.d⟩) (Blk.new (((w.alloc (.cells c.cells 91)).alloc (.cells #[.int .i64 s.inn,.int .i64 s.out] 60)).alloc (.cells #[.int .i64 0,.int .i64 0] 60)) 95 #[.int .i64 c.inn,.int .i64 c.out,.int .i64 c.src,.int .i64 c.n,.int .i64 c.d]));simp only [World.size_alloc] at HPA
 unfold Cut.cells at *;go_enter Tryz.func59,Tryz.ntmps59;go_wp2_with fail;refine (HPr.out _ _ _ HPA.out).mono ?_;rintro e w1 ⟨Z,zc,rfl,hz,-,hx1,-⟩;have HX1:=gH ((HX0.out.alloc (.cells #[.int .i64 c.inn,.int .i64 c.out,.int .i64 c.src,.int .i64 c.n,.int .i64 c.d] 95)).trans hx1);have HB1:=gH ((HBs.out.alloc (.cells #[.int .i64 c.inn,.int .i64 c.out,.int .i64 c.src,.int .i64 c.n,.int .i64 c.d] 95)).ext hx1);have HZ:=gH hz;clear hz hx1 HPA;simp only [World.size_alloc] at HB1
 by_cases hr:r0<r1
 · have HV:=gH (HPv.out.trans (if_pos hr))
   rw [HJ.out,if_pos hr] at HZ ⊢;obtain ⟨b,off,x,rfl,hx0,hC⟩:=HZ.out.at_ (i:=0) (by simp);simp at hx0;subst hx0;have d0:=hC 0 _ rfl;have d1:=hC 1 _ rfl;simp only [Nat.zero_mul,Nat.add_zero] at d0 d1;clear hC hr HPr;go_wp2_with (refine qAi rfl 60 (.tmp 4) (.tmp 31) rfl (w.heap.size+1+1) 60 _ _ (by exact rfl) (by exact rfl) HB1.out (by exact rfl) (by exact qHh) (by simp [Value.oneCell']) ?_);refine bodyPost_ret (v:=.tuple #[.agg #[.int .i64 r0,.int .i64 r1],.bool true]) ?_ rfl ⟨?_,?_⟩
   · exact part_ret (HB1.out.put _) rfl rfl
   · rw [HV.out]
   · exact HX1.out.put (by omega) _ _
 · have HV:=gH (HPv.out.trans (if_neg hr))
   rw [HJ.out,if_neg hr] at HZ ⊢;clear hr HPr;go_wp2_with (refine qAi rfl 60 (.tmp 4) (.tmp 28) rfl (w.heap.size+1+1) 60 _ _ (by exact rfl) (by exact rfl) HB1.out (by exact rfl) (by exact qHh) (by simp [Value.oneCell']) ?_);refine bodyPost_ret (v:=.tuple #[.agg #[.int .i64 0,.int .i64 0],.bool false]) ?_ rfl ⟨?_,?_⟩
   · exact part_ret (HB1.out.put _) rfl rfl
   · rw [HV.out]
   · exact HX1.out.put (by omega) _ _
end
section
open Go.RowKit
set_option maxHeartbeats 4000000 in
theorem EPieces_any (e:Edl) (A:Option Addr) (n c:Nat) (s:ByteArray) (w:World) (hE:Env w) (hl:qBd w A n e.cuts) (hn:n≤1000000) (hok:qJr e) :
 Calls Tryz.prog 14 #[.agg (e.cells A n c),.string s] w (LPost Pc.vals 5 (pcsE e s) (qAn e) w):=by
 have HL:=gH hl;have HLn:=gH hl.len;have HX:=gH ((Ext.refl w).alloc (.cells (e.cells A n c) 28));have HB0:=gH (Blk.new w 28 (e.cells A n c));have HCk:=gH (fun w' (hx:Ext w w')=>qKj e A n c w' (hE.ext hx) (hl.ext hx) hn hok.r0 hok.r1 hok.title hok.fits);have HSn:=gH (fun (h:qAn e=0) (c:Cut) (hc:c∈e.cuts)=>qFl h hc);(have HEr:Hid (qAn e≠0→pcsE e s=[]):=fun h=>by unfold pcsE;rw [if_neg h]);(have HOk:Hid (qAn e=0→pcsE e s=pcsC e.cuts s):=fun h=>by unfold pcsE;rw [if_pos h]);(have HFew:Hid (qAn e=0→¬ 64<e.cuts.length):=fun h=>(qEm h).2.2.2.1);clear hl hok hE;unfold LPost;unfold Edl.cells at *;go_enter Tryz.func14,Tryz.ntmps14;go_wp2_with (refine qAc rfl 28 (.tmp 2) rfl w.heap.size 28 _ _ (by exact rfl) (by exact HB0.out) Tryz.underlying28 rfl (by exact qBy) ?_);refine (HCk.out _ HX.out).mono ?_;rintro en w1 ⟨rfl,hx1⟩;have HX1:=gH (HX.out.trans hx1);have HBl:=gH (HB0.out.ext hx1);clear hx1 HB0 HX HCk
 by_cases hee:qAn e=0
 case neg =>
  (have hne:(qAn e != 0)=true:=by simpa using hee);have HZ:=gH (HEr.out hee);clear hee;go_wp2_with fail;go_ret2;exact ⟨none,0,by rw [HZ.out];rfl,by rw [HZ.out];exact Sl.nil,by rw [HZ.out];exact Nat.le_refl _,HX1.out,fun ad h=>by cases h⟩
 have HSn:=gH (HSn.out hee);have hfew:=HFew.out hee;have HZ:=gH (HOk.out hee);rw [hee];have HE0:=gH hee;clear hee HEr HOk HFew;(have hn64:n≤64:=by have:=HLn.out;omega);clear hfew;(have hcell1:=fun o=>HBl.out.cell o);have hz1:=HX1.out.size;go_wp2_with fail;clear hcell1
 go_loopw [7,18] (fun v i wr=>LRel Pc.vals 5 95 w1 n (fun k=>pcsC (e.cuts.take k) s) v i wr) (fun _ i _=>n-(intOf i).toNat)
 case atStart=>exact ⟨0,Nat.zero_le _,rfl,Ext.refl _,⟨rfl,.inl ⟨rfl,rfl⟩⟩⟩
 case round =>
  obtain ⟨k,hk,rfl,hx,hown⟩:=hrel;have HXr:=gH hx;have HO:=gH hown;have hjl:=pcsC_len e.cuts s k;have hzr:=hx.size;dsimp only at HO;clear hx hown
  by_cases hlt:k<n
  · obtain ⟨b,off,r,rfl,hr,c0,c1,c2,c3,c4,c5,c6⟩:=(HL.out.ext (HX1.out.trans HXr.out)).at7 hlt
    have HBc:=gH (Blk.new wr 91 r.cells);have HXc:=gH ((Ext.refl wr).alloc (.cells r.cells 91));have HSr:=gH (HSn.out r (List.mem_of_getElem? hr));unfold Cut.cells at HBc HXc
    by_cases he:r.reel=s
    · skip
      (have he':(r.reel.toList == s.toList)=true:=by rw [qHu];simpa using he);have HT:=gH (pcsC_yes hr he);clear hr he;generalize pcsC (e.cuts.take k) s=os at *;unfold Cut.pc at HT;go_upto_region 9 with fail;have HO2:=gH (qAh HO.out HXc.out);have hz2:=HXc.out.size;obtain ⟨W2,hW2⟩:∃ W2,W2=wr.alloc (.cells #[.int .i64 r.num,.string r.reel,.int .i64 r.src,.int .i64 r.inn,.int .i64 r.out,.int .i64 r.n,.int .i64 r.d] 91):=⟨_,rfl⟩;rw [← hW2] at HBc HXc HO2 hz2 ⊢;clear hW2;(have hcl:=fun o=>HBc.out.cell o);go_wp2_with (at_builtin;refine qAf rfl (.tmp 26) (.tmp 38) 30 rfl info_pc Tryz.underlying30 rfl (by decide) (HO2.out.alloc _) (by exact rfl) W2.heap.size _ (by exact rfl) (by exact Blk.new' rfl) (by exact rfl) (by simp [Value.oneCell']) (by omega) (by simp [maxLen]<;>omega) (by first | omega | (simp;omega) | simp) ?_;intro v5 w5 hown5 hgr;have HO5:=gH hown5;have HX5:=gH (Ext.grown ((HXr.out.trans HXc.out).alloc _) hgr (fun q hq=>qAp HO.out q hq));clear hown5 hgr);exact ⟨⟨k+1,by omega,by go_num,HX5.out,by dsimp only;rw [HT.out,List.length_append,List.flatMap_append];exact HO5.out⟩,by simp [intOf];omega⟩
    · have he':(r.reel.toList == s.toList)=false:=by rw [qHu];simpa using he
      have HT:=gH (pcsC_no hr he);clear hr he;go_wp2_with fail;exact ⟨⟨k+1,by omega,by go_num,HXr.out.trans HXc.out,by dsimp only;rw [HT.out];exact qAh HO.out HXc.out⟩,by simp [intOf];omega⟩
  · have hkn:k=n:=by omega
    subst hkn;(have HTk:Hid ((pcsC (e.cuts.take k) s)=pcsC e.cuts s):=by show _=_;rw [List.take_of_length_le (by have:=HLn.out;omega)]);rw [HTk.out] at HO hjl;obtain ⟨A',c',rfl,hc,_,hS,hfr⟩:=qBg (f:=Pc.vals) (size:=5) (fun _=>rfl) rfl HO.out;have HR:=gH (And.intro hc (And.intro hS (And.intro hfr (HX1.out.trans HXr.out))));clear hc hS hfr HO;go_wp2_with fail;go_ret2;exact ⟨A',c',by rw [HZ.out,HE0.out];rfl,by rw [HZ.out];exact HR.out.2.1,by rw [HZ.out];exact HR.out.1,HR.out.2.2.2,fun ad h=>Nat.le_trans hz1 (HR.out.2.2.1 ad h)⟩
set_option maxHeartbeats 4000000 in
theorem EPlayed_any (e:Edl) (A:Option Addr) (n c:Nat) (s:ByteArray) (w:World) (hE:Env w) (hl:qBd w A n e.cuts) (hn:n≤1000000) (hok:qJr e) :
 Calls Tryz.prog 18 #[.agg (e.cells A n c),.string s] w (LPost Spn.vals 2 (plE e s) (qAn e) w):=by
 have HL:=gH hl;have HLn:=gH hl.len;have HX:=gH ((Ext.refl w).alloc (.cells (e.cells A n c) 28));have HB0:=gH (Blk.new w 28 (e.cells A n c));have HCk:=gH (fun w' (hx:Ext w w')=>qKj e A n c w' (hE.ext hx) (hl.ext hx) hn hok.r0 hok.r1 hok.title hok.fits);have HSn:=gH (fun (h:qAn e=0) (c:Cut) (hc:c∈e.cuts)=>qFl h hc);(have HEr:Hid (qAn e≠0→plE e s=[]):=fun h=>by unfold plE;rw [if_neg h]);(have HOk:Hid (qAn e=0→plE e s=qDf (plC e.cuts s)):=fun h=>by unfold plE;rw [if_pos h]);(have HFew:Hid (qAn e=0→¬ 64<e.cuts.length):=fun h=>(qEm h).2.2.2.1);clear hl hok hE;unfold LPost;unfold Edl.cells at *;go_enter Tryz.func18,Tryz.ntmps18;go_wp2_with (refine qAc rfl 28 (.tmp 2) rfl w.heap.size 28 _ _ (by exact rfl) (by exact HB0.out) Tryz.underlying28 rfl (by exact qBy) ?_);refine (HCk.out _ HX.out).mono ?_;rintro en w1 ⟨rfl,hx1⟩;have HX1:=gH (HX.out.trans hx1);have HBl:=gH (HB0.out.ext hx1);clear hx1 HB0 HX HCk
 by_cases hee:qAn e=0
 case neg =>
  (have hne:(qAn e != 0)=true:=by simpa using hee);have HZ:=gH (HEr.out hee);clear hee;go_wp2_with fail;go_ret2;exact ⟨none,0,by rw [HZ.out];rfl,by rw [HZ.out];exact Sl.nil,by rw [HZ.out];exact Nat.le_refl _,HX1.out,fun ad h=>by cases h⟩
 have HSn:=gH (HSn.out hee);have hfew:=HFew.out hee;have HZ:=gH (HOk.out hee);rw [hee];have HE0:=gH hee;clear hee HEr HOk HFew;(have hn64:n≤64:=by have:=HLn.out;omega);clear hfew;(have hcell1:=fun o=>HBl.out.cell o);have hz1:=HX1.out.size;go_wp2_with fail;clear hcell1
 go_loopw [7,18] (fun v i wr=>LRel Spn.vals 2 60 w1 n (fun k=>plC (e.cuts.take k) s) v i wr) (fun _ i _=>n-(intOf i).toNat)
 case atStart=>exact ⟨0,Nat.zero_le _,rfl,Ext.refl _,⟨rfl,.inl ⟨rfl,rfl⟩⟩⟩
 case round =>
  obtain ⟨k,hk,rfl,hx,hown⟩:=hrel;have HXr:=gH hx;have HO:=gH hown;have hjl:=plC_len e.cuts s k;have hzr:=hx.size;dsimp only at HO;clear hx hown
  by_cases hlt:k<n
  · obtain ⟨b,off,r,rfl,hr,c0,c1,c2,c3,c4,c5,c6⟩:=(HL.out.ext (HX1.out.trans HXr.out)).at7 hlt
    have HBc:=gH (Blk.new wr 91 r.cells);have HXc:=gH ((Ext.refl wr).alloc (.cells r.cells 91));have HSr:=gH (HSn.out r (List.mem_of_getElem? hr));unfold Cut.cells at HBc HXc
    by_cases he:r.reel=s
    · skip
      (have he':(r.reel.toList == s.toList)=true:=by rw [qHu];simpa using he);have HT:=gH (plC_yes hr he);clear hr he;generalize plC (e.cuts.take k) s=os at *;have HSo:=gH (fun w'=>source_any r (r.out-1) w' HSr.out (by have:=HSr.out.2.1;omega) (by omega));have hsb:=srcAt_bd HSr.out (t:=r.out-1) (by have:=HSr.out.2.1;omega) (by omega);have hob:=HSr.out.2.2.1;have hob2:=HSr.out.2.1;have hob3:=HSr.out.1;unfold Cut.pl at HT;unfold Cut.cells at HSo;go_upto_region 9 with fail;generalize hsa:qFr r (r.out-1)=sa at *;clear hsa;have HO2:=gH (qAh HO.out HXc.out);have hz2:=HXc.out.size;obtain ⟨W2,hW2⟩:∃ W2,W2=wr.alloc (.cells #[.int .i64 r.num,.string r.reel,.int .i64 r.src,.int .i64 r.inn,.int .i64 r.out,.int .i64 r.n,.int .i64 r.d] 91):=⟨_,rfl⟩;rw [← hW2] at HBc HXc HO2 hz2 ⊢;clear hW2
      refine qAy [some 26,some 27,some 28,some 29,some 30,some 31,some 32,some 33,some 34,some 35,some 36,some 37,some 38,some 7] [[],[],[1],[],[],[4],[5],[6],[3,7],[8],[2,9],[10],[0,11,8],[12,12,0,1,2,3,4,5,6,7,8,9,10,11,12]] [8,11,12,13] [u7,.pointer (some ⟨wr.heap.size,2,none⟩),.int .i64 r.src,.agg #[.int .i64 r.num,.string r.reel,.int .i64 r.src,.int .i64 r.inn,.int .i64 r.out,.int .i64 r.n,.int .i64 r.d],.pointer (some ⟨wr.heap.size,3,none⟩),.pointer (some ⟨wr.heap.size,3+1,none⟩),.int .i64 r.out,.int .i64 (r.out-1),undef,.int .i64 (sa+1),.agg #[.int .i64 r.src,.int .i64 (sa+1)],undef,undef,undef] (PyJ sa #[.int .i64 r.src,.int .i64 (sa+1)] w1.heap.size u7 os.length (os.flatMap Spn.vals) W2) (by kernel_rfl) (by kernel_rfl) (by kernel_rfl) (by kernel_rfl) (by kernel_rfl) (by kernel_rfl) (by kernel_rfl) (by decide) ?_ ?_ ?_ ?_
      · exact PyJ.start W2
      · intro i o ho hc a w' us K' hJ hF hlim hk
        match i,ho with
        | 0,ho =>
         simp only [gA,gB,gC,gD] at ho;subst ho;have e7:=hF.olds 3 13 7 (u7) rfl rfl (hlim 3 13 rfl rfl) rfl;simp only [Act.eval] at e7;clear hF hlim hJ;go_simp;exact hk
        | 1,ho =>
         simp only [gA,gB,gC,gD] at ho;subst ho;have e9:=hF.old 9 (.pointer (some ⟨wr.heap.size,0,none⟩)) rfl rfl;simp only [Act.eval] at e9;clear hF hlim hJ;go_simp;exact hk
        | 2,ho =>
         simp only [gA,gB,gC,gD] at ho;subst ho;have e27:=hF.pure 1 27 (.pointer (some ⟨wr.heap.size,2,none⟩)) rfl rfl rfl rfl;have hcl:=(HBc.out.only hJ.only (by decide)).cell 2;simp only [gA,gB,gC] at hcl;simp only [Act.eval] at e27;clear hF hlim hJ;go_simp;exact hk
        | 3,ho =>
         simp only [gA,gB,gC,gD] at ho;subst ho;have e9:=hF.old 9 (.pointer (some ⟨wr.heap.size,0,none⟩)) rfl rfl;exact qCd 91 (.tmp 9) rfl wr.heap.size 91 _ _ e9 (HBc.out.only hJ.only (by decide)) Tryz.underlying91 rfl (by exact qCk) hk
        | 4,ho =>
         simp only [gA,gB,gC,gD] at ho;subst ho;have e9:=hF.old 9 (.pointer (some ⟨wr.heap.size,0,none⟩)) rfl rfl;simp only [Act.eval] at e9;clear hF hlim hJ;go_simp;exact hk
        | 5,ho =>
         simp only [gA,gB,gC,gD] at ho;subst ho;have e30:=hF.pure 4 30 (.pointer (some ⟨wr.heap.size,3,none⟩)) rfl rfl rfl rfl;simp only [Act.eval] at e30;clear hF hlim hJ;go_simp;exact hk
        | 6,ho =>
         simp only [gA,gB,gC,gD] at ho;subst ho;have e31:=hF.pure 5 31 (.pointer (some ⟨wr.heap.size,3+1,none⟩)) rfl rfl rfl rfl;have hcl:=(HBc.out.only hJ.only (by decide)).cell 4;simp only [gA,gB,gC] at hcl;simp only [Act.eval] at e31;clear hF hlim hJ;go_simp;exact hk
        | 7,ho =>
         simp only [gA,gB,gC,gD] at ho;subst ho;have e32:=hF.pure 6 32 (.int .i64 r.out) rfl rfl rfl rfl;exact qCh rfl e32 rfl (by first | (go_simp;done) | (go_simp;exact qCq (by omega) (by omega))) hk
        | 8,ho=>simp at hc
        | 9,ho =>
         simp only [gA,gB,gC,gD] at ho;subst ho;obtain ⟨v34,hv34⟩:=qBq (hF.did 0 8 rfl rfl);have e34:=hF.link 0 8 34 _ rfl rfl rfl hv34;have hu:=hJ.val v34 hv34;subst hu;exact qCh rfl e34 rfl (by first | (go_simp;done) | (go_simp;exact qCq (by omega) (by omega))) hk
        | 10,ho =>
         simp only [gA,gB,gC,gD] at ho;subst ho;have e28:=hF.pure 2 28 (.int .i64 r.src) rfl rfl rfl rfl;have e35:=hF.pure 9 35 (.int .i64 (sa+1)) rfl rfl rfl rfl;simp [Act.eval] at e28 e35;clear hF hlim hJ;go_simp;exact hk
        | 11,ho | 12,ho | 13,ho=>simp at hc
        | i+14,ho=>simp at ho
      · intro p c' o hp ho a w' us K' hl hJ hF hk
        match p,hp with
        | 0,hp =>
         (obtain rfl:8=c':=by simpa using hp);simp only [gA,gB,gC,gD] at ho;subst ho;obtain rfl:us=[]:=List.eq_nil_of_length_eq_zero hl;have e29:=hF.pure 3 29 (.agg #[.int .i64 r.num,.string r.reel,.int .i64 r.src,.int .i64 r.inn,.int .i64 r.out,.int .i64 r.n,.int .i64 r.d]) rfl rfl rfl rfl;have e33:=hF.pure 7 33 (.int .i64 (r.out-1)) rfl rfl rfl rfl;exact qDc rfl e29 e33 Tryz.call45 (HSo.out _) (fun w5 hx5=>hk _ w5 (hJ.call hx5))
        | 1,hp =>
         (obtain rfl:11=c':=by simpa using hp);simp only [gA,gB,gC,gD] at ho;subst ho;obtain ⟨u0,rfl⟩:=qEq hl;have e36:=hF.pure 10 36 (.agg #[.int .i64 r.src,.int .i64 (sa+1)]) rfl rfl rfl rfl;have HK:=gH (hk (.slice (some ⟨w'.heap.size,0,none⟩) 1 1) (w'.alloc (.cells #[.int .i64 r.src,.int .i64 (sa+1)] 60)) hJ.build);simp [Act.eval] at e36;clear hk hF hJ;go_simp;exact HK.out
        | 2,hp =>
         (obtain rfl:12=c':=by simpa using hp);simp only [gA,gB,gC,gD] at ho;subst ho;obtain ⟨u0,u1,rfl⟩:=qEo hl;obtain ⟨⟨g8,rfl,hB8⟩,hx8⟩:=hJ.st;have e26:=hF.pure 0 26 (u7) rfl rfl rfl rfl;have e37:=hF.link 1 11 37 _ rfl rfl rfl rfl;exact qHw (.tmp 26) (.tmp 37) 35 rfl qBe Tryz.underlying35 rfl (by decide) (qAh HO2.out hx8) e26 g8 _ e37 hB8 rfl (by simp [Value.oneCell']) (by omega) (by simp [maxLen];omega) (by have:=hx8.size;omega) (fun v' w9 ho9 hg9=>hk v' w9 (hJ.app (qAj (qAh HO2.out hx8)) hg9 ho9))
        | 3,hp =>
         (obtain rfl:13=c':=by simpa using hp);simp only [gA,gB,gC,gD] at ho;subst ho;obtain ⟨u0,u1,u2,rfl⟩:=qHg hl;have e38:=hF.link 2 12 38 _ rfl rfl rfl rfl;exact qCi _ _ rfl e38 (hk _ _ hJ.asg)
        | p+4,hp=>simp at hp
      intro us w5 hl hJ;obtain ⟨uu0,uu1,uu2,uu3,rfl⟩:=qLr hl
      first | (rename_i hK;refine hK _ _ ?_;clear hK) | (rename_i hK hK_1;refine hK _ _ ?_;clear hK) | (rename_i hK hK_1 hK_2;refine hK _ _ ?_;clear hK) | (rename_i hK hK_1 hK_2 hK_3;refine hK _ _ ?_;clear hK)
      generalize hL:qDx _ _ _ _=L;obtain rfl:L=[(26,u7),(27,.pointer (some ⟨wr.heap.size,2,none⟩)),(28,.int .i64 r.src),(29,.agg #[.int .i64 r.num,.string r.reel,.int .i64 r.src,.int .i64 r.inn,.int .i64 r.out,.int .i64 r.n,.int .i64 r.d]),(30,.pointer (some ⟨wr.heap.size,3,none⟩)),(31,.pointer (some ⟨wr.heap.size,3+1,none⟩)),(32,.int .i64 r.out),(33,.int .i64 (r.out-1)),(34,uu0),(35,.int .i64 (sa+1)),(36,.agg #[.int .i64 r.src,.int .i64 (sa+1)]),(37,uu1),(38,uu2),(7,uu3)]:=hL.symm.trans (by kernel_rfl);clear hL hl;simp only [Act.put,List.foldl_cons,List.foldl_nil,List.setIfInBounds_toArray,List.set_cons_zero,List.set_cons_succ];obtain ⟨rfl,w6,hx6,hg6,ho6⟩:=hJ.st;have HO5:=gH ho6;have HX5:=gH (Ext.grown ((HXr.out.trans HXc.out).trans hx6) hg6 (fun q hq=>qAp HO.out q hq));clear hx6 hg6 ho6;go_wp2_with fail;exact ⟨⟨k+1,by omega,by go_num,HX5.out,by dsimp only;rw [HT.out,List.length_append,List.flatMap_append];exact HO5.out⟩,by simp [intOf];omega⟩
    · have he':(r.reel.toList == s.toList)=false:=by rw [qHu];simpa using he
      have HT:=gH (plC_no hr he);clear hr he;go_wp2_with fail;exact ⟨⟨k+1,by omega,by go_num,HXr.out.trans HXc.out,by dsimp only;rw [HT.out];exact qAh HO.out HXc.out⟩,by simp [intOf];omega⟩
  · have hkn:k=n:=by omega
    subst hkn;(have HTk:Hid ((plC (e.cuts.take k) s)=plC e.cuts s):=by show _=_;rw [List.take_of_length_le (by have:=HLn.out;omega)]);rw [HTk.out] at HO hjl;obtain ⟨A',c',rfl,hc,_,hS,hfr⟩:=qBg (f:=Spn.vals) (size:=2) (fun _=>rfl) rfl HO.out;have HN:=gH (Norm_ok A' (plC e.cuts s).length c' (plC e.cuts s) wr hS (by omega) (fun x hx _=>by obtain ⟨c,hc,rfl⟩:=List.mem_map.1 hx;exact pl_sane (HSn.out c (List.mem_filter.1 hc).1)));unfold qCf at HN;clear hc hS hfr HO;go_wp2_with fail;refine HN.out.mono ?_;rintro en2 w2 ⟨A2,c2,rfl,h1,h2,h3,h4⟩;have HR:=gH (And.intro h2 (And.intro h1 (And.intro h4 ((HX1.out.trans HXr.out).trans h3))));clear h1 h2 h3 h4 HN;go_wp2_with fail;go_ret2;exact ⟨A2,c2,by rw [HZ.out,HE0.out];rfl,by rw [HZ.out];exact HR.out.2.1,by rw [HZ.out];exact HR.out.1,HR.out.2.2.2,fun ad h=>Nat.le_trans (Nat.le_trans hz1 hzr) (HR.out.2.2.1 ad h)⟩
end
section
open Go.RowKit
theorem qNx:(Tryz.prog.info? 91).map (fun i=>(i.zero,i.size,i.bytes))=some (some (.agg #[.int .i64 0,.string ⟨#[]⟩,.int .i64 0,.int .i64 0,.int .i64 0,.int .i64 0,.int .i64 0]),7,64):=by kernel_rfl
def JoinRel (w1:World) (n:Nat) (l:List Cut) (v i:Value) (wr:World):Prop :=
 ∃ k:Nat,k≤n∧i = .int .i64 k∧Ext w1 wr∧wr.ownsRow w1.heap.size 91 7 v (qAx (l.take k)).length ((qAx (l.take k)).flatMap Cut.vals)
section
variable {o:Oper} {a:Act} {w:World} {K:Act→World→Prop} {Q:Exit→Act→World→Prop}
theorem qHt {s:Nat} (ho:o.op = .load 91 (.tmp s)) (g off:Nat) (c:Cut) (hx:a.eval (.tmp s) = .pointer (some ⟨g,off,none⟩)) (hC:Cells Cut.vals w g off c) (h:K (a.put o.dst (.agg c.cells)) w):o.wp Tryz.prog a w K Q:=by
 obtain ⟨dst,op,ty,pos,after,guard⟩:=o;simp only at ho;subst ho;(have fx:a.tmps[s]?.getD undef = .pointer (some ⟨g,off,none⟩):=by simpa [Act.eval] using hx);(have c0:w.cell? ⟨g,off,none⟩=some (.int .i64 c.num):=by simpa using hC 0 _ rfl);have c1:=hC 1 _ rfl;have c2:=hC 2 _ rfl;have c3:=hC 3 _ rfl;have c4:=hC 4 _ rfl;have c5:=hC 5 _ rfl;have c6:=hC 6 _ rfl;unfold Cut.cells at h;clear hC hx;go_simp;exact h
theorem qLg {s s':Nat} {b off n c k:Nat} (ho:o.op = .indexAddr 23 (.tmp s) (.tmp s')) (hx:a.eval (.tmp s) = .slice (some ⟨b,off,none⟩) n c) (hy:a.eval (.tmp s') = .int .i64 k) (hk:k<n) (h:K (a.put o.dst (.pointer (some ⟨b,off+k*7,none⟩))) w):o.wp Tryz.prog a w K Q:=by
 obtain ⟨dst,op,ty,pos,after,guard⟩:=o;simp only at ho;subst ho;(have fx:a.tmps[s]?.getD undef = .slice (some ⟨b,off,none⟩) n c:=by simpa [Act.eval] using hx);(have fy:a.tmps[s']?.getD undef = .int .i64 k:=by simpa [Act.eval] using hy);clear hx hy;go_simp;exact h
end
theorem qBd.same {w w':World} {A:Option Addr} {n:Nat} {l:List Cut} (h:qBd w A n l) (hA:∀ ad,A=some ad→∀ o,w'.cell? ⟨ad.block,o,none⟩=w.cell? ⟨ad.block,o,none⟩):qBd w' A n l :=
 ⟨h.1,fun hn=>(h.2 hn).elim fun b hb=>hb.elim fun off ho=>⟨b,off,ho.1,fun i x hx j u hu=>(hA _ ho.1 _).trans (ho.2 i x hx j u hu)⟩⟩
theorem own_cell {w:World} {base:Nat} {v:Value} {ps:List Cut} {p:Cut} (h:w.ownsRow base 91 7 v (ps.length+1) ((ps++[p]).flatMap Cut.vals)):∃ g cap,v = .slice (some ⟨g,0,none⟩) (ps.length+1) cap∧base≤g∧g<w.heap.size∧Cells Cut.vals w g (ps.length*7) p:=by
 obtain ⟨g,cap,rfl,h1,h2⟩:=qFn h (by omega);obtain ⟨A',c',he,_,_,hS,_⟩:=qBg (f:=Cut.vals) (size:=7) (fun _=>rfl) (l:=ps++[p]) (by simp) h;injection he with e1 e2 e3;subst e1;obtain ⟨b,off,x,hA,hx,hC⟩:=hS.at_ (i:=ps.length) (by omega);injection hA with hA;injection hA with e4 e5;subst e4 e5;(have:x=p:=by simpa using hx.symm);subst this;exact ⟨g,cap,rfl,h1,h2,by simpa using hC⟩
theorem set_out {ps:List Cut} {p c:Cut}:((ps++[p]).flatMap Cut.vals).set (ps.length*7+4) (.int .i64 c.out)=(ps++[p.upto c]).flatMap Cut.vals:=by
 have hl:(ps.flatMap Cut.vals).length=ps.length*7:=qDm Cut.vals 7 (fun _=>rfl) ps;rw [List.flatMap_append,List.flatMap_append,List.set_append_right _ _ (by omega),hl]
 congr 1
 rw [show ps.length*7+4-ps.length*7=4 by omega];rfl
end
end Go.Proofs.YtablhmobekmflaaGreatDoor