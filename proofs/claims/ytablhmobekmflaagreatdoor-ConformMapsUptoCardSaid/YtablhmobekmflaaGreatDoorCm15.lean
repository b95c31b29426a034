/- Texts laid together. -/
import Derived.Test.YtablhmobekmflaaGreatDoorCm10
import Derived.Test.YtablhmobekmflaaGreatDoorCm02
import Derived.Test.YtablhmobekmflaaGreatDoorCm12
import Derived.Test.YtablhmobekmflaaGreatDoorCm14
import Derived.Test.YtablhmobekmflaaGreatDoorCm05
import Derived.Test.YtablhmobekmflaaGreatDoorCm09
import Derived.Test.YtablhmobekmflaaGreatDoorCm04
import Derived.Test.YtablhmobekmflaaGreatDoorCm03
set_option linter.unusedVariables false
set_option linter.unusedSimpArgs false
set_option maxRecDepth 100000
namespace Go.Proofs.YtablhmobekmflaaGreatDoor
section
def nmR (r:Reg):Bs:=r.name.toList
def qHb (o:List Reg) (g:Reg):List Reg:=if g∈o then o else o++[g]
def uqR (l:List Reg):List Reg:=l.foldl qHb []
theorem uq_fold:∀ (l o:List Reg),o.Nodup→(l.foldl qHb o).Nodup∧∀ x,x∈l.foldl qHb o↔x∈o∨x∈l
 | [],o,h=>⟨h,fun x=>by simp⟩
 | g :: l,o,h=>by
  have hs:(qHb o g).Nodup∧∀ x,x∈qHb o g↔x∈o∨x=g:=by
   unfold qHb
   split
   · rename_i hg
     refine ⟨h,fun x=>⟨fun hx=>.inl hx,fun hx=>?_⟩⟩
     rcases hx with hx | rfl
     · exact hx
     · exact hg
   · rename_i hg
     refine ⟨List.nodup_append.2 ⟨h,by simp,fun a ha b hb=>?_⟩,fun x=>by simp⟩;(simp at hb;subst hb);(rintro rfl;exact hg ha)
  obtain ⟨k1,k2⟩:=uq_fold l (qHb o g) hs.1;refine ⟨k1,fun x=>?_⟩;rw [List.foldl_cons,k2,hs.2];simp [or_assoc]
theorem uqR_ok (l:List Reg):(uqR l).Nodup∧∀ x,x∈uqR l↔x∈l:=by
 have h:=uq_fold l [] List.nodup_nil;exact ⟨h.1,fun x=>by have:=h.2 x;unfold uqR;rw [this];simp⟩
def Conf (l:List Reg):Prop:=∃ a∈l,∃ b∈l,nmR a=nmR b∧a≠b
def adjB:List Reg→Bool
 | []=>false
 | [_]=>false
 | x :: y :: l=>decide (nmR y=nmR x) || adjB (y :: l)
def LeR (x y:Reg):Prop:=¬ nmR y<nmR x
theorem leR_trans {x y z:Reg} (h:LeR x y) (k:LeR y z):LeR x z:=fun hc=>by
 unfold LeR at h k;have h1:nmR x≤nmR y:=List.not_lt.1 h;have h2:nmR y≤nmR z:=List.not_lt.1 k;exact Bs.lt_irrefl _ (Bs.lt_of_le_of_lt (Bs.le_trans h1 h2) hc)
theorem adj_none:∀ {m:List Reg},m.Pairwise LeR→adjB m=false→m.Pairwise fun x y=>nmR x<nmR y
 | [],_,_=>List.Pairwise.nil
 | [x],_,_=>by simp
 | x :: y :: l,h,ha=>by
  unfold adjB at ha;simp only [Bool.or_eq_false_iff,decide_eq_false_iff_not] at ha;rw [List.pairwise_cons] at h;have ih:=adj_none h.2 ha.2;have hxy:nmR x<nmR y:=Bs.lt_of_le_of_ne (List.not_lt.1 (h.1 y (by simp))) (fun e=>ha.1 e.symm);refine List.pairwise_cons.2 ⟨fun z hz=>?_,ih⟩
  rcases List.mem_cons.1 hz with rfl | hz
  · exact hxy
  · exact Bs.lt_trans hxy ((List.pairwise_cons.1 ih).1 z hz)
theorem adj_some:∀ {m:List Reg},m.Nodup→adjB m=true→Conf m
 | [],_,h=>by simp [adjB] at h
 | [x],_,h=>by simp [adjB] at h
 | x :: y :: l,hn,h=>by
  unfold adjB at h;simp only [Bool.or_eq_true,decide_eq_true_eq] at h;rw [List.nodup_cons] at hn
  rcases h with h | h
  · exact ⟨x,by simp,y,by simp,h.symm,fun e=>hn.1 (by rw [e];simp)⟩
  · obtain ⟨a,ha,b,hb,k⟩:=adj_some hn.2 h
    exact ⟨a,List.mem_cons_of_mem _ ha,b,List.mem_cons_of_mem _ hb,k⟩
theorem qOr {m:List Reg} (h:m.Pairwise fun x y=>nmR x<nmR y):¬ Conf m:=by
 rintro ⟨a,ha,b,hb,he,hne⟩;obtain ⟨i,hi,rfl⟩:=List.mem_iff_getElem.1 ha;obtain ⟨j,hj,rfl⟩:=List.mem_iff_getElem.1 hb;have hp:=List.pairwise_iff_getElem.1 h
 rcases Nat.lt_trichotomy i j with hij | hij | hij
 · have:=hp i j hi hj hij;rw [he] at this;exact Bs.lt_irrefl _ this
 · subst hij;exact hne rfl
 · have:=hp j i hj hi hij;rw [he] at this;exact Bs.lt_irrefl _ this
theorem conf_congr {l m:List Reg} (h:∀ x,x∈l↔x∈m):Conf l↔Conf m:=by
 unfold Conf
 constructor
 · rintro ⟨a,ha,b,hb,k⟩;exact ⟨a,(h a).1 ha,b,(h b).1 hb,k⟩
 · rintro ⟨a,ha,b,hb,k⟩;exact ⟨a,(h a).2 ha,b,(h b).2 hb,k⟩
theorem adj_conf {l m:List Reg} (hp:m.Perm (uqR l)) (hs:m.Pairwise LeR):adjB m=true↔Conf l:=by
 (have hc:Conf l↔Conf m:=conf_congr fun x=>by rw [hp.mem_iff,(uqR_ok l).2]);rw [hc]
 constructor
 · exact adj_some (hp.nodup_iff.2 (uqR_ok l).1)
 · intro h
   cases ha:adjB m with
   | true=>rfl
   | false=>exact absurd h (qOr (adj_none hs ha))
def qDa (o:List Reg) (r:Reg):Nat:=(o.takeWhile fun x=>decide (nmR x<nmR r)).length
def qJd (o:List Reg) (r:Reg):Option (List Reg) :=
 match o[qDa o r]? with
 | some y=>if nmR y=nmR r then (if y=r then some o else none) else some (o.take (qDa o r)++r :: o.drop (qDa o r))
 | none=>some (o.take (qDa o r)++r :: o.drop (qDa o r))
def qGu:Option (List Reg)→Reg→Option (List Reg):=fun o r=>o.bind fun o=>qJd o r
def refR (l:List Reg):Option (List Reg):=l.foldl qGu (some [])
theorem twR_mem {p:Reg→Bool} {x:Reg}:∀ {l:List Reg},x∈l.takeWhile p→p x=true
 | [],h=>by simp at h
 | a :: l,h=>by
  rw [List.takeWhile_cons] at h
  split at h
  · rename_i ha
    rcases List.mem_cons.1 h with rfl | h
    · exact ha
    · exact twR_mem h
  · simp at h
theorem ins_split (o:List Reg) (r:Reg):∃ A B,o=A++B∧A.length=qDa o r∧(∀ x∈A,nmR x<nmR r)∧∀ y,B.head?=some y→¬ nmR y<nmR r:=by
 refine ⟨o.takeWhile fun x=>decide (nmR x<nmR r),o.dropWhile fun x=>decide (nmR x<nmR r),List.takeWhile_append_dropWhile.symm,rfl,fun x hx=>?_,fun y hy=>?_⟩
 · have:=twR_mem hx
   simpa using this
 · have:=List.head?_dropWhile_not (fun x=>decide (nmR x<nmR r)) o
   rw [hy] at this;simpa using this
theorem qKy:∀ (l p:List Reg) (o:List Reg),(o.Pairwise fun x y=>nmR x<nmR y)→(∀ x,x∈o↔x∈p) →
 (∃ q,l.foldl qGu (some o)=some q∧(q.Pairwise fun x y=>nmR x<nmR y)∧∀ x,x∈q↔x∈p++l)∨(l.foldl qGu (some o)=none∧Conf (p++l))
 | [],p,o,h,hm=>.inl ⟨o,rfl,h,by simpa using hm⟩
 | r :: l,p,o,h,hm=>by
  have hnone:∀ l:List Reg,l.foldl qGu none=none:=by
   intro l;induction l with
   | nil=>rfl
   | cons a l ih=>exact ih
  obtain ⟨A,B,rfl,hl,hA,hB⟩:=ins_split o r;have hstep:qGu (some (A++B)) r=qJd (A++B) r:=rfl;rw [List.foldl_cons,hstep]
  have hget:(A++B)[qDa (A++B) r]?=B.head?:=by
   rw [← hl,List.getElem?_append_right (Nat.le_refl _),Nat.sub_self]
   cases B<;>rfl
  (have htk:(A++B).take (qDa (A++B) r)=A:=by rw [← hl];simp);(have hdr:(A++B).drop (qDa (A++B) r)=B:=by rw [← hl];simp);have hp:=List.pairwise_append.1 h
  have hins:(∀ y∈B,nmR r<nmR y)→((A++r :: B).Pairwise fun x y=>nmR x<nmR y)∧∀ x,x∈A++r :: B↔x∈p++[r]:=by
   intro hBr;refine ⟨List.pairwise_append.2 ⟨hp.1,List.pairwise_cons.2 ⟨hBr,hp.2.1⟩,fun x hx y hy=>?_⟩,fun x=>?_⟩
   · rcases List.mem_cons.1 hy with rfl | hy
     · exact hA x hx
     · exact hp.2.2 x hx y hy
   · have:=hm x
     simp only [List.mem_append,List.mem_cons,List.not_mem_nil,or_false] at this ⊢
     constructor
     · rintro (h1 | h1 | h1)
       · exact .inl (this.1 (.inl h1))
       · exact .inr h1
       · exact .inl (this.1 (.inr h1))
     · rintro (h1 | h1)
       · rcases this.2 h1 with h2 | h2
         · exact .inl h2
         · exact .inr (.inr h2)
       · exact .inr (.inl h1)
  (have happ:p++r :: l=(p++[r])++l:=by simp);unfold qJd;rw [hget,htk,hdr]
  cases B with
  | nil =>
   simp only [List.head?_nil];obtain ⟨k1,k2⟩:=hins (by simp);rw [happ];exact qKy l (p++[r]) _ k1 k2
  | cons y B =>
   simp only [List.head?_cons];have hy:=hB y rfl
   by_cases hyr:nmR y=nmR r
   · rw [if_pos hyr]
     by_cases hyr2:y=r
     · subst hyr2
       rw [if_pos rfl,happ];refine qKy l (p++[y]) _ h (fun x=>?_);rw [hm x]
       constructor
       · intro hx;simp [hx]
       · intro hx
         rcases List.mem_append.1 hx with hx | hx
         · exact hx
         · simp at hx;subst hx;exact (hm _).1 (by simp)
     · rw [if_neg hyr2]
       exact .inr ⟨hnone l,y,by simp [(hm y).1 (by simp)],r,by simp,hyr,hyr2⟩
   · rw [if_neg hyr]
     have hry:nmR r<nmR y:=Bs.lt_of_le_of_ne (List.not_lt.1 hy) (fun e=>hyr e.symm)
     obtain ⟨k1,k2⟩:=hins (fun z hz=>by
      rcases List.mem_cons.1 hz with rfl | hz
      · exact hry
      · exact Bs.lt_trans hry ((List.pairwise_cons.1 hp.2.1).1 z hz))
     rw [happ];exact qKy l (p++[r]) _ k1 k2
theorem strict_eq:∀ {a b:List Reg},(a.Pairwise fun x y=>nmR x<nmR y)→(b.Pairwise fun x y=>nmR x<nmR y)→(∀ x,x∈a↔x∈b)→a=b
 | [],[],_,_,_=>rfl
 | [],y :: b,_,_,h=>absurd ((h y).2 (by simp)) (by simp)
 | x :: a,[],_,_,h=>absurd ((h x).1 (by simp)) (by simp)
 | x :: a,y :: b,ha,hb,h=>by
  rw [List.pairwise_cons] at ha hb
  have hxy:x=y:=by
   rcases List.mem_cons.1 ((h x).1 (by simp)) with e | hx
   · exact e
   · rcases List.mem_cons.1 ((h y).2 (by simp)) with e | hy
     · exact e.symm
     · exact absurd (Bs.lt_trans (hb.1 x hx) (ha.1 y hy)) (Bs.lt_irrefl _)
  subst hxy
  congr 1
  (refine strict_eq ha.2 hb.2 fun z=>?_);have hz:=h z
  constructor
  · intro h1
    rcases List.mem_cons.1 (hz.1 (List.mem_cons_of_mem _ h1)) with rfl | h2
    · exact absurd (ha.1 z h1) (Bs.lt_irrefl _)
    · exact h2
  · intro h1
    rcases List.mem_cons.1 (hz.2 (List.mem_cons_of_mem _ h1)) with rfl | h2
    · exact absurd (hb.1 z h1) (Bs.lt_irrefl _)
    · exact h2
theorem regs_same {l m:List Reg} (hp:m.Perm (uqR l)) (hs:m.Pairwise LeR):(adjB m=true∧refR l=none)∨(adjB m=false∧refR l=some m∧(m.Pairwise fun x y=>nmR x<nmR y)∧∀ x,x∈m↔x∈l):=by
 have hm:∀ x,x∈m↔x∈l:=fun x=>by rw [hp.mem_iff,(uqR_ok l).2]
 rcases qKy l [] [] List.Pairwise.nil (by simp) with ⟨q,h1,h2,h3⟩ | ⟨h1,h2⟩
 · rw [List.nil_append] at h3
   cases ha:adjB m with
   | true=>exact absurd ((conf_congr h3).2 ((adj_conf hp hs).1 ha)) (qOr h2)
   | false =>
    have hst:=adj_none hs ha;have:m=q:=strict_eq hst h2 (fun x=>by rw [hm,h3]);exact .inr ⟨rfl,by rw [this];exact h1,hst,hm⟩
 · exact .inl ⟨(adj_conf hp hs).2 h2,h1⟩
end
section
open Go.RowKit
def qGc:Array Value:=#[.string ⟨#[]⟩,.int .u8 0,.bool false,.slice none 0 0]
section
variable {e:Edl} {a b:ByteArray} {n:Nat}
end
end
section
open Go.RowKit
set_option maxHeartbeats 2000000 in
theorem Of_any (e:Edl) (A:Option Addr) (n c:Nat) (w:World):Calls Tryz.prog 13 #[.agg (e.cells A n c)] w fun en w'=>en = .returned (.agg (e.cells A n c))∧Ext w w':=by
 have HX:=gH (((Ext.refl w).alloc (.cells (e.cells A n c) 25)).alloc (.cells qGc 28));have HB1:=gH (Blk.new' (w:=w.alloc (.cells (e.cells A n c) 25)) (g:=w.heap.size+1) (t:=28) (cs:=qGc) (by simp));unfold Edl.cells qGc at *;go_enter Tryz.func13,Tryz.ntmps13;go_wp2_with (refine qAi rfl 28 (.tmp 2) (.tmp 11) rfl (w.heap.size+1) 28 _ _ (by exact rfl) (by exact rfl) (by exact HB1.out) (by exact rfl) (by exact qBy) (by simp [Value.oneCell']) ?_);refine bodyPost_ret (v:=.agg #[.string e.title,.int .u8 e.rate,.bool e.drop,.slice A n c]) ?_ rfl ⟨rfl,?_⟩
 · exact qGa (P:=Tryz.prog) Tryz.results13 (g:=w.heap.size+1) rfl (by exact HB1.out.put _) Tryz.underlying28 rfl qBy
 · exact HX.out.put (by omega) _ _
def cutA:Cut:=⟨1,⟨#[65]⟩,250,0,100,1,1⟩
def cutB:Cut:=⟨2,⟨#[66]⟩,0,100,110,1,2⟩
def e0:Edl:=⟨⟨#[]⟩,3,false,[cutA,cutB]⟩
end
section
open Go.RowKit
end
section
open Go.RowKit
def qEr (a b:Cut):Bool:=decide (a.reel=b.reel∧a.n=1∧a.d=1∧b.n=1∧b.d=1∧a.out=b.inn∧a.src+a.out-a.inn=b.src)
--@gen goes
set_option maxHeartbeats 4000000 in
theorem goesOn_any (x y:Cut) (w:World) (hx:x.Sane) (hy:y.Sane):Calls Tryz.prog 115 #[.agg x.cells,.agg y.cells] w fun en w'=>en = .returned (.bool (qEr x y))∧Ext w w':=by
 obtain ⟨num,rl,src,inn,out,nn,dd⟩:=x;obtain ⟨num',rl',src',inn',out',nn',dd'⟩:=y;obtain ⟨sa1,sa2,sa3,sa4,sa5,sa6,sa7,sa8,sa9⟩:=hx;obtain ⟨sb1,sb2,sb3,sb4,sb5,sb6,sb7,sb8,sb9⟩:=hy;have HF:Hid (qEr ⟨num,rl,src,inn,out,nn,dd⟩ ⟨num',rl',src',inn',out',nn',dd'⟩=decide (rl=rl'∧nn=1∧dd=1∧nn'=1∧dd'=1∧out=inn'∧src+out-inn=src')):=rfl;have HX:=gH (((Ext.refl w).alloc (.cells (Cut.cells ⟨num,rl,src,inn,out,nn,dd⟩) 91)).alloc (.cells (Cut.cells ⟨num',rl',src',inn',out',nn',dd'⟩) 91));have HX1:=gH (HX.out.alloc (.cells #[.int .i64 1,.int .i64 1] 89));unfold Cut.cells at *;dsimp only at *
 by_cases hq0:rl=rl'
 case neg =>
  (have he':(rl.toList == rl'.toList)=false:=by rw [qHu];simpa using hq0);have HG:=gH (HF.out.trans (decide_eq_false (fun h=>hq0 h.1)));go_enter Tryz.func115,Tryz.ntmps115;go_wp2_with fail;go_ret;exact ⟨by rw [HG.out];first | rfl | (simp;done) | (simp;omega),(((Ext.refl w).alloc _).alloc _).alloc _⟩
 have he':(rl.toList == rl'.toList)=true:=by rw [qHu];simpa using hq0
 by_cases hq1:nn=1
 case neg =>
  (have he2:(nn == 1)=false:=by simpa using hq1);have HG:=gH (HF.out.trans (decide_eq_false (fun h=>hq1 h.2.1)));go_enter Tryz.func115,Tryz.ntmps115;go_wp2_with fail;go_ret;exact ⟨by rw [HG.out];first | rfl | (simp;done) | (simp;omega),(((Ext.refl w).alloc _).alloc _).alloc _⟩
 have he2:(nn == 1)=true:=by simpa using hq1
 by_cases hq2:dd=1
 case neg =>
  (have he3:(dd == 1)=false:=by simpa using hq2);have HG:=gH (HF.out.trans (decide_eq_false (fun h=>hq2 h.2.2.1)));go_enter Tryz.func115,Tryz.ntmps115;go_wp2_with fail;go_ret;exact ⟨by rw [HG.out];first | rfl | (simp;done) | (simp;omega),(((Ext.refl w).alloc _).alloc _).alloc _⟩
 have he3:(dd == 1)=true:=by simpa using hq2
 by_cases hq3:nn'=1
 case neg =>
  (have he4:(nn' == 1)=false:=by simpa using hq3);have HG:=gH (HF.out.trans (decide_eq_false (fun h=>hq3 h.2.2.2.1)));go_enter Tryz.func115,Tryz.ntmps115;go_wp2_with fail;go_ret;exact ⟨by rw [HG.out];first | rfl | (simp;done) | (simp;omega),(((Ext.refl w).alloc _).alloc _).alloc _⟩
 have he4:(nn' == 1)=true:=by simpa using hq3
 by_cases hq4:dd'=1
 case neg =>
  (have he5:(dd' == 1)=false:=by simpa using hq4);have HG:=gH (HF.out.trans (decide_eq_false (fun h=>hq4 h.2.2.2.2.1)));go_enter Tryz.func115,Tryz.ntmps115;go_wp2_with fail;go_ret;exact ⟨by rw [HG.out];first | rfl | (simp;done) | (simp;omega),(((Ext.refl w).alloc _).alloc _).alloc _⟩
 have he5:(dd' == 1)=true:=by simpa using hq4
 by_cases hq5:out=inn'
 case neg =>
  (have he6:(out == inn')=false:=by simpa using hq5);have HG:=gH (HF.out.trans (decide_eq_false (fun h=>hq5 h.2.2.2.2.2.1)));go_enter Tryz.func115,Tryz.ntmps115;go_wp2_with fail;go_ret;exact ⟨by rw [HG.out];first | rfl | (simp;done) | (simp;omega),(((Ext.refl w).alloc _).alloc _).alloc _⟩
 have he6:(out == inn')=true:=by simpa using hq5
 by_cases hq6:src+out-inn=src'
 case neg =>
  (have he7:(src+out-inn == src')=false:=by simpa using hq6);have HG:=gH (HF.out.trans (decide_eq_false (fun h=>hq6 h.2.2.2.2.2.2)));go_enter Tryz.func115,Tryz.ntmps115;go_wp2_with fail;go_ret;exact ⟨by rw [HG.out];first | rfl | (simp;done) | (simp;omega),(((Ext.refl w).alloc _).alloc _).alloc _⟩
 (have he7:(src+out-inn == src')=true:=by simpa using hq6);have HG:=gH (HF.out.trans (decide_eq_true ⟨hq0,hq1,hq2,hq3,hq4,hq5,hq6⟩));go_enter Tryz.func115,Tryz.ntmps115;go_wp2_with fail;go_ret;exact ⟨by rw [HG.out];first | rfl | (simp;done) | (simp;omega),(((Ext.refl w).alloc _).alloc _).alloc _⟩
set_option maxHeartbeats 4000000 in
theorem goes_any (x y:Cut) (w:World) (hx:x.Sane) (hy:y.Sane):Calls Tryz.prog 136 #[.agg x.cells,.agg y.cells] w fun en w'=>en = .returned (.bool (qEr x y))∧Ext w w':=by
 obtain ⟨num,rl,src,inn,out,nn,dd⟩:=x;obtain ⟨num',rl',src',inn',out',nn',dd'⟩:=y;obtain ⟨sa1,sa2,sa3,sa4,sa5,sa6,sa7,sa8,sa9⟩:=hx;obtain ⟨sb1,sb2,sb3,sb4,sb5,sb6,sb7,sb8,sb9⟩:=hy;have HF:Hid (qEr ⟨num,rl,src,inn,out,nn,dd⟩ ⟨num',rl',src',inn',out',nn',dd'⟩=decide (rl=rl'∧nn=1∧dd=1∧nn'=1∧dd'=1∧out=inn'∧src+out-inn=src')):=rfl;have HX:=gH (((Ext.refl w).alloc (.cells (Cut.cells ⟨num,rl,src,inn,out,nn,dd⟩) 91)).alloc (.cells (Cut.cells ⟨num',rl',src',inn',out',nn',dd'⟩) 91));have HX1:=gH (HX.out.alloc (.cells #[.int .i64 1,.int .i64 1] 89));unfold Cut.cells at *;dsimp only at *
 by_cases hq0:rl=rl'
 case neg =>
  (have he':(rl.toList == rl'.toList)=false:=by rw [qHu];simpa using hq0);have HG:=gH (HF.out.trans (decide_eq_false (fun h=>hq0 h.1)));go_enter Tryz.func136,Tryz.ntmps136;go_wp2_with fail;go_ret;exact ⟨by rw [HG.out];first | rfl | (simp;done) | (simp;omega),(((Ext.refl w).alloc _).alloc _).alloc _⟩
 have he':(rl.toList == rl'.toList)=true:=by rw [qHu];simpa using hq0
 by_cases hq1:nn=1
 case neg =>
  (have he2:(nn == 1)=false:=by simpa using hq1);have HG:=gH (HF.out.trans (decide_eq_false (fun h=>hq1 h.2.1)));go_enter Tryz.func136,Tryz.ntmps136;go_wp2_with fail;go_ret;exact ⟨by rw [HG.out];first | rfl | (simp;done) | (simp;omega),(((Ext.refl w).alloc _).alloc _).alloc _⟩
 have he2:(nn == 1)=true:=by simpa using hq1
 by_cases hq2:dd=1
 case neg =>
  (have he3:(dd == 1)=false:=by simpa using hq2);have HG:=gH (HF.out.trans (decide_eq_false (fun h=>hq2 h.2.2.1)));go_enter Tryz.func136,Tryz.ntmps136;go_wp2_with fail;go_ret;exact ⟨by rw [HG.out];first | rfl | (simp;done) | (simp;omega),(((Ext.refl w).alloc _).alloc _).alloc _⟩
 have he3:(dd == 1)=true:=by simpa using hq2
 by_cases hq3:nn'=1
 case neg =>
  (have he4:(nn' == 1)=false:=by simpa using hq3);have HG:=gH (HF.out.trans (decide_eq_false (fun h=>hq3 h.2.2.2.1)));go_enter Tryz.func136,Tryz.ntmps136;go_wp2_with fail;go_ret;exact ⟨by rw [HG.out];first | rfl | (simp;done) | (simp;omega),(((Ext.refl w).alloc _).alloc _).alloc _⟩
 have he4:(nn' == 1)=true:=by simpa using hq3
 by_cases hq4:dd'=1
 case neg =>
  (have he5:(dd' == 1)=false:=by simpa using hq4);have HG:=gH (HF.out.trans (decide_eq_false (fun h=>hq4 h.2.2.2.2.1)));go_enter Tryz.func136,Tryz.ntmps136;go_wp2_with fail;go_ret;exact ⟨by rw [HG.out];first | rfl | (simp;done) | (simp;omega),(((Ext.refl w).alloc _).alloc _).alloc _⟩
 have he5:(dd' == 1)=true:=by simpa using hq4
 by_cases hq5:out=inn'
 case neg =>
  (have he6:(out == inn')=false:=by simpa using hq5);have HG:=gH (HF.out.trans (decide_eq_false (fun h=>hq5 h.2.2.2.2.2.1)));go_enter Tryz.func136,Tryz.ntmps136;go_wp2_with fail;go_ret;exact ⟨by rw [HG.out];first | rfl | (simp;done) | (simp;omega),(((Ext.refl w).alloc _).alloc _).alloc _⟩
 have he6:(out == inn')=true:=by simpa using hq5
 by_cases hq6:src+out-inn=src'
 case neg =>
  (have he7:(src+out-inn == src')=false:=by simpa using hq6);have HG:=gH (HF.out.trans (decide_eq_false (fun h=>hq6 h.2.2.2.2.2.2)));go_enter Tryz.func136,Tryz.ntmps136;go_wp2_with fail;go_ret;exact ⟨by rw [HG.out];first | rfl | (simp;done) | (simp;omega),(((Ext.refl w).alloc _).alloc _).alloc _⟩
 (have he7:(src+out-inn == src')=true:=by simpa using hq6);have HG:=gH (HF.out.trans (decide_eq_true ⟨hq0,hq1,hq2,hq3,hq4,hq5,hq6⟩));go_enter Tryz.func136,Tryz.ntmps136;go_wp2_with fail;go_ret;exact ⟨by rw [HG.out];first | rfl | (simp;done) | (simp;omega),(((Ext.refl w).alloc _).alloc _).alloc _⟩
end
section
open Go.RowKit
def Cut.upto (p c:Cut):Cut:={ p with out:=c.out }
def qFm (out:List Cut) (c:Cut):List Cut :=
 match out.getLast? with
 | some p=>if qEr p c=true then out.dropLast++[p.upto c] else out++[c]
 | none=>[c]
def qAx (l:List Cut):List Cut:=l.foldl qFm []
theorem qMb (l:List Cut) (c:Cut):qAx (l++[c])=qFm (qAx l) c:=by simp [qAx,List.foldl_append]
theorem qIk (c:Cut):qFm [] c=[c]:=rfl
theorem qJu {ps:List Cut} {p c:Cut} (h:qEr p c=true):qFm (ps++[p]) c=ps++[p.upto c]:=by simp [qFm,h]
theorem qJn {ps:List Cut} {p c:Cut} (h:qEr p c=false):qFm (ps++[p]) c=ps++[p]++[c]:=by simp [qFm,h]
theorem qLy {a b:Cut} (h:qEr a b=true):a.reel=b.reel∧a.n=1∧a.d=1∧b.n=1∧b.d=1∧a.out=b.inn∧a.src+a.out-a.inn=b.src:=of_decide_eq_true h
theorem snoc_of {α:Type}:∀ {l:List α},l≠[]→∃ ps p,l=ps++[p]
 | [],h=>absurd rfl h
 | [x],_=>⟨[],x,rfl⟩
 | x :: y :: l,_=>by
  obtain ⟨ps,p,he⟩:=snoc_of (l:=y :: l) (by simp);exact ⟨x :: ps,p,by rw [he];rfl⟩
theorem qKt {P:List Cut→List Cut→Prop} (l:List Cut) (h0:P [] l)
 (h1:∀ c r,P [] (c :: r)→P [c] r) (h2:∀ ps p c r,qEr p c=true→c∈l→P (ps++[p]) (c :: r)→P (ps++[p.upto c]) r) (h3:∀ ps p c r,qEr p c=false→P (ps++[p]) (c :: r)→P (ps++[p]++[c]) r) :
 ∀ k,k≤l.length→P (qAx (l.take k)) (l.drop k)
 | 0,_=>by simpa [qAx] using h0
 | k+1,hk=>by
  have ih:=qKt l h0 h1 h2 h3 k (by omega);have hx:l[k]?=some l[k]:=List.getElem?_eq_getElem (by omega);rw [take_snoc' l k _ hx,qMb];rw [List.drop_eq_getElem_cons (show k<l.length by omega)] at ih
  by_cases hn:qAx (l.take k)=[]
  · rw [hn] at ih ⊢
    rw [qIk];exact h1 _ _ ih
  · obtain ⟨ps,p,he⟩:=snoc_of hn
    rw [he] at ih ⊢
    cases hg:qEr p l[k]
    · rw [qJn hg];exact h3 _ _ _ _ hg ih
    · rw [qJu hg];exact h2 _ _ _ _ hg (List.getElem_mem _) ih
theorem joinC_end {P:List Cut→List Cut→Prop} (l:List Cut) (h:∀ k,k≤l.length→P (qAx (l.take k)) (l.drop k)):P (qAx l) []:=by
 have:=h l.length (Nat.le_refl _)
 rwa [List.take_length,List.drop_length] at this
theorem joinC_all {P:List Cut→List Cut→Prop} (l:List Cut) (h0:P [] l)
 (h1:∀ c r,P [] (c :: r)→P [c] r) (h2:∀ ps p c r,qEr p c=true→c∈l→P (ps++[p]) (c :: r)→P (ps++[p.upto c]) r) (h3:∀ ps p c r,qEr p c=false→P (ps++[p]) (c :: r)→P (ps++[p]++[c]) r):P (qAx l) [] :=
 joinC_end l (qKt l h0 h1 h2 h3)
theorem qPg (l:List Cut) (k:Nat) (hk:k≤l.length):(qAx (l.take k)).length≤k:=by
 have:=qKt (P:=fun a b=>a.length+b.length≤l.length) l (by simp) (fun c r h=>by simp at h ⊢;omega) (fun ps p c r _ _ h=>by simp at h ⊢;omega) (fun ps p c r _ h=>by simp at h ⊢;omega) k hk;simp at this;omega
theorem upto_sane {p c:Cut} (h:qEr p c=true) (hp:p.Sane) (hc:c.Sane):(p.upto c).Sane:=by
 obtain ⟨h1,h2,h3,h4,h5,h6,h7⟩:=qLy h;obtain ⟨a1,a2,a3,a4,a5,a6,a7,a8,a9⟩:=hp;obtain ⟨b1,b2,b3,b4,b5,b6,b7,b8,b9⟩:=hc;exact ⟨a1,show p.inn<c.out by omega,b3,a4,a5,a6,a7,a8,a9⟩
theorem joinC_sane {l:List Cut} (hl:∀ c∈l,c.Sane) (k:Nat) (hk:k≤l.length):∀ c∈qAx (l.take k),c.Sane:=by
 have:=qKt (P:=fun a b=>(∀ c∈a,c.Sane)∧∀ c∈b,c.Sane) l ⟨by simp,hl⟩ (fun c r h=>⟨fun x hx=>by simp at hx;subst hx;exact h.2 x (by simp),fun x hx=>h.2 x (by simp [hx])⟩)
  (fun ps p c r hg _ h=>⟨fun x hx=>by
   rcases List.mem_append.1 hx with hx | hx
   · exact h.1 x (by simp [hx])
   · simp at hx;subst hx;exact upto_sane hg (h.1 p (by simp)) (h.2 c (by simp)),fun x hx=>h.2 x (by simp [hx])⟩)
  (fun ps p c r _ h=>⟨fun x hx=>by
   rcases List.mem_append.1 hx with hx | hx
   · exact h.1 x hx
   · simp at hx;subst hx;exact h.2 x (by simp),fun x hx=>h.2 x (by simp [hx])⟩) k hk
 exact this.1
def joinE (e:Edl):Edl:=if qAn e=0 then { e with cuts:=qAx e.cuts } else ⟨⟨#[]⟩,0,false,[]⟩
theorem qIv {e:Edl} (h:qAn e=0):joinE e={ e with cuts:=qAx e.cuts }:=if_pos h
theorem joinE_err {e:Edl} (h:qAn e≠0):joinE e=⟨⟨#[]⟩,0,false,[]⟩:=if_neg h
theorem cutsErr_mono {day la la' ou:Int} {r:List Cut} (hl:la'≤la) (h:qBk day la ou r=0):qBk day la' ou r=0:=by
 cases r with
 | nil=>rfl
 | cons d r =>
  unfold qBk at h ⊢
  split at h
  · omega
  · rename_i h0
    have h1:qAw d la' day=0:=by
     unfold qAw at h0 ⊢
     by_cases ha:d.num<1∨999<d.num
     · rw [if_pos ha] at h0;omega
     · rw [if_neg ha] at h0 ⊢
       by_cases hb:d.num≤la
       · rw [if_pos hb] at h0;omega
       · rw [if_neg hb] at h0
         rw [if_neg (by omega)];omega
    rw [if_neg (by omega)];exact h
theorem qGn {day la ou:Int} {c:Cut} {r:List Cut}:qBk day la ou (c :: r)=0↔qAw c la day=0∧¬ c.inn<ou∧qBk day c.num c.out r=0:=by
 rw [qBk]
 constructor
 · intro h
   split at h
   · omega
   · split at h
     · omega
     · exact ⟨by omega,by assumption,h⟩
 · rintro ⟨h1,h2,h3⟩
   rw [if_neg (by omega),if_neg h2];exact h3
theorem qJv {c:Cut} {day:Int}:qCc c day=0↔qBm c.reel=true∧c.inn<c.out∧0≤c.inn∧c.out<day∧qGb c=true∧0≤c.src∧c.src<day∧qFr c (c.out-1)<day:=by
 constructor
 · intro h
   unfold qCc at h
   repeat' split at h
   all_goals first | omega | skip
   rename_i h1 h2 h3 h4 h5;exact ⟨by simpa using h1,by omega,by omega,by omega,by simpa using h4,by omega,by omega,by omega⟩
 · rintro ⟨h1,h2,h3,h4,h5,h6,h7,h8⟩
   exact qOi h1 (by omega) (by omega) h5 (by omega)
theorem qJp {c:Cut} {la day:Int}:qAw c la day=0↔1≤c.num∧c.num≤999∧la<c.num∧qCc c day=0:=by
 constructor
 · intro h
   unfold qAw at h
   repeat' split at h
   all_goals first | omega | exact ⟨by omega,by omega,by omega,h⟩
 · rintro ⟨h1,h2,h3,h4⟩
   rw [qMo (by omega) (by omega)];exact h4
theorem srcAt_one {c:Cut} (h1:c.n=1) (h2:c.d=1) (t:Int):qFr c t=c.src+(t-c.inn):=by unfold qFr;rw [h1,h2,Int.mul_one,Int.ediv_one]
theorem cuts_join {day la ou:Int} {p c:Cut} {r:List Cut} (hg:qEr p c=true) (h:qBk day la ou (p :: c :: r)=0):qBk day la ou (p.upto c :: r)=0:=by
 obtain ⟨g1,g2,g3,g4,g5,g6,g7⟩:=qLy hg;rw [qGn,qGn,qJp,qJp,qJv,qJv] at h;obtain ⟨⟨a1,a2,a3,b1,b2,b3,b4,b5,b6,b7,b8⟩,a4,⟨c1,c2,c3,d1,d2,d3,d4,d5,d6,d7,d8⟩,c4,h5⟩:=h;rw [srcAt_one g4 g5] at d8;rw [qGn,qJp,qJv];refine ⟨⟨a1,a2,a3,b1,show p.inn<c.out by omega,b3,d4,b5,b6,b7,?_⟩,a4,cutsErr_mono (show p.num≤c.num by omega) h5⟩;rw [srcAt_one (c:=p.upto c) g2 g3]
 show p.src+(c.out-1-p.inn)<day
 omega
theorem cuts_join' {day:Int} {p c:Cut} {r:List Cut} (hg:qEr p c=true):∀ (ps:List Cut) {la ou:Int},qBk day la ou (ps++p :: c :: r)=0→qBk day la ou (ps++p.upto c :: r)=0
 | [],_,_,h=>cuts_join hg h
 | d :: ps,la,ou,h=>by
  rw [List.cons_append,qGn] at h ⊢;exact ⟨h.1,h.2.1,cuts_join' hg ps h.2.2⟩
theorem join_ok {e:Edl} (h:qAn e=0):qAn (joinE e)=0:=by
 rw [qIv h];obtain ⟨h1,h2,h3,h4,h5,h6⟩:=qEm h
 have key:=joinC_all (P:=fun a b=>(a++b).length≤64∧qBk (qEv e.rate e.drop) 0 0 (a++b)=0∧∀ x,x∈(a++b).map (fun c=>c.reel.data.toList)↔x∈e.names) e.cuts ⟨by simp;omega,by simpa using h5,fun x=>by simp [Edl.names]⟩
  (fun c r h=>by simpa using h)
  (fun ps p c r hg _ h=>by
   refine ⟨by have:=h.1;simp at this ⊢;omega,?_,fun x=>?_⟩
   · have:=h.2.1
     rw [List.append_assoc] at this ⊢;exact cuts_join' hg ps this
   · rw [← h.2.2 x]
     have hr:=(qLy hg).1
     simp [Cut.upto,hr])
  (fun ps p c r _ h=>by simpa using h)
 simp only [List.append_nil] at key;exact edl_ok h1 h2 h3 (by show ¬ 64<(qAx e.cuts).length;omega) key.2.1 (by rw [show cnt (Edl.names { e with cuts:=qAx e.cuts })=cnt e.names from cnt_perm key.2.2];exact h6)
end
section
open Go.RowKit
structure RDoc where
 reel:ByteArray
 doc:Doc
structure Fat where
 reel:ByteArray
 id:Int
 parts:List Int
 lost:Int
 short:List Int
def allR (l:List RDoc):List Reg:=l.flatMap fun d=>d.doc.regs
def qBz (rate:Int) (drop:Bool) (p:Option ByteArray) (d:RDoc):Int :=
 if qBm d.reel=false then 5 else if (p.map fun q=>Op.bytesLess d.reel.toList q.toList || d.reel.toList == q.toList)=some true then 8 else if d.doc.err≠0 then d.doc.err else if ¬ (d.doc.rate=rate∧d.doc.drop=drop) then 13 else 0
def qDy (rate:Int) (drop:Bool):Option ByteArray→List RDoc→Int
 | _,[]=>0
 | p,d :: l=>if qBz rate drop p d≠0 then qBz rate drop p d else qDy rate drop (some d.reel) l
def qCy (l:List RDoc):Nat→Option ByteArray | 0=>none | k+1=>(l[k]?).map (·.reel)
theorem rd_step {rate:Int} {drop:Bool} {l:List RDoc} {k:Nat} {d:RDoc} {E:Int} (hd:l[k]?=some d) (hP:E=qDy rate drop (qCy l k) (l.drop k)) :
 (qBz rate drop (qCy l k) d≠0→E=qBz rate drop (qCy l k) d)∧(qBz rate drop (qCy l k) d=0→E=qDy rate drop (qCy l (k+1)) (l.drop (k+1))):=by
 rw [qDe l k d hd] at hP;unfold qDy at hP;(have hn:qCy l (k+1)=some d.reel:=by simp [qCy,hd]);refine ⟨fun h=>by rw [if_pos h] at hP;exact hP,fun h=>by rw [if_neg (by simpa using h)] at hP;rw [hP,hn]⟩
theorem qIr {rate:Int} {drop:Bool}:∀ {l:List RDoc} {p:Option ByteArray},qDy rate drop p l=0→∀ d∈l,qBm d.reel=true∧d.doc.err=0∧d.doc.rate=rate∧d.doc.drop=drop
 | [],_,_,d,hd=>by simp at hd
 | x :: l,p,h,d,hd=>by
  unfold qDy at h
  split at h
  · rename_i h1;exact absurd h h1
  · rename_i h1
    rcases List.mem_cons.1 hd with rfl | hd
    · have h1:qBz rate drop p d=0:=by simpa using h1
      unfold qBz at h1
      split at h1
      · omega
      · split at h1
        · omega
        · split at h1
          · rename_i h2;exact absurd h1 h2
          · split at h1
            · omega
            · rename_i h2 h3 h4 h5
              exact ⟨by simpa using h2,by simpa using h4,by simpa using h5⟩
    · exact qIr h d hd
def regE (l:List Reg):Int:=match refR l with | none=>16 | some m=>if 16<m.length then 9 else 0
def qCj (docs:List RDoc) (e:Edl):Int :=
 if qAn e≠0 then qAn e else if 16<docs.length then 9 else if qDy e.rate e.drop none docs≠0 then qDy e.rate e.drop none docs else regE (allR docs)
theorem conErr_ok {docs:List RDoc} {e:Edl} (h:qCj docs e=0):qAn e=0∧¬ 16<docs.length∧qDy e.rate e.drop none docs=0∧∃ m,refR (allR docs)=some m∧¬ 16<m.length:=by
 unfold qCj at h
 split at h
 · rename_i h1;exact absurd h h1
 · split at h
   · omega
   · split at h
     · rename_i h1;exact absurd h h1
     · rename_i h1 h2 h3
       refine ⟨by simpa using h1,h2,by simpa using h3,?_⟩;unfold regE at h
       split at h
       · omega
       · rename_i m hm
         split at h
         · omega
         · exact ⟨m,hm,by assumption⟩
def qJs:List RDoc→ByteArray
 | []=>⟨#[]⟩
 | d :: r=>if r.all (fun x=>decide (x.doc.lang=d.doc.lang))=true then d.doc.lang else ⟨#[]⟩
def partE (c:Cut) (x:Ev):Option Spn:=if qAs c.pc x.inn<qAs c.pc x.out then some ⟨qAs c.pc x.inn,qAs c.pc x.out⟩ else none
structure qCv where
 evs:List Ev
 fats:List Fat
def Fat.note (f:Fat) (id:Int) (sh:Bool):Fat:=⟨f.reel,f.id,f.parts++[id],f.lost,if sh=true then f.short++[id] else f.short⟩
def Ev.as (x:Ev) (id:Int) (s:Spn):Ev:=⟨id,s.inn,s.out,x.region,x.kind,x.speaker,x.rows⟩
def qDn (c:Cut) (least:Int) (i:Nat) (x:Ev) (s:qCv):qCv :=
 match partE c x with
 | none=>s
 | some p=>⟨s.evs++[x.as ((s.evs.length:Int)+1) p],s.fats.modify i fun f=>f.note ((s.evs.length:Int)+1) (decide (p.out-p.inn<least))⟩
def qCr (c:Cut) (least:Int):Nat→List Ev→qCv→qCv
 | _,[],s=>s
 | i,x :: l,s=>qCr c least (i+1) l (qDn c least i x s)
theorem qOh (c:Cut) (least:Int):∀ (l:List Ev) (i:Nat) (x:Ev) (s:qCv),qCr c least i (l++[x]) s=qDn c least (i+l.length) x (qCr c least i l s)
 | [],i,x,s=>by simp [qCr]
 | y :: l,i,x,s=>by
  simp only [List.cons_append,qCr,List.length_cons];rw [qOh c least l (i+1) x,show i+1+l.length=i+(l.length+1) by omega]
theorem conEvs_take {c:Cut} {least:Int} {l:List Ev} {k i:Nat} {x:Ev} {s:qCv} (hx:l[k]?=some x):qCr c least i (l.take (k+1)) s=qDn c least (i+k) x (qCr c least i (l.take k) s):=by
 have:=(List.getElem?_eq_some_iff.1 hx).1;rw [take_snoc' _ _ _ hx,qOh,List.length_take,Nat.min_eq_left (by omega)]
def qHi (l:List RDoc) (s:ByteArray):Option Nat:=l.findIdx? fun d=>decide (d.reel=s)
def offR (l:List RDoc) (k:Nat):Nat:=((l.take k).map fun d=>d.doc.evs.length).sum
def evsR (l:List RDoc) (k:Nat):List Ev:=match l[k]? with | some d=>d.doc.evs | none=>[]
def qFi (docs:List RDoc) (least:Int) (s:qCv) (c:Cut):qCv :=
 match qHi docs c.reel with
 | none=>s
 | some k=>qCr c least (offR docs k) (evsR docs k) s
def qBo (docs:List RDoc) (least:Int) (l:List Cut) (s:qCv):qCv:=l.foldl (qFi docs least) s
theorem qNp {docs:List RDoc} {least:Int} {l:List Cut} {k:Nat} {c:Cut} {s:qCv} (hc:l[k]?=some c):qBo docs least (l.take (k+1)) s=qFi docs least (qBo docs least (l.take k) s) c:=by
 unfold qBo;rw [take_snoc' _ _ _ hc,List.foldl_append];rfl
def qFj (e:Edl) (d:RDoc):List Fat:=d.doc.evs.map fun x=>⟨d.reel,x.id,[],qKl ⟨x.inn,x.out⟩ (plE e d.reel),[]⟩
def qBx (e:Edl) (docs:List RDoc):List Fat:=docs.flatMap (qFj e)
def qId (docs:List RDoc) (e:Edl) (least:Int):qCv:=qBo docs least (qAx e.cuts) ⟨[],qBx e docs⟩
def conE (docs:List RDoc) (e:Edl) (least:Int):Int:=if qCj docs e≠0 then qCj docs e else if least<0 then 2 else if 400<(qId docs e least).evs.length then 9 else 0
def Doc.blank:Doc:=⟨⟨#[]⟩,⟨#[]⟩,0,false,0,[],[],[]⟩
def qLt (docs:List RDoc) (e:Edl) (least:Int):Doc:=if conE docs e least=0 then ⟨e.title,qJs docs,e.rate,e.drop,(qId docs e least).evs.length,(refR (allR docs)).getD [],(qId docs e least).evs,[]⟩ else Doc.blank
def qCx (docs:List RDoc) (e:Edl) (least:Int):List Fat:=if conE docs e least=0 then (qId docs e least).fats else []
theorem conStep_len (c:Cut) (least:Int) (i:Nat) (x:Ev) (s:qCv):(qDn c least i x s).evs.length≤s.evs.length+1∧(qDn c least i x s).fats.length=s.fats.length:=by
 unfold qDn
 split<;>simp
theorem qJc (c:Cut) (least:Int):∀ (l:List Ev) (i:Nat) (s:qCv),(qCr c least i l s).evs.length≤s.evs.length+l.length∧(qCr c least i l s).fats.length=s.fats.length
 | [],i,s=>⟨by simp [qCr],rfl⟩
 | x :: l,i,s=>by
  have h1:=conStep_len c least i x s;have h2:=qJc c least l (i+1) (qDn c least i x s);simp only [qCr,List.length_cons];exact ⟨by omega,by omega⟩
theorem fats_take {e:Edl} {l:List RDoc} {k:Nat} {d:RDoc} (h:l[k]?=some d):qBx e (l.take (k+1))=qBx e (l.take k)++qFj e d:=by
 unfold qBx;(rw [take_snoc' _ _ _ h];simp)
theorem qNu (e:Edl) (l:List RDoc):∀ k,(qBx e (l.take k)).length=offR l k:=by
 intro k;unfold qBx offR;rw [List.length_flatMap]
 congr 1
 apply List.map_congr_left;intro d _;unfold qFj;rw [List.length_map]
end
section
open Go.RowKit
def RDoc.cells (d:RDoc) (h:DocH):Array Value:=#[.string d.reel,.string d.doc.title,.string d.doc.lang,.int .u8 d.doc.rate,.bool d.doc.drop,.int .i64 d.doc.last,.slice h.ra h.rn h.rc,.slice h.ea h.en h.ec,.slice h.ca h.cn h.cc]
structure DocSz (h:DocH):Prop where
 r:h.rn≤1000000
 e:h.en≤1000000
 c:h.cn≤1000000
def RDocC (w:World) (b o:Nat) (d:RDoc):Prop:=∃ h:DocH,(∀ j u,(d.cells h).toList[j]?=some u→w.cell? ⟨b,o+j,none⟩=some u)∧qHy w d.doc h∧DocSz h
theorem RDocC.stays:Stays RDocC:=fun _ _ _ _ _ k ⟨h,h1,h2,h3⟩=>⟨h,fun j u hu=>k.cell (h1 j u hu),h2.ext k,h3⟩
def qCw (w:World) (A:Option Addr) (n:Nat) (l:List RDoc):Prop:=Sl w 9 RDocC A n l
theorem qCw.ext {w w1:World} {A:Option Addr} {n:Nat} {l:List RDoc} (h:qCw w A n l) (k:Ext w w1):qCw w1 A n l:=Sl.ext RDocC.stays h k
structure qJb (l:List RDoc):Prop where
 reel:∀ d∈l,d.reel.size≤9223372036854775807
 doc:∀ d∈l,DocFit d.doc
theorem qCw.at9 {w:World} {A:Option Addr} {n:Nat} {l:List RDoc} (h:qCw w A n l) {i:Nat} (hi:i<n):∃ b off d k,A=some ⟨b,off,none⟩∧l[i]?=some d∧qHy w d.doc k∧DocSz k ∧
 (w.cell? ⟨b,off+i*9,none⟩=some (.string d.reel)∧w.cell? ⟨b,off+i*9+1,none⟩=some (.string d.doc.title)∧w.cell? ⟨b,off+i*9+2,none⟩=some (.string d.doc.lang)∧w.cell? ⟨b,off+i*9+3,none⟩=some (.int .u8 d.doc.rate) ∧
  w.cell? ⟨b,off+i*9+4,none⟩=some (.bool d.doc.drop)∧w.cell? ⟨b,off+i*9+5,none⟩=some (.int .i64 d.doc.last)∧w.cell? ⟨b,off+i*9+6,none⟩=some (.slice k.ra k.rn k.rc)∧w.cell? ⟨b,off+i*9+7,none⟩=some (.slice k.ea k.en k.ec)∧w.cell? ⟨b,off+i*9+8,none⟩=some (.slice k.ca k.cn k.cc)):=by
 obtain ⟨b,off,d,hA,hd,k,hC,h1,h2⟩:=h.at_ hi;exact ⟨b,off,d,k,hA,hd,h1,h2,by simpa using hC 0 _ rfl,hC 1 _ rfl,hC 2 _ rfl,hC 3 _ rfl,hC 4 _ rfl,hC 5 _ rfl,hC 6 _ rfl,hC 7 _ rfl,hC 8 _ rfl⟩
end
section
open Go.RowKit
theorem run_ones:∀ (r:Run),∀ u∈r.cells,u.oneCell'=true:=by intro r u hu;simp [Run.cells] at hu;rcases hu with rfl | rfl | rfl | rfl | rfl<;>rfl
def RCloneRel (w:World) (rows:List Row) (n:Nat) (v i:Value) (wr:World):Prop :=
 ∃ (k:Nat) (hs:List Hd),k≤n∧i = .int .i64 k∧hs.length=k∧wr.ownsRow w.heap.size 174 1 v k (hs.flatMap fun h=>[Hd.val h])∧Ext w wr∧Goods wr hs (rows.take k) ∧
  (∀ g,v.ownBlock=some g→∀ h∈hs,Apart g h)∧(∀ h∈hs,qDu wr 171 w.heap.size h.1)
theorem Good.grown {w w1:World} {h:Hd} {r:Row} {row:Option Nat} (g:Good w h r) (hg:w.grownBy w1 row) (hp:∀ q,row=some q→Apart q h):Good w1 h r :=
 ⟨g.1,g.2.1,Sl.keep g.2.2 fun hn b off hA o x hx=>by
  have hb:b<w.heap.size:=World.block_lt_of_cell? w _ hx.1
  have key:∀ q v,w.cell? ⟨b,q,none⟩=some v→w1.cell? ⟨b,q,none⟩=some v:=fun q v hv =>
   (World.cell?_of_block (w:=w) (a:=⟨b,q,none⟩) (hg.block b hb (fun e=>hp b e.symm hn _ hA rfl))).trans hv
  exact ⟨key _ _ hx.1,key _ _ hx.2.1,key _ _ hx.2.2.1,key _ _ hx.2.2.2.1,key _ _ hx.2.2.2.2⟩⟩
theorem rclone_step {w wr w1 w3:World} {rows:List Row} {n k:Nat} {hs:List Hd} {r:Row} {v v':Value} {A1:Option Addr} {n' c1:Nat} {o:Obj} (hlt:k<n) (hx:Ext w wr) (hx1:Ext wr w1) (hsl:hs.length=k)
 (hO:wr.ownsRow w.heap.size 174 1 v k (hs.flatMap fun h=>[Hd.val h])) (hG:Goods wr hs (rows.take k))
 (hA:∀ g,v.ownBlock=some g→∀ h∈hs,Apart g h) (hF:∀ h∈hs,qDu wr 171 w.heap.size h.1) (hr:rows[k]?=some r) (hn40:n' * 40≤140737488355328) (hnc:n'≤c1) (hru:qCt w1 A1 n' r) (hfr:qDu w1 171 wr.heap.size A1) (hlt1:0<n'→∀ ad,A1=some ad→ad.block<w1.heap.size)
 (hO3:w3.ownsRow w.heap.size 174 1 v' (k+1) ((hs.flatMap fun h=>[Hd.val h])++[Value.slice A1 n' c1])) (hgr:(w1.alloc o).grownBy w3 v.ownBlock) (hat:v'.ownBlock=v.ownBlock∨v'.ownBlock=some (w1.alloc o).heap.size) :
 RCloneRel w rows n v' (.int .i64 ((k:Int)+1)) w3:=by
 (have hvb:∀ g,v.ownBlock=some g→w.heap.size≤g∧g<wr.heap.size:=fun g hg=>hO.lt g hg);(have hapn:∀ g,v.ownBlock=some g→Apart g (A1,n',c1):=fun g hg _ ad had=>by have:=(hfr ad had).1;have:=hvb g hg;omega);have hx3:Ext w w3:=((hx.trans hx1).alloc o).grown hgr (fun q hq=>(hvb q hq).1)
 have hblk:∀ h∈hs,∀ (r':Row),Good wr h r'→0<h.2.1→∀ ad,h.1=some ad→ad.block<wr.heap.size:=fun h _ r' hg hp ad had=>by
  obtain ⟨b,off,x,hA',_,hC⟩:=hg.2.2.at_ (i:=0) hp;rw [hA'] at had
  cases had
  exact World.block_lt_of_cell? wr _ hC.1
 refine ⟨k+1,hs++[(A1,n',c1)],by omega,by simp,by simp [hsl],?_,hx3,?_,?_,?_⟩
 · rw [List.flatMap_append]
   exact hO3
 · intro i h q hi hq
   rw [take_snoc' rows k r hr] at hq
   by_cases hik:i<k
   · rw [List.getElem?_append_left (by omega)] at hi
     rw [List.getElem?_append_left (by rw [List.length_take];have:=(List.getElem?_eq_some_iff.1 hr).1;omega)] at hq;have hm:=List.mem_of_getElem? hi;exact (((hG i h q hi hq).ext hx1).ext ((Ext.refl w1).alloc o)).grown hgr (fun g hg=>hA g hg h hm)
   · have hlen:(rows.take k).length=k:=by rw [List.length_take];have:=(List.getElem?_eq_some_iff.1 hr).1;omega
     have hik':i=k:=by
      have:=(List.getElem?_eq_some_iff.1 hi).1;simp [hsl] at this;omega
     subst hik';rw [List.getElem?_append_right (by omega)] at hi;rw [List.getElem?_append_right (by omega)] at hq;simp only [hsl,hlen,Nat.sub_self,List.getElem?_cons_zero,Option.some.injEq] at hi hq;subst hi hq;exact (Good.ext (h:=(A1,n',c1)) ⟨hnc,hn40,hru⟩ ((Ext.refl w1).alloc o)).grown hgr hapn
 · intro g hg h hm
   rcases hat with e | e
   · rw [e] at hg
     rcases List.mem_append.1 hm with h1 | h1
     · exact hA g hg h h1
     · rw [List.mem_singleton] at h1;subst h1;exact hapn g hg
   · rw [e] at hg
     (have hge:g=w1.heap.size+1:=by simpa using hg.symm);have hs1:=hx1.size
     rcases List.mem_append.1 hm with h1 | h1
     · intro hp ad had
       obtain ⟨i,hi⟩:=List.getElem?_of_mem h1
       have hil:i<(rows.take k).length:=by
        have:=(List.getElem?_eq_some_iff.1 hi).1;(rw [List.length_take];have:=(List.getElem?_eq_some_iff.1 hr).1;omega)
       have:=hblk h h1 _ (hG i h _ hi (List.getElem?_eq_getElem hil)) hp ad had;omega
     · rw [List.mem_singleton] at h1
       subst h1;intro hp ad had;have:=hlt1 hp ad had;omega
 · intro h hm
   have hty:∀ q,v.ownBlock=some q→qBf (w1.alloc o) 174 q:=fun q hq=>((qAj hO q hq).ext hx1).ext ((Ext.refl w1).alloc o)
   rcases List.mem_append.1 hm with h1 | h1
   · exact (((hF h h1).ext hx1).ext ((Ext.refl w1).alloc o)).grown hgr hty (by decide)
   · rw [List.mem_singleton] at h1
     subst h1;exact ((hfr.le hx.size).ext ((Ext.refl w1).alloc o)).grown hgr hty (by decide)
set_option maxHeartbeats 2000000 in
theorem RClone_own (A:Option Addr) (n c:Nat) (rows:List Row) (w:World) (hl:qFx w A n rows) (hn:n*24≤140737488355328) :
 Calls Tryz.prog 142 #[.slice A n c] w (SOwnPost rows n w):=by
 have HL:=gH hl;have HLn:=gH hl.len;clear hl;go_enter Tryz.func142,Tryz.ntmps142;go_wp2_with fail
 go_loopw [3,8] (fun v i wr=>RCloneRel w rows n v i wr) (fun _ i _=>n-(intOf i).toNat)
 case atStart=>exact ⟨0,[],Nat.zero_le _,rfl,rfl,⟨rfl,.inl ⟨rfl,rfl⟩⟩,Ext.refl _,fun i h r hi _=>by simp at hi,fun g hg h hm=>by simp at hm,fun h hm=>by simp at hm⟩
 case round =>
  obtain ⟨k,hs,hk,rfl,hsl,hown,hx,hgd,hap,hfr⟩:=hrel;have HGd:=gH hgd;have HAp:=gH hap;have HFr:=gH hfr;have HSl:=gH hsl;have HO:=gH hown;clear hgd hap hfr hsl hown
  by_cases hlt:k<n
  · obtain ⟨b,off,r,rfl,hr,A',n',c',hcell,hnc,hc40,hruns⟩:=(HL.out.ext hx).at_ hlt
    simp only [Nat.mul_one] at hcell;have HRu:=gH hruns;have HRr:=gH hr;clear hr hruns;have hwr:w.heap.size≤wr.heap.size:=hx.size;go_wp2_with (first | (at_builtin;refine qAl rfl (.tmp 13) (.tmp 15) 172 rfl info_run Tryz.underlying172 rfl (by decide) (by exact own_nil0' (g:=wr.heap.size+1) (base:=wr.heap.size+1) (by simp) (Nat.le_refl _)) (by exact rfl) (by exact rfl) (by exact Sl.ext (Cells.stays _) HRu.out.cells (((Ext.refl wr).alloc _).alloc _)) (fun _=>rfl) run_ones (by omega) (by simp [maxLen];omega) (by simp) ?_;intro v1 w1 hown1 hgr1 hnil1;simp only [Nat.zero_add,List.nil_append] at hown1;obtain ⟨A1,c1,hv1,hc1,_,hsl1,hfr1⟩:=qBg (f:=Run.cells) (size:=5) (fun _=>rfl) HRu.out.len hown1;have hx1:Ext wr w1:=((((Ext.refl wr).alloc _).alloc _).grown hgr1 (fun q hq=>by simp [Value.ownBlock] at hq;omega));have HX1:=gH hx1;have HS1:=gH hsl1;have HF1:=gH hfr1;have HOw1:=gH hown1;have hsz1:=hx1.size;clear hx1 hsl1 hfr1 hown1 hgr1 hnil1;rw [hv1] at HOw1;rw [hv1];clear hv1) | (at_builtin;refine qBn rfl (.tmp 12) (.tmp 18) 62 rfl info_row Tryz.underlying62 rfl (by decide) ((qAh HO.out HX1.out).alloc _) (by exact rfl) w1.heap.size _ (by exact rfl) (by exact Blk.new' rfl) (by exact rfl) (by simp [Value.oneCell']) (by omega) (by simp [maxLen];omega) (by simp;omega) ?_;intro v' w3 hown3 hgr3 hat3))
    refine ⟨rclone_step hlt hx HX1.out HSl.out HO.out HGd.out HAp.out HFr.out HRr.out hc40 hc1 (qCt.of_cells HS1.out) ((qDu.of_own HOw1.out).le (by omega)) (fun hp ad had=>?_) hown3 hgr3 hat3,by simp [intOf];omega⟩;obtain ⟨b',off',x,hA',_,hC⟩:=HS1.out.at_ (i:=0) hp;rw [hA'] at had
    cases had
    exact World.block_lt_of_cell? w1 _ (hC 0 _ rfl)
  · have hkn:k=n:=by omega
    subst hkn;go_wp2_with fail;go_ret;obtain ⟨A',c',hv,hc,_,hsl',hfr'⟩:=qBg (f:=fun h:Hd=>[Hd.val h]) (size:=1) (fun _=>rfl) HSl.out HO.out;have HT:rows.take k=rows:=List.take_of_length_le (by rw [HLn.out];omega);refine ⟨A',c',by rw [← hv];rfl,hc,⟨hs,by rw [← hv];exact HO.out,HSl.out,by have:=HGd.out;rw [HT] at this;exact this,HLn.out,fun h hm=>HFr.out h hm⟩,hx⟩
end
section
open Go.RowKit
theorem own_put {w:World} {L:Nat} {e:TypeId} {size:Nat} {v:Value} {n:Nat} {xs:List Value} (h:w.ownsRow L e size v n xs) {g:Nat} {t:TypeId} {cs:Array Value} (hB:Blk w g t cs) (cs':Array Value) (hne:e≠t):(putB w g t cs').ownsRow L e size v n xs:=by
 have ht:=qAj h;refine ⟨h.1,?_⟩
 rcases h.2 with hn | ⟨g',cap,cur,rfl,hb,hg,rest⟩
 · exact .inl hn
 · refine .inr ⟨g',cap,cur,rfl,hb,?_,rest⟩
   (have:g≠g':=fun e=>qBf.ne (ht g' rfl) hB.typed hne e.symm);unfold putB;simp only;rw [Array.getElem?_setIfInBounds_ne this];exact hg
theorem qEh.put {w:World} {L:Nat} {A:Option Addr} {n c:Nat} {l:List Row} (h:qEh w L A n c l) {g:Nat} {t:TypeId} {cs:Array Value} (hB:Blk w g t cs) (cs':Array Value) (h1:174≠t) (h2:171≠t):qEh (putB w g t cs') L A n c l:=by
 obtain ⟨hs,a1,a2,a3,a4,a5⟩:=h;refine ⟨hs,own_put a1 hB cs' h1,a2,fun i hd r a b=>?_,a4,fun x hx=>(a5 x hx).put hB cs' h2⟩;have gd:=a3 i hd r a b;refine ⟨gd.1,gd.2.1,Sl.keep gd.2.2 fun _ b' off hA o x hx=>?_⟩;have hb:b'≠g:=qBf.ne (a5 hd (List.mem_of_getElem? a) _ hA).2 hB.typed h2;(have key:∀ q v,w.cell? ⟨b',q,none⟩=some v→(putB w g t cs').cell? ⟨b',q,none⟩=some v:=fun q v hv=>by rw [qDo (p:=⟨b',q,none⟩) hb];exact hv);exact ⟨key _ _ hx.1,key _ _ hx.2.1,key _ _ hx.2.2.1,key _ _ hx.2.2.2.1,key _ _ hx.2.2.2.2⟩
theorem qEg:(Tryz.prog.info? 64).map (·.size)=some 7:=by kernel_rfl
def evZero:Array Value:=#[.int .i64 0,.int .i64 0,.int .i64 0,.string ⟨#[]⟩,.int .u8 0,.string ⟨#[]⟩,.slice none 0 0]
def EClPost (e:Ev) (n:Nat) (w:World) (en:Ending) (w':World):Prop :=
 ∃ A c,en = .returned (.agg (e.cells A n c))∧n≤c∧qCs w' w.heap.size A n e.rows∧Ext w w'
def EOwnPost (e:Ev) (n:Nat) (w:World) (en:Ending) (w':World):Prop :=
 ∃ A c,en = .returned (.agg (e.cells A n c))∧n≤c∧qEh w' w.heap.size A n c e.rows∧Ext w w'
set_option maxHeartbeats 2000000 in
theorem EClone_own (e:Ev) (A:Option Addr) (n c:Nat) (w:World) (he:EvAt w e A n c) :
 Calls Tryz.prog 119 #[.agg (e.cells A n c)] w (EOwnPost e n w):=by
 have hn24:=he.2.2;have HE:=gH he;clear he;have hx0:=((Ext.refl w).alloc (.cells (e.cells A n c) 64)).alloc (.cells evZero 64);unfold Ev.cells evZero at hx0;have HX0:=gH hx0;clear hx0;unfold Ev.cells;go_enter Tryz.func119,Tryz.ntmps119;go_wp2_with fail;refine (SClone_own A n c e.rows _ (HE.out.1.ext HX0.out) hn24).mono ?_;rintro en w1 ⟨A1,c1,rfl,hnc1,hrf,hx1⟩;have HB0:=gH (Blk.ext ((Blk.new w 64 #[.int .i64 e.id,.int .i64 e.inn,.int .i64 e.out,.string e.region,.int .u8 e.kind,.string e.speaker,.slice A n c]).alloc _) hx1);have HB1:=gH (Blk.ext (Blk.new' (g:=w.heap.size+1) (by simp)) hx1);(have hc0:=fun o=>HB0.out.cell o);(have hf0:=fun o=>HB0.out.frozen o);(have hset:=fun u=>qBb HB0.out 6 u);have HRF:=gH hrf;clear hrf;simp at hset;go_wp2_with (first | (refine qAc rfl 64 (.tmp 1) rfl w.heap.size 64 _ _ (by exact rfl) (by exact HB0.out.put _) Tryz.underlying64 rfl (by exact qEg) ?_) | (refine qAi rfl 64 (.tmp 2) (.tmp 7) rfl (w.heap.size+1) 64 _ _ (by exact rfl) (by exact rfl) (by exact HB1.out.put_other (by omega) _) (by exact rfl) (by exact qEg) (by simp [Value.oneCell']) ?_));refine bodyPost_ret (v:=.agg (e.cells A1 n c1)) ?_ rfl ⟨A1,c1,rfl,hnc1,?_,?_⟩
 · exact qGa (P:=Tryz.prog) Tryz.results119 (g:=w.heap.size+1) rfl (by exact (HB1.out.put_other (by omega) _).put _) Tryz.underlying64 rfl qEg
 · exact (qEh.put (qEh.put HRF.out HB0.out _ (by decide) (by decide)) (HB1.out.put_other (by omega) _) _ (by decide) (by decide)).le (by simp only [World.size_alloc];omega)
 · exact (((HX0.out.trans hx1)).put (Nat.le_refl _) _ _).put (by omega) _ _
set_option maxHeartbeats 2000000 in
theorem REClone_own (e:Ev) (A:Option Addr) (n c:Nat) (w:World) (he:EvAt w e A n c) :
 Calls Tryz.prog 79 #[.agg (e.cells A n c)] w (EOwnPost e n w):=by
 have hn24:=he.2.2;have HE:=gH he;clear he;have hx0:=((Ext.refl w).alloc (.cells (e.cells A n c) 64)).alloc (.cells evZero 64);unfold Ev.cells evZero at hx0;have HX0:=gH hx0;clear hx0;unfold Ev.cells;go_enter Tryz.func79,Tryz.ntmps79;go_wp2_with fail;refine (RClone_own A n c e.rows _ (HE.out.1.ext HX0.out) hn24).mono ?_;rintro en w1 ⟨A1,c1,rfl,hnc1,hrf,hx1⟩;have HB0:=gH (Blk.ext ((Blk.new w 64 #[.int .i64 e.id,.int .i64 e.inn,.int .i64 e.out,.string e.region,.int .u8 e.kind,.string e.speaker,.slice A n c]).alloc _) hx1);have HB1:=gH (Blk.ext (Blk.new' (g:=w.heap.size+1) (by simp)) hx1);(have hc0:=fun o=>HB0.out.cell o);(have hf0:=fun o=>HB0.out.frozen o);(have hset:=fun u=>qBb HB0.out 6 u);have HRF:=gH hrf;clear hrf;simp at hset;go_wp2_with (first | (refine qAc rfl 64 (.tmp 1) rfl w.heap.size 64 _ _ (by exact rfl) (by exact HB0.out.put _) Tryz.underlying64 rfl (by exact qEg) ?_) | (refine qAi rfl 64 (.tmp 2) (.tmp 7) rfl (w.heap.size+1) 64 _ _ (by exact rfl) (by exact rfl) (by exact HB1.out.put_other (by omega) _) (by exact rfl) (by exact qEg) (by simp [Value.oneCell']) ?_));refine bodyPost_ret (v:=.agg (e.cells A1 n c1)) ?_ rfl ⟨A1,c1,rfl,hnc1,?_,?_⟩
 · exact qGa (P:=Tryz.prog) Tryz.results79 (g:=w.heap.size+1) rfl (by exact (HB1.out.put_other (by omega) _).put _) Tryz.underlying64 rfl qEg
 · exact (qEh.put (qEh.put HRF.out HB0.out _ (by decide) (by decide)) (HB1.out.put_other (by omega) _) _ (by decide) (by decide)).le (by simp only [World.size_alloc];omega)
 · exact (((HX0.out.trans hx1)).put (Nat.le_refl _) _ _).put (by omega) _ _
theorem EClone_any (e:Ev) (A:Option Addr) (n c:Nat) (w:World) (he:EvAt w e A n c):Calls Tryz.prog 119 #[.agg (e.cells A n c)] w (EClPost e n w) :=
 (EClone_own e A n c w he).mono fun _ _ ⟨A1,c1,h1,h2,h3,h4⟩=>⟨A1,c1,h1,h2,h3.fresh,h4⟩
end
end Go.Proofs.YtablhmobekmflaaGreatDoor