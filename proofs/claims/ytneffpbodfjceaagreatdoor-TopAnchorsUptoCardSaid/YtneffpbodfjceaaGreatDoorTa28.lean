/- Texts laid together. -/
import Derived.Test.YtneffpbodfjceaaGreatDoorTa27
set_option linter.unusedVariables false
set_option linter.unusedSimpArgs false
set_option maxRecDepth 100000
set_option maxHeartbeats 16000000
namespace Go.Proofs.YtneffpbodfjceaaGreatDoor
section
open Go.RowKit
theorem qYs {P:Program} {fn:Func} {p u v:Tmp} {ty:TypeId} (h:fn.results=#[.cell p ty,.tmp u,.tmp v]) {tmps:Array Value} {w:World} {g:Nat} {t:TypeId} {cs:Array Value} {d:TypeDesc} (hp:tmps.getD p undef = .pointer (some ⟨g,0,none⟩))
 (hB:Blk w g t cs) (hu:P.underlying ty=some d) (hd:d.isRow=true) (hi:(P.info? ty).map (·.size)=some cs.size):(results fn tmps).run P w = .ok (.tuple #[.agg cs,tmps.getD u undef,tmps.getD v undef]) w:=by
 have h1:=qEw (P:=P) g t ty cs d hB hu hd hi;simp only [results,h];(have e:tmps[p]?.getD undef = .pointer (some ⟨g,0,none⟩):=by simpa using hp);simp [Sem.run_bind,e,qGq,h1]
theorem qZt (A:Option Addr) (c:Nat) (x:EH) (w:World) (h:Sl w 7 (Cells EH.vals) A 1 [x]) (hx:x.id=1) :
 Calls Tryz.prog 83 #[.slice A 1 c,.func (.func 82) #[] #[],.int .i64 1] w fun e w'=>e = .returned (.tuple #[.agg #[.int .i64 x.id,.int .i64 x.inn,.int .i64 x.out,.string x.region,.int .u8 x.kind,.string x.speaker,.slice x.A x.n x.c],.int .i64 0,.bool true])/\Ext w w':=by
 obtain ⟨b,off,rfl,hc⟩:=h.2 (by decide);have hc0:=hc 0 x rfl;rw [Nat.zero_mul,Nat.add_zero] at hc0;have HX0:=gH ((Ext.refl w).alloc (.cells #[.int .i64 0,.int .i64 0,.int .i64 0,.string ⟨#[]⟩,.int .u8 0,.string ⟨#[]⟩,.slice none 0 0] 54));have HC:=gH (show ∀ (j:Nat) (v:Value),#[.int .i64 x.id,.int .i64 x.inn,.int .i64 x.out,.string x.region,.int .u8 x.kind,.string x.speaker,.slice x.A x.n x.c][j]?=some v->(w.alloc (.cells #[.int .i64 0,.int .i64 0,.int .i64 0,.string ⟨#[]⟩,.int .u8 0,.string ⟨#[]⟩,.slice none 0 0] 54)).cell? ⟨b,off+j,none⟩=some v from fun j v hv=>HX0.out.cell (hc0 j v (by rw [← Array.getElem?_toList] at hv;exact hv)));have HZ:=gH ((Blk.new w 54 #[.int .i64 0,.int .i64 0,.int .i64 0,.string ⟨#[]⟩,.int .u8 0,.string ⟨#[]⟩,.slice none 0 0]).alloc (.cells #[.int .i64 x.id,.int .i64 x.inn,.int .i64 x.out,.string x.region,.int .u8 x.kind,.string x.speaker,.slice x.A x.n x.c] 54));have HB:=gH (Blk.new' (w:=w.alloc (.cells #[.int .i64 0,.int .i64 0,.int .i64 0,.string ⟨#[]⟩,.int .u8 0,.string ⟨#[]⟩,.slice none 0 0] 54)) (g:=w.heap.size+1) (t:=54) (cs:=#[.int .i64 x.id,.int .i64 x.inn,.int .i64 x.out,.string x.region,.int .u8 x.kind,.string x.speaker,.slice x.A x.n x.c]) (by simp));have HX1:=gH (HX0.out.alloc (.cells #[.int .i64 x.id,.int .i64 x.inn,.int .i64 x.out,.string x.region,.int .u8 x.kind,.string x.speaker,.slice x.A x.n x.c] 54));have Hx:=gH hx;clear h hc hc0 hx
 go_enter Tryz.func83,Tryz.ntmps83;go_wp2_with fail;refine qBm 0 ?_;intro K hK;(go_wp2_with first | (refine qEz rfl 54 _ rfl b off #[.int .i64 x.id,.int .i64 x.inn,.int .i64 x.out,.string x.region,.int .u8 x.kind,.string x.speaker,.slice x.A x.n x.c] _ (by exact rfl) HC.out Tryz.underlying54 rfl (by exact qAu) ?_) | (refine qAa rfl 54 _ rfl (w.heap.size+1) 54 _ _ (by exact rfl) (by exact HB.out) Tryz.underlying54 rfl (by exact qAu) ?_));refine (qYg x _).mono ?_;rintro e w2 ⟨rfl,hx2⟩;rw [Hx.out];have HX2:=gH (HX1.out.trans hx2);have HB2:=gH (HB.out.ext hx2);have HZ2:=gH (HZ.out.ext hx2);rw [Hx.out] at HB2;clear hx2 HX1 HB HZ HX0 HC;(go_wp2_with first | (refine qAa rfl 54 _ rfl (w.heap.size+1) 54 _ _ (by exact rfl) (by exact HB2.out) Tryz.underlying54 rfl (by exact qAu) ?_) | (refine qAc rfl 54 (.tmp 6) _ rfl w.heap.size 54 _ _ (by exact rfl) (by exact rfl) (by exact HZ2.out) (by exact rfl) (by exact qAu) (by simp [Value.oneCell']) ?_));refine bodyPost_ret (v:=.tuple #[.agg #[.int .i64 x.id,.int .i64 x.inn,.int .i64 x.out,.string x.region,.int .u8 x.kind,.string x.speaker,.slice x.A x.n x.c],.int .i64 0,.bool true]) ?_ rfl ⟨rfl,HX2.out.put (Nat.le_refl _) _ _⟩;rw [Hx.out];exact qYs (P:=Tryz.prog) Tryz.results83 (g:=w.heap.size) rfl (by exact HZ2.out.put _) Tryz.underlying54 rfl qAu
structure V2J (T:TypeId) (a1 a2:Nat) (z cs1 cs2:Array Value) (vs:List Value) (W:World) (us:List Value) (gs:Nat->Option Nat) (w:World):Prop where
 ext:Ext W w
 val:∀ (i:Nat) (u:Value),i<vs.length->us[i]?=some u->vs[i]?=some u
 b1:∀ g,gs a1=some g->W.heap.size<=g/\Blk w g T (if us.length<=vs.length then z else cs1)
 b2:∀ g,gs a2=some g->W.heap.size<=g/\Blk w g T (if us.length<=vs.length+1 then z else cs2)
 ne:∀ g,gs a1=some g->gs a2≠some g
section
variable {T:TypeId} {a1 a2:Nat} {z cs1 cs2:Array Value} {vs:List Value} {W w w2:World} {us:List Value} {gs:Nat->Option Nat} {v:Value}
theorem V2J.start (W:World):V2J T a1 a2 z cs1 cs2 vs W [] (fun _=>none) W.drew:=⟨(Ext.refl W).drew,fun i u _ h=>(by simp at h),fun g h=>(by cases h),fun g h=>(by cases h),fun g h=>(by cases h)⟩
theorem V2J.alloc1 (h:V2J T a1 a2 z cs1 cs2 vs W us gs w) (hn:a1≠a2) (hl:us.length<=vs.length):V2J T a1 a2 z cs1 cs2 vs W us (upd gs a1 w.heap.size) (w.alloc (.cells z T)):=by
 refine ⟨h.ext.alloc _,h.val,fun g hg=>?_,fun g hg=>?_,fun g hg=>?_⟩
 . rw [qCv] at hg
   obtain rfl:w.heap.size=g:=Option.some.inj hg;rw [if_pos hl];exact ⟨h.ext.size,Blk.new w _ _⟩
 . rw [qEi _ (Ne.symm hn)] at hg
   obtain ⟨h1,h2⟩:=h.b2 g hg;exact ⟨h1,h2.alloc _⟩
 . rw [qCv] at hg
   obtain rfl:w.heap.size=g:=Option.some.inj hg;rw [qEi _ (Ne.symm hn)];intro he;have:=(h.b2 _ he).2.lt;omega
theorem V2J.alloc2 (h:V2J T a1 a2 z cs1 cs2 vs W us gs w) (hn:a1≠a2) (hl:us.length<=vs.length+1):V2J T a1 a2 z cs1 cs2 vs W us (upd gs a2 w.heap.size) (w.alloc (.cells z T)):=by
 refine ⟨h.ext.alloc _,h.val,fun g hg=>?_,fun g hg=>?_,fun g hg=>?_⟩
 . rw [qEi _ hn] at hg
   obtain ⟨h1,h2⟩:=h.b1 g hg;exact ⟨h1,h2.alloc _⟩
 . rw [qCv] at hg
   obtain rfl:w.heap.size=g:=Option.some.inj hg;rw [if_pos hl];exact ⟨h.ext.size,Blk.new w _ _⟩
 . rw [qEi _ hn] at hg
   rw [qCv];intro he;have:=(h.b1 _ hg).2.lt;have:=Option.some.inj he;omega
theorem V2J.call (h:V2J T a1 a2 z cs1 cs2 vs W us gs w) (hx:Ext w w2) (hl:us.length<vs.length) (hv:vs[us.length]?=some v):V2J T a1 a2 z cs1 cs2 vs W (us++[v]) gs w2:=by
 refine ⟨h.ext.trans hx,fun i u hi hu=>?_,fun g hg=>?_,fun g hg=>?_,h.ne⟩
 . by_cases hq:i<us.length
   . rw [List.getElem?_append_left hq] at hu
     exact h.val i u hi hu
   . rw [List.getElem?_append_right (by omega)] at hu
     obtain rfl:i=us.length:=by
      have:=(List.getElem?_eq_some_iff.1 hu).1;simp at this;omega
     simp at hu;rw [hv,hu]
 . obtain ⟨h1,h2⟩:=h.b1 g hg
   rw [if_pos (by omega)] at h2;rw [if_pos (by simp;omega)];exact ⟨h1,h2.ext hx⟩
 . obtain ⟨h1,h2⟩:=h.b2 g hg
   rw [if_pos (by omega)] at h2;rw [if_pos (by simp;omega)];exact ⟨h1,h2.ext hx⟩
theorem V2J.blk1 {g:Nat} (h:V2J T a1 a2 z cs1 cs2 vs W us gs w) (hg:gs a1=some g) (hl:us.length<=vs.length):Blk w g T z:=by
 have:=(h.b1 g hg).2
 rwa [if_pos hl] at this
theorem V2J.blk2 {g:Nat} (h:V2J T a1 a2 z cs1 cs2 vs W us gs w) (hg:gs a2=some g) (hl:us.length<=vs.length+1):Blk w g T z:=by
 have:=(h.b2 g hg).2
 rwa [if_pos hl] at this
theorem V2J.store1 {g:Nat} (h:V2J T a1 a2 z cs1 cs2 vs W us gs w) (hg:gs a1=some g) (hl:us.length=vs.length):V2J T a1 a2 z cs1 cs2 vs W (us++[v]) gs (putB w g T cs1):=by
 obtain ⟨h1,h2⟩:=h.b1 g hg;refine ⟨h.ext.put h1 _ _,fun i u hi hu=>?_,fun g' hg'=>?_,fun g' hg'=>?_,h.ne⟩
 . rw [List.getElem?_append_left (by omega)] at hu
   exact h.val i u hi hu
 . rw [hg] at hg'
   cases hg'
   rw [if_neg (by simp;omega)];exact ⟨h1,h2.put _⟩
 . obtain ⟨k1,k2⟩:=h.b2 g' hg'
   rw [if_pos (by omega)] at k2;rw [if_pos (by simp;omega)];exact ⟨k1,k2.put_other (fun e=>h.ne g hg (by rw [e];exact hg')) _⟩
theorem V2J.store2 {g:Nat} (h:V2J T a1 a2 z cs1 cs2 vs W us gs w) (hg:gs a2=some g) (hl:us.length=vs.length+1):V2J T a1 a2 z cs1 cs2 vs W (us++[v]) gs (putB w g T cs2):=by
 obtain ⟨h1,h2⟩:=h.b2 g hg;refine ⟨h.ext.put h1 _ _,fun i u hi hu=>?_,fun g' hg'=>?_,fun g' hg'=>?_,h.ne⟩
 . rw [List.getElem?_append_left (by omega)] at hu
   exact h.val i u hi hu
 . obtain ⟨k1,k2⟩:=h.b1 g' hg'
   rw [if_neg (by omega)] at k2;rw [if_neg (by simp;omega)];exact ⟨k1,k2.put_other (fun e=>h.ne g' hg' (by rw [← e];exact hg)) _⟩
 . rw [hg] at hg'
   cases hg'
   rw [if_neg (by simp;omega)];exact ⟨h1,h2.put _⟩
end
def Doc.head (d:Doc):Value:=.agg #[.string d.title,.string d.lang,.int .u8 d.rate,.bool d.drop,.int .i64 d.last]
theorem qJx (d:Doc) (h:DocH) (w:World):Calls Tryz.prog 77 #[.agg (d.cells h)] w fun e w'=>e = .returned d.head/\Ext w w':=by
 have HX:=gH (((Ext.refl w).alloc (.cells (d.cells h) 27)));unfold Doc.cells at *;go_enter Tryz.func77,Tryz.ntmps77;go_wp2;exact bodyPost_ret (v:=d.head) (by simp [results,Tryz.results77,go_sem,Doc.head]) rfl ⟨rfl,HX.out.alloc _⟩
def zEb {α:Type} (w:World) (n:Nat) (l1 l2:List α) (i:Value) (wr:World):Prop:=∃ k:Nat,k<=n/\i = .int .i64 k/\Ext w wr/\l1.take k=l2.take k
theorem qGj {α:Type} {l1 l2:List α} {n:Nat} (h1:l1.length=n) (h2:l2.length=n) (h:l1.take n=l2.take n):l1=l2:=by
 rw [List.take_of_length_le (by omega),List.take_of_length_le (by omega)] at h;exact h
theorem qEx {α:Type} {l1 l2:List α} {k:Nat} {x:α} (h:l1.take k=l2.take k) (h1:l1[k]?=some x) (h2:l2[k]?=some x):l1.take (k+1)=l2.take (k+1):=by
 rw [List.take_add_one,List.take_add_one,h,h1,h2]
theorem zGz {α:Type} {l1 l2:List α} {k:Nat} {x y:α} (h1:l1[k]?=some x) (h2:l2[k]?=some y) (h:¬ x=y):¬ l1=l2:=by
 rintro rfl;rw [h1] at h2;exact h (Option.some.inj h2)
theorem zHc (a b:Run) (w:World):(binOp .neq 102 a.val b.val).run Tryz.prog w = .ok (.bool (!decide (a=b))) w:=by
 obtain ⟨t1,c1,i1,u1,r1⟩:=a;obtain ⟨t2,c2,i2,u2,r2⟩:=b;unfold Run.val;dsimp only;go_simp;simp only [toList_inj]
 repeat' split
 all_goals simp_all
theorem qYl (a b:Run) (h:¬ a=b) (w:World):(binOp .neq 102 a.val b.val).run Tryz.prog w = .ok (.bool true) w:=by rw [zHc,decide_eq_false h];rfl
theorem zCw (a:Run) (w:World):(binOp .neq 102 a.val a.val).run Tryz.prog w = .ok (.bool false) w:=by rw [zHc,decide_eq_true rfl];rfl
theorem qRm (A:Option Addr) (n c:Nat) (B:Option Addr) (m d:Nat) (l1 l2:Row) (w:World) (h1:qBj w A n l1) (h2:qBj w B m l2) (hn:n<=4611686018427387904) :
 Calls Tryz.prog 270 #[.slice A n c,.slice B m d] w fun e w'=>e = .returned (.bool (decide (l1=l2)))/\Ext w w':=by
 have L1:=gH h1.len;have L2:=gH h2.len;have H1:=gH h1;have H2:=gH h2;clear h1 h2
 by_cases hnm:n=m
 . subst hnm
   go_enter Tryz.func270,Tryz.ntmps270;go_wp2_with fail
   go_loopw [13] (fun i wr=>zEb w n l1 l2 i wr) (fun i _=>n-(intOf i).toNat)
   case atStart=>exact ⟨0,Nat.zero_le _,rfl,Ext.refl _,rfl⟩
   case round =>
    obtain ⟨k,hk,rfl,hx,hp⟩:=hrel;have HP:=gH hp;clear hp
    by_cases hlt:k<n
    . obtain ⟨b1,o1,r,rfl,hr,c0,c1,c2,c3,c4⟩:=(H1.out.ext hx).at_ hlt
      obtain ⟨b2,o2,s,rfl,hs,d0,d1,d2,d3,d4⟩:=(H2.out.ext hx).at_ hlt;have HR:=gH hr;have HS:=gH hs;clear hr hs;(have hk0:(0:Int)<=(k:Int):=by omega);(have hk1:(k:Int)<(n:Int):=by omega)
      by_cases hq:r=s
      . subst hq
        have HT:=gH (qEx HP.out HR.out HS.out);(have hne:=fun w=>zCw r w);unfold Run.val at hne;go_wp2_with fail;go_quiet (fail);go_wp2_with fail;exact ⟨⟨k+1,by omega,by go_num,hx.drewN _,HT.out⟩,by simp [intOf];omega⟩
      . have hne:=fun w=>qYl r s hq w
        have HN:=gH (zGz HR.out HS.out hq);unfold Run.val at hne;clear hq;go_wp2_with fail;go_quiet (fail);go_wp2_with fail;go_ret;exact ⟨qBh (decide_eq_false HN.out).symm,hx.drewN _⟩
    . have hkn:k=n:=by omega
      subst hkn;have HQ:=gH (qGj L1.out L2.out HP.out);go_wp2_with fail;go_ret;exact ⟨qBh (decide_eq_true HQ.out).symm,hx⟩
 . have hb:((n:Int) != (m:Int))=true:=by simp;omega
   have HN:Hid (¬ l1=l2):=by
    show ¬ _
    intro h;apply hnm;rw [← L1.out,← L2.out,h]
   go_enter Tryz.func270,Tryz.ntmps270;go_wp2_with fail;go_ret;exact ⟨qBh (decide_eq_false HN.out).symm,Ext.refl _⟩
theorem zEh (A:Option Addr) (n c:Nat) (B:Option Addr) (m d:Nat) (l1 l2:Row) (w:World) (h1:qBj w A n l1) (h2:qBj w B m l2) (hn:n<=4611686018427387904) :
 Calls Tryz.prog 225 #[.agg #[.slice A n c],.agg #[.slice B m d]] w fun e w'=>e = .returned (.bool (decide (l1=l2)))/\Ext w w':=by
 have H1:=gH h1;have H2:=gH h2;clear h1 h2;have hx:=((Ext.refl w).alloc (.cells #[.slice A n c] 61)).alloc (.cells #[.slice B m d] 61);have HX:=gH hx;clear hx;go_enter Tryz.func225,Tryz.ntmps225;go_wp2_with fail;refine (qRm A n c B m d l1 l2 _ (H1.out.ext HX.out) (H2.out.ext HX.out) hn).mono ?_;rintro e w1 ⟨rfl,hx1⟩;go_wp2_with fail;go_ret;exact ⟨rfl,HX.out.trans hx1⟩
theorem qRk (A:Option Addr) (n c:Nat) (B:Option Addr) (m d:Nat) (l1 l2:List Row) (w:World) (h1:qCb w A n l1) (h2:qCb w B m l2) (hn:n<=4611686018427387904) :
 Calls Tryz.prog 224 #[.slice A n c,.slice B m d,.func (.func 225) #[] #[]] w fun e w'=>e = .returned (.bool (decide (l1=l2)))/\Ext w w':=by
 have L1:=gH h1.len;have L2:=gH h2.len;have H1:=gH h1;have H2:=gH h2;clear h1 h2
 by_cases hnm:n=m
 . subst hnm
   go_enter Tryz.func224,Tryz.ntmps224;go_wp2_with fail
   go_loopw [17] (fun i wr=>zEb w n l1 l2 i wr) (fun i _=>n-(intOf i).toNat)
   case atStart=>exact ⟨0,Nat.zero_le _,rfl,Ext.refl _,rfl⟩
   case round =>
    obtain ⟨k,hk,rfl,hx,hp⟩:=hrel;have HP:=gH hp;clear hp
    by_cases hlt:k<n
    . obtain ⟨b1,o1,r,rfl,hr,A1,n1,c1,e1,f1,g1,u1⟩:=(H1.out.ext hx).at_ hlt
      obtain ⟨b2,o2,s,rfl,hs,A2,n2,c2,e2,f2,g2,u2⟩:=(H2.out.ext hx).at_ hlt;simp only [Nat.mul_one] at e1 e2;have U1:=gH u1;have U2:=gH u2;have HR:=gH hr;have HS:=gH hs;clear hr hs u1 u2;have hb2:b2<wr.heap.size:=World.block_lt_of_cell? wr _ e2;have hxa:=((Ext.refl wr).alloc (.cells #[.slice A1 n1 c1] 61)).alloc (.cells #[.slice A2 n2 c2] 61);have HX:=gH hxa;clear hxa;go_wp2_with fail;refine (zEh A1 n1 c1 A2 n2 c2 r s _ (U1.out.ext HX.out) (U2.out.ext HX.out) (by omega)).mono ?_;rintro e w1 ⟨rfl,hx1⟩;have hxw1:Ext w w1:=(hx.trans HX.out).trans hx1
      by_cases hq:r=s
      . subst hq
        have HT:=gH (qEx HP.out HR.out HS.out);rw [decide_eq_true rfl];go_wp2_with fail;exact ⟨⟨k+1,by omega,by go_num,hxw1,HT.out⟩,by simp [intOf];omega⟩
      . have HN:=gH (zGz HR.out HS.out hq)
        rw [decide_eq_false hq];clear hq;go_wp2_with fail;go_ret;exact ⟨qBh (decide_eq_false HN.out).symm,hxw1⟩
    . have hkn:k=n:=by omega
      subst hkn;have HQ:=gH (qGj L1.out L2.out HP.out);go_wp2_with fail;go_ret;exact ⟨qBh (decide_eq_true HQ.out).symm,hx⟩
 . have hb:((n:Int) != (m:Int))=true:=by simp;omega
   have HN:Hid (¬ l1=l2):=by
    show ¬ _
    intro h;apply hnm;rw [← L1.out,← L2.out,h]
   go_enter Tryz.func224,Tryz.ntmps224;go_wp2_with fail;go_ret;exact ⟨qBh (decide_eq_false HN.out).symm,Ext.refl _⟩
theorem qLt (A:Option Addr) (n c:Nat) (B:Option Addr) (m d:Nat) (l1 l2:List Row) (w:World) (h1:qCb w A n l1) (h2:qCb w B m l2) (hn:n<=4611686018427387904) :
 Calls Tryz.prog 173 #[.slice A n c,.slice B m d] w fun e w'=>e = .returned (.bool (decide (l1=l2)))/\Ext w w':=by
 have H1:=gH h1;have H2:=gH h2;clear h1 h2;go_enter Tryz.func173,Tryz.ntmps173;go_wp2_with fail;refine (qRk A n c B m d l1 l2 _ H1.out H2.out hn).mono ?_;rintro e w1 ⟨rfl,hx1⟩;go_wp2_with fail;go_ret;exact ⟨rfl,hx1⟩
theorem qZs (a b a' b':Int) (w:World):(binOp .eql 38 (.agg #[.int .i64 a,.int .i64 b]) (.agg #[.int .i64 a',.int .i64 b'])).run Tryz.prog w = .ok (.bool (decide (a=a'/\b=b'))) w:=by
 go_simp
 repeat' split
 all_goals simp_all
theorem zFt {x y:Ev} (h:¬ (x.id=y.id/\(x.inn=y.inn/\x.out=y.out)/\x.region.toList=y.region.toList/\x.kind=y.kind/\x.speaker.toList=y.speaker.toList/\x.rows=y.rows)):decide (x=y)=false :=
 decide_eq_false (by rintro rfl;exact h ⟨rfl,⟨rfl,rfl⟩,rfl,rfl,rfl,rfl⟩)
theorem ev_eq {x y:Ev} (h1:x.id=y.id) (h2:x.inn=y.inn/\x.out=y.out) (h3:x.region.toList=y.region.toList) (h4:x.kind=y.kind) (h5:x.speaker.toList=y.speaker.toList):decide (x=y)=decide (x.rows=y.rows):=by
 obtain ⟨a1,a2,a3,a4,a5,a6,a7⟩:=x;obtain ⟨b1,b2,b3,b4,b5,b6,b7⟩:=y;rw [toList_inj] at h3 h5
 simp_all
theorem qUa (x y:Ev) (A:Option Addr) (n c:Nat) (B:Option Addr) (m d:Nat) (w:World) (h1:EvAt w x A n c) (h2:EvAt w y B m d) :
 Calls Tryz.prog 84 #[.agg (x.cells A n c),.agg (y.cells B m d)] w fun e w'=>e = .returned (.bool (decide (x=y)))/\Ext w w':=by
 have hn24:n*24<=140737488355328:=h1.2.2;have H1:=gH h1;have H2:=gH h2;clear h1 h2;have hx:=((Ext.refl w).alloc (.cells (x.cells A n c) 54)).alloc (.cells (y.cells B m d) 54);have HX:=gH hx;clear hx;unfold Ev.cells at HX ⊢
 by_cases h0:x.id=y.id
 . have b0:(x.id == y.id)=true:=by simpa using h0
   have E0:=gH h0;clear h0
   by_cases h1:x.inn=y.inn/\x.out=y.out
   . have b1:=fun w=>(qZs x.inn x.out y.inn y.out w).trans (by rw [decide_eq_true h1])
     have E1:=gH h1;clear h1
     by_cases h2:x.region.toList=y.region.toList
     . have b2:(x.region.toList == y.region.toList)=true:=by simpa using h2
       have E2:=gH h2;clear h2
       by_cases h3:x.kind=y.kind
       . have b3:(x.kind == y.kind)=true:=by simpa using h3
         have E3:=gH h3;clear h3
         by_cases h4:x.speaker.toList=y.speaker.toList
         . have b4:(x.speaker.toList == y.speaker.toList)=true:=by simpa using h4
           have E4:=gH h4;clear h4;have HF:Hid (decide (x=y)=decide (x.rows=y.rows)):=ev_eq E0.out E1.out E2.out E3.out E4.out;go_enter Tryz.func84,Tryz.ntmps84;go_wp2_with fail;refine (qLt A n c B m d x.rows y.rows _ (H1.out.1.ext HX.out) (H2.out.1.ext HX.out) (by omega)).mono ?_;rintro en w1 ⟨rfl,hx1⟩;go_wp2_with fail;go_ret;exact ⟨qBh HF.out.symm,HX.out.trans hx1⟩
         . have b4:(x.speaker.toList == y.speaker.toList)=false:=by simpa using h4
           have HF:Hid (decide (x=y)=false):=zFt (fun h=>h4 h.2.2.2.2.1);clear h4;go_enter Tryz.func84,Tryz.ntmps84;go_wp2_with fail;go_ret;exact ⟨qBh HF.out.symm,HX.out⟩
       . have b3:(x.kind == y.kind)=false:=by simpa using h3
         have HF:Hid (decide (x=y)=false):=zFt (fun h=>h3 h.2.2.2.1);clear h3;go_enter Tryz.func84,Tryz.ntmps84;go_wp2_with fail;go_ret;exact ⟨qBh HF.out.symm,HX.out⟩
     . have b2:(x.region.toList == y.region.toList)=false:=by simpa using h2
       have HF:Hid (decide (x=y)=false):=zFt (fun h=>h2 h.2.2.1);clear h2;go_enter Tryz.func84,Tryz.ntmps84;go_wp2_with fail;go_ret;exact ⟨qBh HF.out.symm,HX.out⟩
   . have b1:=fun w=>(qZs x.inn x.out y.inn y.out w).trans (by rw [decide_eq_false h1])
     have HF:Hid (decide (x=y)=false):=zFt (fun h=>h1 h.2.1);clear h1;go_enter Tryz.func84,Tryz.ntmps84;go_wp2_with fail;go_ret;exact ⟨qBh HF.out.symm,HX.out⟩
 . have b0:(x.id == y.id)=false:=by simpa using h0
   have HF:Hid (decide (x=y)=false):=zFt (fun h=>h0 h.1);clear h0;go_enter Tryz.func84,Tryz.ntmps84;go_wp2_with fail;go_ret;exact ⟨qBh HF.out.symm,HX.out⟩
def chgC (x:Ev) (A:Option Addr) (n c:Nat) (y:Ev) (B:Option Addr) (m d:Nat):Array Value :=
 #[.int .u8 3,.int .i64 1,.string ⟨#[]⟩,.bool false,.bool false,.string ⟨#[]⟩,.string ⟨#[]⟩,.int .u8 0,.bool false,.int .i64 0,.string ⟨#[]⟩,.string ⟨#[]⟩,.int .u8 0,.bool false,.int .i64 0,.string ⟨#[]⟩,.int .i64 0,.int .i64 0,.int .i64 0,.int .i64 0,.int .u8 0,.bool false,.string ⟨#[]⟩,.int .i64 0,.int .i64 0,.int .i64 0,.int .i64 0,.int .u8 0,.bool false,.int .i64 1,.int .i64 x.inn,.int .i64 x.out,.string x.region,.int .u8 x.kind,.string x.speaker,.slice A n c,.int .i64 1,.int .i64 y.inn,.int .i64 y.out,.string y.region,.int .u8 y.kind,.string y.speaker,.slice B m d,.int .i64 0,.int .i64 0,.int .i64 0,.int .i64 0,.string ⟨#[]⟩,.string ⟨#[]⟩,.bool false,.bool false,.int .i64 0,.int .i64 0,.int .i64 0,.int .i64 0,.string ⟨#[]⟩,.string ⟨#[]⟩,.bool false,.bool false]
def zNr (x y:Ev) (nx ny:Nat):List (Value->World->Prop) :=
 [fun u w=>∃ A1 c1,u = .agg #[.int .i64 1,.int .i64 x.inn,.int .i64 x.out,.string x.region,.int .u8 x.kind,.string x.speaker,.slice A1 nx c1]/\EvAt w x A1 nx c1,fun u w=>∃ A2 c2,u = .agg #[.int .i64 1,.int .i64 y.inn,.int .i64 y.out,.string y.region,.int .u8 y.kind,.string y.speaker,.slice A2 ny c2]/\EvAt w y A2 ny c2,
  fun u w=>∃ A1 c1 A2 c2,u = .agg (chgC x A1 nx c1 y A2 ny c2)/\EvAt w x A1 nx c1/\EvAt w y A2 ny c2,
  fun u w=>∃ g A1 c1 A2 c2,u = .slice (some ⟨g,0,none⟩) 1 1/\Blk w g 159 (chgC x A1 nx c1 y A2 ny c2)/\EvAt w x A1 nx c1/\EvAt w y A2 ny c2,
  fun u w=>∃ g c A1 c1 A2 c2,u = .slice (some ⟨g,0,none⟩) 1 c/\(∀ (j:Nat) (v:Value),(chgC x A1 nx c1 y A2 ny c2)[j]?=some v->w.cell? ⟨g,0+j,none⟩=some v)/\EvAt w x A1 nx c1/\EvAt w y A2 ny c2,
  fun u w=>∃ g c A1 c1 A2 c2,u = .slice (some ⟨g,0,none⟩) 1 c/\(∀ (j:Nat) (v:Value),(chgC x A1 nx c1 y A2 ny c2)[j]?=some v->w.cell? ⟨g,0+j,none⟩=some v)/\EvAt w x A1 nx c1/\EvAt w y A2 ny c2]
theorem qIq (x y:Ev) (nx ny:Nat):QSt (zNr x y nx ny):=by
 intro p hp u wa wb hx hh;simp only [zNr,List.mem_cons,List.not_mem_nil,or_false] at hp
 rcases hp with rfl | rfl | rfl | rfl | rfl | rfl
 . obtain ⟨A1,c1,e,h⟩:=hh
   exact ⟨A1,c1,e,h.ext hx⟩
 . obtain ⟨A1,c1,e,h⟩:=hh
   exact ⟨A1,c1,e,h.ext hx⟩
 . obtain ⟨A1,c1,A2,c2,e,h,k⟩:=hh
   exact ⟨A1,c1,A2,c2,e,h.ext hx,k.ext hx⟩
 . obtain ⟨g,A1,c1,A2,c2,e,b,h,k⟩:=hh
   exact ⟨g,A1,c1,A2,c2,e,b.ext hx,h.ext hx,k.ext hx⟩
 . obtain ⟨g,c,A1,c1,A2,c2,e,b,h,k⟩:=hh
   exact ⟨g,c,A1,c1,A2,c2,e,fun j v hv=>hx.cell (b j v hv),h.ext hx,k.ext hx⟩
 . obtain ⟨g,c,A1,c1,A2,c2,e,b,h,k⟩:=hh
   exact ⟨g,c,A1,c1,A2,c2,e,fun j v hv=>hx.cell (b j v hv),h.ext hx,k.ext hx⟩
theorem zKk:(Tryz.prog.info? 159).map (fun i=>(i.zero,i.size,i.bytes))=some (some (.agg #[.int .u8 0,.int .i64 0,.string ⟨#[]⟩,.bool false,.bool false,.string ⟨#[]⟩,.string ⟨#[]⟩,.int .u8 0,.bool false,.int .i64 0,.string ⟨#[]⟩,.string ⟨#[]⟩,.int .u8 0,.bool false,.int .i64 0,.string ⟨#[]⟩,.int .i64 0,.int .i64 0,.int .i64 0,.int .i64 0,.int .u8 0,.bool false,.string ⟨#[]⟩,.int .i64 0,.int .i64 0,.int .i64 0,.int .i64 0,.int .u8 0,.bool false,.int .i64 0,.int .i64 0,.int .i64 0,.string ⟨#[]⟩,.int .u8 0,.string ⟨#[]⟩,.slice none 0 0,.int .i64 0,.int .i64 0,.int .i64 0,.string ⟨#[]⟩,.int .u8 0,.string ⟨#[]⟩,.slice none 0 0,.int .i64 0,.int .i64 0,.int .i64 0,.int .i64 0,.string ⟨#[]⟩,.string ⟨#[]⟩,.bool false,.bool false,.int .i64 0,.int .i64 0,.int .i64 0,.int .i64 0,.string ⟨#[]⟩,.string ⟨#[]⟩,.bool false,.bool false]),59,568):=by kernel_rfl
theorem qIy:(Tryz.prog.info? 155).map (·.size)=some 5:=by kernel_rfl
theorem zQo {w:World} {A:Option Addr} {x:Ev} (h:qGw w A 1 [x]):∃ Ax nx cx,EvAt w x Ax nx cx/\Sl w 7 (Cells EH.vals) A 1 [EH.of x Ax nx cx]:=by
 obtain ⟨b,off,rfl,hc⟩:=h.2 (by decide);obtain ⟨Ax,nx,cx,h1,h2⟩:=hc 0 x rfl;refine ⟨Ax,nx,cx,h2,rfl,fun _=>⟨b,off,rfl,fun i z hz=>?_⟩⟩;(have hi:i=0:=by have:=(List.getElem?_eq_some_iff.1 hz).1;simp at this;omega);subst hi
 cases hz
 exact h1
def qXa (x y:Ev) (w:World) (e:Ending) (w':World):Prop :=
 ∃ g c Ax nx cx Ay ny cy,e = .returned (.tuple #[.slice (some ⟨g,0,none⟩) 1 c,.int .i64 0])/\(∀ (j:Nat) (v:Value),(chgC x Ax nx cx y Ay ny cy)[j]?=some v->w'.cell? ⟨g,0+j,none⟩=some v)/\EvAt w' x Ax nx cx/\EvAt w' y Ay ny cy/\Ext w w'
theorem zJu (da db:Doc) (h k:DocH) (x y:Ev) (w:World) (hE:Env w) (ha:qCx w da h) (hb:qCx w db k) (fa:qCf da) (fb:qCf db) (h1:da.evs=[x]) (h2:db.evs=[y]) (h3:da.regs=[]) (h4:db.regs=[]) (h5:da.coms=[]) (h6:db.coms=[])
 (hx:x.id=1) (hy:y.id=1) (hne:x≠y) (hhd:db.head=da.head) (e1:da.err=0) (e2:db.err=0) :
 Calls Tryz.prog 16 #[.agg (da.cells h),.agg (db.cells k)] w (qXa x y w):=by
 (have l1:h.rn=0:=by rw [← ha.regs.len,h3];rfl);(have l2:h.en=1:=by rw [← ha.evs.len,h1];rfl);(have l3:h.cn=0:=by rw [← ha.coms.len,h5];rfl);(have l4:k.rn=0:=by rw [← hb.regs.len,h4];rfl);(have l5:k.en=1:=by rw [← hb.evs.len,h2];rfl);(have l6:k.cn=0:=by rw [← hb.coms.len,h6];rfl);have HCa:=gH (fun w' (hx':Ext w w')=>qDb da h w' (hE.ext hx') (ha.ext hx') fa (by omega) (by omega) (by omega));have HCb:=gH (fun w' (hx':Ext w w')=>qDb db k w' (hE.ext hx') (hb.ext hx') fb (by omega) (by omega) (by omega));rw [e1] at HCa;rw [e2] at HCb;have HHa:=gH (fun w'=>qJx da h w');have HHb:=gH (fun w'=>qJx db k w');rw [hhd] at HHb;have va:=ha.evs;have vb:=hb.evs;rw [h1,l2] at va;rw [h2,l5] at vb;obtain ⟨Ax,nx,cx,evx,slx⟩:=zQo va;obtain ⟨Ay,ny,cy,evy,sly⟩:=zQo vb;have HVx:=gH evx;have HVy:=gH evy;have HKs:=gH (fun w' (hx':Ext w w')=>zKo h.ea k.ea h.ec k.ec _ _ w' (Sl.ext (Cells.stays _) slx hx') (Sl.ext (Cells.stays _) sly hx') hx hy);have HFx:=gH (fun w' (hx':Ext w w')=>qZt h.ea h.ec _ w' (Sl.ext (Cells.stays _) slx hx') hx);have HFy:=gH (fun w' (hx':Ext w w')=>qZt k.ea k.ec _ w' (Sl.ext (Cells.stays _) sly hx') hy);have HSm:=gH (fun w' (hx':Ext w w')=>qUa x y Ax nx cx Ay ny cy w' (evx.ext hx') (evy.ext hx'));have HKx:=gH (fun w' (hx':Ext w w')=>qGg x Ax nx cx w' (evx.ext hx'))
 have HKy:=gH (fun w' (hx':Ext w w')=>qGg y Ay ny cy w' (evy.ext hx'));rw [decide_eq_false hne] at HSm;unfold qXb at HKx HKy;unfold EH.of at HFx HFy;dsimp only at HFx HFy;rw [hx] at HFx;rw [hy] at HFy;unfold Ev.cells at HSm HKx HKy;rw [hx] at HSm HKx;rw [hy] at HSm HKy;have Hx:=gH hx;have Hy:=gH hy;clear hE ha hb fa fb h1 h2 h3 h4 h5 h6 hx hy hne e1 e2 va vb evx evy slx sly hhd;obtain ⟨ra,rn,rc,ea,en,ec,ca,cn,cc⟩:=h;obtain ⟨rb,sn,sc,eb,fn,fc,cb,dn,dc⟩:=k;dsimp only at l1 l2 l3 l4 l5 l6;subst l1 l2 l3 l4 l5 l6;unfold Doc.head at HHa HHb;unfold Doc.cells at *;dsimp only at *;have HX:=gH ((((Ext.refl w).alloc (.cells #[.string da.title,.string da.lang,.int .u8 da.rate,.bool da.drop,.int .i64 da.last,.slice ra 0 rc,.slice ea 1 ec,.slice ca 0 cc] 27)).alloc (.cells #[.string db.title,.string db.lang,.int .u8 db.rate,.bool db.drop,.int .i64 db.last,.slice rb 0 sc,.slice eb 1 fc,.slice cb 0 dc] 27)));have HA:=gH ((Blk.new w 27 #[.string da.title,.string da.lang,.int .u8 da.rate,.bool da.drop,.int .i64 da.last,.slice ra 0 rc,.slice ea 1 ec,.slice ca 0 cc]).alloc (.cells #[.string db.title,.string db.lang,.int .u8 db.rate,.bool db.drop,.int .i64 db.last,.slice rb 0 sc,.slice eb 1 fc,.slice cb 0 dc] 27))
 have HB:=gH (Blk.new' (w:=w.alloc (.cells #[.string da.title,.string da.lang,.int .u8 da.rate,.bool da.drop,.int .i64 da.last,.slice ra 0 rc,.slice ea 1 ec,.slice ca 0 cc] 27)) (g:=w.heap.size+1) (t:=27) (cs:=#[.string db.title,.string db.lang,.int .u8 db.rate,.bool db.drop,.int .i64 db.last,.slice rb 0 sc,.slice eb 1 fc,.slice cb 0 dc]) (by simp));go_enter Tryz.func16,Tryz.ntmps16;(go_wp2_with first | (refine qAa rfl 27 (.tmp 2) rfl w.heap.size 27 _ _ (by exact rfl) (by exact HA.out) Tryz.underlying27 rfl (by exact qAb) ?_) | (refine qAa rfl 27 (.tmp 3) rfl (w.heap.size+1) 27 _ _ (by exact rfl) (by exact HB.out) Tryz.underlying27 rfl (by exact qAb) ?_));obtain ⟨W1,hW1⟩:∃ W1,W1=((w.alloc (.cells #[.string da.title,.string da.lang,.int .u8 da.rate,.bool da.drop,.int .i64 da.last,.slice ra 0 rc,.slice ea 1 ec,.slice ca 0 cc] 27)).alloc (.cells #[.string db.title,.string db.lang,.int .u8 db.rate,.bool db.drop,.int .i64 db.last,.slice rb 0 sc,.slice eb 1 fc,.slice cb 0 dc] 27)).alloc (.cells #[.string da.title,.string da.lang,.int .u8 da.rate,.bool da.drop,.int .i64 da.last,.slice ra 0 rc,.slice ea 1 ec,.slice ca 0 cc,.string db.title,.string db.lang,.int .u8 db.rate,.bool db.drop,.int .i64 db.last,.slice rb 0 sc,.slice eb 1 fc,.slice cb 0 dc] 27):=⟨_,rfl⟩;have HX1:=gH (show Ext w W1 from by rw [hW1];exact HX.out.alloc _)
 have HA1:=gH (show Blk W1 w.heap.size 27 #[.string da.title,.string da.lang,.int .u8 da.rate,.bool da.drop,.int .i64 da.last,.slice ra 0 rc,.slice ea 1 ec,.slice ca 0 cc] from by rw [hW1];exact HA.out.alloc _);have HB1:=gH (show Blk W1 (w.heap.size+1) 27 #[.string db.title,.string db.lang,.int .u8 db.rate,.bool db.drop,.int .i64 db.last,.slice rb 0 sc,.slice eb 1 fc,.slice cb 0 dc] from by rw [hW1];exact HB.out.alloc _);have HR1:=gH (show Blk W1 (w.heap.size+1+1) 27 #[.string da.title,.string da.lang,.int .u8 da.rate,.bool da.drop,.int .i64 da.last,.slice ra 0 rc,.slice ea 1 ec,.slice ca 0 cc,.string db.title,.string db.lang,.int .u8 db.rate,.bool db.drop,.int .i64 db.last,.slice rb 0 sc,.slice eb 1 fc,.slice cb 0 dc] from by rw [hW1];exact Blk.new' (by simp));rw [← hW1];clear hW1 HX HA HB;have HN1:=gH (Blk.new W1 27 #[.string da.title,.string da.lang,.int .u8 da.rate,.bool da.drop,.int .i64 da.last,.slice ra 0 rc,.slice ea 1 ec,.slice ca 0 cc]);refine qBm 2 ?_;intro K hK
 (go_wp2_with first | (refine qCj rfl 27 _ rfl (w.heap.size+1+1) 0 27 _ #[.string da.title,.string da.lang,.int .u8 da.rate,.bool da.drop,.int .i64 da.last,.slice ra 0 rc,.slice ea 1 ec,.slice ca 0 cc] _ (by exact rfl) (by exact HR1.out) (by exact rfl) Tryz.underlying27 rfl (by exact qAb) ?_) | (refine qAa rfl 27 (.tmp 7) rfl W1.heap.size 27 _ _ (by exact rfl) (by exact HN1.out) Tryz.underlying27 rfl (by exact qAb) ?_));refine (HCa.out _ (HX1.out.alloc _)).mono ?_;rintro e w2 ⟨rfl,hx2⟩;(have hy2:=(Ext.refl W1).alloc (.cells #[.string da.title,.string da.lang,.int .u8 da.rate,.bool da.drop,.int .i64 da.last,.slice ra 0 rc,.slice ea 1 ec,.slice ca 0 cc] 27) |>.trans hx2);have HX2:=gH (HX1.out.trans hy2);have HA2:=gH (HA1.out.ext hy2);have HB2:=gH (HB1.out.ext hy2);have HR2:=gH (HR1.out.ext hy2);clear hx2 hy2 HX1 HA1 HB1 HR1 HN1;go_wp2_with fail;have HN2:=gH (Blk.new w2 27 #[.string db.title,.string db.lang,.int .u8 db.rate,.bool db.drop,.int .i64 db.last,.slice rb 0 sc,.slice eb 1 fc,.slice cb 0 dc]);refine qBy.mk ?_;intro K hK
 (go_wp2_with first | (refine qCj rfl 27 _ rfl (w.heap.size+1+1) 8 27 _ #[.string db.title,.string db.lang,.int .u8 db.rate,.bool db.drop,.int .i64 db.last,.slice rb 0 sc,.slice eb 1 fc,.slice cb 0 dc] _ (by exact rfl) (by exact HR2.out) (by exact rfl) Tryz.underlying27 rfl (by exact qAb) ?_) | (refine qAa rfl 27 (.tmp 7) rfl w2.heap.size 27 _ _ (by exact rfl) (by exact HN2.out) Tryz.underlying27 rfl (by exact qAb) ?_));refine (HCb.out _ (HX2.out.alloc _)).mono ?_;rintro e w3 ⟨rfl,hx3⟩;(have hy3:=(Ext.refl w2).alloc (.cells #[.string db.title,.string db.lang,.int .u8 db.rate,.bool db.drop,.int .i64 db.last,.slice rb 0 sc,.slice eb 1 fc,.slice cb 0 dc] 27) |>.trans hx3);have HX3:=gH (HX2.out.trans hy3);have HA3:=gH (HA2.out.ext hy3);have HB3:=gH (HB2.out.ext hy3);clear hx3 hy3 HX2 HA2 HB2 HR2 HN2 HCa HCb;go_wp2_with fail;refine qBy.mk ?_;intro K hK;go_wp2_with fail
 refine qBb [some 50,some 51,some 52,some 53,some 10,some 11,none,none] [[],[0],[],[2,1],[],[],[4,1,3,0,1,4,5],[5,3,6,0,1,2,3,4,5,6]] [1,3,6,7] [4,5] [.agg #[.string da.title,.string da.lang,.int .u8 da.rate,.bool da.drop,.int .i64 da.last,.slice ra 0 rc,.slice ea 1 ec,.slice ca 0 cc],undef,.agg #[.string db.title,.string db.lang,.int .u8 db.rate,.bool db.drop,.int .i64 db.last,.slice rb 0 sc,.slice eb 1 fc,.slice cb 0 dc],undef,undef,undef,undef,undef] (fun _=>.cells #[.string ⟨#[]⟩,.string ⟨#[]⟩,.int .u8 0,.bool false,.int .i64 0] 155) (V2J 155 4 5 #[.string ⟨#[]⟩,.string ⟨#[]⟩,.int .u8 0,.bool false,.int .i64 0] #[.string da.title,.string da.lang,.int .u8 da.rate,.bool da.drop,.int .i64 da.last] #[.string da.title,.string da.lang,.int .u8 da.rate,.bool da.drop,.int .i64 da.last] [.agg #[.string da.title,.string da.lang,.int .u8 da.rate,.bool da.drop,.int .i64 da.last],.agg #[.string da.title,.string da.lang,.int .u8 da.rate,.bool da.drop,.int .i64 da.last]] w3) (by kernel_rfl) (by kernel_rfl) (by kernel_rfl) (by kernel_rfl) (by kernel_rfl) (by kernel_rfl) (by kernel_rfl) (by decide) (by kernel_rfl) ?_ ?_ ?_ ?_ ?_ ?_
 . exact V2J.start w3
 . intro i o ho ha a w' K' hk
   match i,ho with
   | 0,ho | 1,ho | 2,ho | 3,ho=>simp at ha
   | 4,ho | 5,ho =>
    simp only [gA,gB,gC,gD] at ho;subst ho;exact qDv rfl Tryz.zeroValue155 hk
   | 6,ho | 7,ho=>simp at ha
   | i+8,ho=>simp at ho
 . intro i ha us gs w' hJ hn hlim
   match i,ha with
   | 0,ha | 1,ha | 2,ha | 3,ha=>simp at ha
   | 4,ha=>exact hJ.alloc1 (by decide) (hlim 2 6 rfl rfl)
   | 5,ha=>exact hJ.alloc2 (by decide) (Nat.le_succ_of_le (hlim 2 6 rfl rfl))
   | 6,ha | 7,ha=>simp at ha
   | i+8,ha=>simp at ha
 . intro i o ho hc ha a w' us gs K' hJ hF hlim hk
   match i,ho with
   | 0,ho =>
    simp only [gA,gB,gC,gD] at ho;subst ho;have e2:=hF.old 2 (.pointer (some ⟨w.heap.size,0,none⟩)) rfl rfl;exact qBf 27 (.tmp 2) rfl _ 27 _ _ e2 (HA3.out.ext hJ.ext) Tryz.underlying27 rfl (by exact qAb) hk
   | 1,ho=>simp at hc
   | 2,ho =>
    simp only [gA,gB,gC,gD] at ho;subst ho;have e3:=hF.old 3 (.pointer (some ⟨w.heap.size+1,0,none⟩)) rfl rfl;exact qBf 27 (.tmp 3) rfl _ 27 _ _ e3 (HB3.out.ext hJ.ext) Tryz.underlying27 rfl (by exact qAb) hk
   | 3,ho=>simp at hc
   | 4,ho | 5,ho=>simp at ha
   | 6,ho | 7,ho=>simp at hc
   | i+8,ho=>simp at ho
 . intro p c' o hp ho a w' us gs K' hl hJ hF hk
   match p,hp with
   | 0,hp =>
    (obtain rfl:1=c':=by simpa using hp);simp only [gA,gB,gC,gD] at ho;subst ho;obtain rfl:us=[]:=List.eq_nil_of_length_eq_zero hl;have e50:=hF.pure 0 50 (.agg #[.string da.title,.string da.lang,.int .u8 da.rate,.bool da.drop,.int .i64 da.last,.slice ra 0 rc,.slice ea 1 ec,.slice ca 0 cc]) rfl rfl rfl rfl rfl;refine qDl rfl e50 Tryz.call77 (HHa.out w') ?_;rintro en w5 ⟨rfl,hx5⟩;exact ⟨_,rfl,hk _ w5 (hJ.call hx5 (by simp) rfl)⟩
   | 1,hp =>
    (obtain rfl:3=c':=by simpa using hp);simp only [gA,gB,gC,gD] at ho;subst ho;obtain ⟨u0,rfl⟩:=qBv hl;have e52:=hF.pure 2 52 (.agg #[.string db.title,.string db.lang,.int .u8 db.rate,.bool db.drop,.int .i64 db.last,.slice rb 0 sc,.slice eb 1 fc,.slice cb 0 dc]) rfl rfl rfl rfl rfl;refine qDl rfl e52 Tryz.call77 (HHb.out w') ?_;rintro en w5 ⟨rfl,hx5⟩;exact ⟨_,rfl,hk _ w5 (hJ.call hx5 (by simp) rfl)⟩
   | 2,hp =>
    (obtain rfl:6=c':=by simpa using hp);simp only [gA,gB,gC,gD] at ho;subst ho;obtain ⟨u0,u1,rfl⟩:=qCm hl;obtain rfl:.agg #[.string da.title,.string da.lang,.int .u8 da.rate,.bool da.drop,.int .i64 da.last]=u0:=Option.some.inj (hJ.val 0 u0 (by simp) rfl);obtain ⟨g10,hg10,e10⟩:=hF.ptr 4 10 rfl rfl rfl rfl;have e51:=hF.link 0 1 51 _ rfl rfl rfl rfl;exact qCh 155 (.tmp 10) (.tmp 51) rfl g10 155 _ _ e10 e51 (by exact qIy) (by simp [Value.oneCell']) (hJ.blk1 hg10 (by simp)) rfl (hk undef _ (hJ.store1 hg10 rfl))
   | 3,hp =>
    (obtain rfl:7=c':=by simpa using hp);simp only [gA,gB,gC,gD] at ho;subst ho;obtain ⟨u0,u1,u2,rfl⟩:=qCn hl;obtain rfl:.agg #[.string da.title,.string da.lang,.int .u8 da.rate,.bool da.drop,.int .i64 da.last]=u1:=Option.some.inj (hJ.val 1 u1 (by simp) rfl);obtain ⟨g11,hg11,e11⟩:=hF.ptr 5 11 rfl rfl rfl rfl;have e53:=hF.link 1 3 53 _ rfl rfl rfl rfl;exact qCh 155 (.tmp 11) (.tmp 53) rfl g11 155 _ _ e11 e53 (by exact qIy) (by simp [Value.oneCell']) (hJ.blk2 hg11 (by simp)) rfl (hk undef _ (hJ.store2 hg11 rfl))
   | p+4,hp=>simp at hp
 intro us gs w4 hl hgs hJ;obtain ⟨u0,u1,u2,u3,rfl⟩:=qEm hl;obtain ⟨g4,hg4⟩:=Option.isSome_iff_exists.1 (hgs 4 rfl);obtain ⟨g5,hg5⟩:=Option.isSome_iff_exists.1 (hgs 5 rfl)
 first | (rename_i hK;refine hK _ _ ?_;clear hK) | (rename_i hK hK_1;refine hK _ _ ?_;clear hK) | (rename_i hK hK_1 hK_2;refine hK _ _ ?_;clear hK) | (rename_i hK hK_1 hK_2 hK_3;refine hK _ _ ?_;clear hK)
 generalize hL:qFy _ _ _ _ _ _=L;obtain rfl:L=[(50,.agg #[.string da.title,.string da.lang,.int .u8 da.rate,.bool da.drop,.int .i64 da.last,.slice ra 0 rc,.slice ea 1 ec,.slice ca 0 cc]),(51,u0),(52,.agg #[.string db.title,.string db.lang,.int .u8 db.rate,.bool db.drop,.int .i64 db.last,.slice rb 0 sc,.slice eb 1 fc,.slice cb 0 dc]),(53,u1),(10,.pointer ((gs 4).map fun g=>⟨g,0,none⟩)),(11,.pointer ((gs 5).map fun g=>⟨g,0,none⟩))]:=hL.symm.trans (by kernel_rfl);rw [hg4,hg5];clear hL hl;simp only [Act.put,Option.map_some,List.foldl_cons,List.foldl_nil,List.setIfInBounds_toArray,List.set_cons_zero,List.set_cons_succ];obtain rfl:.agg #[.string da.title,.string da.lang,.int .u8 da.rate,.bool da.drop,.int .i64 da.last]=u0:=Option.some.inj (hJ.val 0 u0 (by simp) rfl);obtain rfl:.agg #[.string da.title,.string da.lang,.int .u8 da.rate,.bool da.drop,.int .i64 da.last]=u1:=Option.some.inj (hJ.val 1 u1 (by simp) rfl);obtain ⟨hga,hba⟩:=hJ.b1 g4 hg4;obtain ⟨hgb,hbb⟩:=hJ.b2 g5 hg5;(have hnab:g4≠g5:=fun e=>hJ.ne g4 hg4 (by rw [e];exact hg5));rw [if_neg (by simp)] at hba hbb;have hxj:=hJ.ext;clear hJ hgs hg4 hg5;have HX4:=gH (HX3.out.trans hxj);have HA4:=gH (HA3.out.ext hxj);have HB4:=gH (HB3.out.ext hxj);have HG1:=gH hba;have HG2:=gH hbb;clear hxj HX3 HA3 HB3 hba hbb hga hgb hnab HHa HHb;(have ka:=fun o=>HA4.out.cell o);(have kb:=fun o=>HB4.out.cell o)
 (go_wp2_with first | (refine qAa rfl 155 (.tmp 10) rfl g4 155 _ _ (by exact rfl) (by exact HG1.out) Tryz.underlying155 rfl (by exact qIy) ?_) | (refine qAa rfl 155 (.tmp 11) rfl g5 155 _ _ (by exact rfl) (by exact HG2.out) Tryz.underlying155 rfl (by exact qIy) ?_));refine (zGq _ _ _ _ _).mono ?_;rintro e w5 ⟨rfl,hx5⟩;have HX5:=gH (HX4.out.trans hx5);have HA5:=gH (HA4.out.ext hx5);have HB5:=gH (HB4.out.ext hx5);clear hx5 HX4 HA4 HB4 HG1 HG2 ka kb;(have ka:=fun o=>HA5.out.cell o);(have kb:=fun o=>HB5.out.cell o);go_wp2_with fail;refine qBm 0 ?_;intro K hK;go_wp2_with fail;refine (HKs.out _ HX5.out).mono ?_;rintro e w6 ⟨gk,ck,rfl,hk6,hx6⟩;have HX6:=gH (HX5.out.trans hx6);have HA6:=gH (HA5.out.ext hx6);have HB6:=gH (HB5.out.ext hx6);clear hx6 HX5 HA5 HB5 ka kb HKs;(have ka:=fun o=>HA6.out.cell o);(have kb:=fun o=>HB6.out.cell o);go_wp2_with fail;refine qBm 1 ?_;intro K hK;go_wp2_with fail;refine (HFx.out _ HX6.out).mono ?_;rintro e w7 ⟨rfl,hx7⟩;have hy7:=hx7.alloc (.cells #[.int .i64 1,.int .i64 x.inn,.int .i64 x.out,.string x.region,.int .u8 x.kind,.string x.speaker,.slice Ax nx cx] 54);have HX7:=gH (HX6.out.trans hy7);have HA7:=gH (HA6.out.ext hy7);have HB7:=gH (HB6.out.ext hy7);have HNx:=gH (Blk.new w7 54 #[.int .i64 1,.int .i64 x.inn,.int .i64 x.out,.string x.region,.int .u8 x.kind,.string x.speaker,.slice Ax nx cx]);clear hx7 hy7 HX6 HA6 HB6 ka kb HFx hk6;(have ka:=fun o=>HA7.out.cell o)
 (have kb:=fun o=>HB7.out.cell o);go_wp2_with fail;refine (HFy.out _ HX7.out).mono ?_;rintro e w8 ⟨rfl,hx8⟩;have hy8:=hx8.alloc (.cells #[.int .i64 1,.int .i64 y.inn,.int .i64 y.out,.string y.region,.int .u8 y.kind,.string y.speaker,.slice Ay ny cy] 54);have HX8:=gH (HX7.out.trans hy8);have HA8:=gH (HA7.out.ext hy8);have HB8:=gH (HB7.out.ext hy8);have HNy:=gH (Blk.new w8 54 #[.int .i64 1,.int .i64 y.inn,.int .i64 y.out,.string y.region,.int .u8 y.kind,.string y.speaker,.slice Ay ny cy]);have HNx8:=gH (HNx.out.ext hy8);clear hx8 hy8 HX7 HA7 HB7 ka kb HFy HNx;(have kx:=fun o=>HNx8.out.cell o);(have ky:=fun o=>HNy.out.cell o);go_wp2_with fail;refine (HSm.out _ HX8.out).mono ?_;rintro e w9 ⟨rfl,hx9⟩;have HX9:=gH (HX8.out.trans hx9);have HA9:=gH (HA8.out.ext hx9);have HB9:=gH (HB8.out.ext hx9);have HNx9:=gH (HNx8.out.ext hx9);have HNy9:=gH (HNy.out.ext hx9);clear hx9 HX8 HA8 HB8 HNx8 HNy kx ky HSm;go_wp2_with fail;have hw9:w.heap.size<=w9.heap.size:=HX9.out.size;have nx24:=HVx.out.2.2;have ny24:=HVy.out.2.2
 refine qAr [some 144,some 145,some 146,some 147,some 148,some 149,some 150,some 151,some 152,some 153,some 154,some 155,some 156,some 9] [[],[],[],[2],[],[4],[],[6],[],[8,7],[1,3,5,7,9],[10],[0,11,9],[12,12,0,1,2,3,4,5,6,7,8,9,10,11,12]] [7,9,10,11,12,13] [.slice none 0 0,.int .i64 1,.bool true,.bool false,.bool true,.bool false,.agg #[.int .i64 1,.int .i64 x.inn,.int .i64 x.out,.string x.region,.int .u8 x.kind,.string x.speaker,.slice Ax nx cx],undef,.agg #[.int .i64 1,.int .i64 y.inn,.int .i64 y.out,.string y.region,.int .u8 y.kind,.string y.speaker,.slice Ay ny cy],undef,undef,undef,undef,undef] (QJ (zNr x y nx ny) w9) (by kernel_rfl) (by kernel_rfl) (by kernel_rfl) (by kernel_rfl) (by kernel_rfl) (by kernel_rfl) (by kernel_rfl) (by decide) ?_ ?_ ?_ ?_
 . exact QJ.start _ w9
 . intro i o ho hc a w' us K' hJ hF hlim hk
   match i,ho with
   | 0,ho =>
    simp only [gA,gB,gC,gD] at ho;subst ho;have e9:=hF.olds 5 13 9 (.slice none 0 0) rfl rfl (hlim 5 13 rfl rfl) rfl;simp only [Act.eval] at e9;clear hF hlim hJ;go_simp;exact hk
   | 1,ho =>
    simp only [gA,gB,gC,gD] at ho;subst ho;have e21:=hF.old 21 (.int .i64 1) rfl rfl;simp only [Act.eval] at e21;clear hF hlim hJ;go_simp;exact hk
   | 2,ho =>
    simp only [gA,gB,gC,gD] at ho;subst ho;have e24:=hF.old 24 (.bool true) rfl rfl;simp only [Act.eval] at e24;clear hF hlim hJ;go_simp;exact hk
   | 3,ho =>
    simp only [gA,gB,gC,gD] at ho;subst ho;have e146:=hF.pure 2 146 (.bool true) rfl rfl rfl rfl;simp only [Act.eval] at e146;clear hF hlim hJ;go_simp;exact hk
   | 4,ho =>
    simp only [gA,gB,gC,gD] at ho;subst ho;have e27:=hF.old 27 (.bool true) rfl rfl;simp only [Act.eval] at e27;clear hF hlim hJ;go_simp;exact hk
   | 5,ho =>
    simp only [gA,gB,gC,gD] at ho;subst ho;have e148:=hF.pure 4 148 (.bool true) rfl rfl rfl rfl;simp only [Act.eval] at e148;clear hF hlim hJ;go_simp;exact hk
   | 6,ho =>
    simp only [gA,gB,gC,gD] at ho;subst ho;have e22:=hF.old 22 (.pointer (some ⟨w7.heap.size,0,none⟩)) rfl rfl;exact qBf 54 (.tmp 22) rfl _ 54 _ _ e22 (HNx9.out.ext hJ.ext) Tryz.underlying54 rfl (by exact qAu) hk
   | 7,ho=>simp at hc
   | 8,ho =>
    simp only [gA,gB,gC,gD] at ho;subst ho;have e25:=hF.old 25 (.pointer (some ⟨w8.heap.size,0,none⟩)) rfl rfl;exact qBf 54 (.tmp 25) rfl _ 54 _ _ e25 (HNy9.out.ext hJ.ext) Tryz.underlying54 rfl (by exact qAu) hk
   | 9,ho | 10,ho | 11,ho | 12,ho | 13,ho=>simp at hc
   | i+14,ho=>simp at ho
 . intro p c' o hp ho a w' us K' hl hJ hF hk
   match p,hp with
   | 0,hp =>
    (obtain rfl:7=c':=by simpa using hp);simp only [gA,gB,gC,gD] at ho;subst ho;obtain rfl:us=[]:=List.eq_nil_of_length_eq_zero hl;have e150:=hF.pure 6 150 (.agg #[.int .i64 1,.int .i64 x.inn,.int .i64 x.out,.string x.region,.int .u8 x.kind,.string x.speaker,.slice Ax nx cx]) rfl rfl rfl rfl;refine qDl rfl e150 Tryz.call85 (HKx.out w' (HX9.out.trans hJ.ext)) ?_;rintro en w5 ⟨A1,c1,rfl,hnc,hrf,hx5⟩;exact ⟨_,rfl,hk _ w5 (hJ.push (qIq _ _ _ _) hx5 (fun p hp=>by cases hp;exact ⟨A1,c1,rfl,hrf.rows,hnc,nx24⟩))⟩
   | 1,hp =>
    (obtain rfl:9=c':=by simpa using hp);simp only [gA,gB,gC,gD] at ho;subst ho;obtain ⟨u0,rfl⟩:=qBv hl;have e152:=hF.pure 8 152 (.agg #[.int .i64 1,.int .i64 y.inn,.int .i64 y.out,.string y.region,.int .u8 y.kind,.string y.speaker,.slice Ay ny cy]) rfl rfl rfl rfl;refine qDl rfl e152 Tryz.call85 (HKy.out w' (HX9.out.trans hJ.ext)) ?_;rintro en w5 ⟨A1,c1,rfl,hnc,hrf,hx5⟩;exact ⟨_,rfl,hk _ w5 (hJ.push (qIq _ _ _ _) hx5 (fun p hp=>by cases hp;exact ⟨A1,c1,rfl,hrf.rows,hnc,ny24⟩))⟩
   | 2,hp =>
    (obtain rfl:10=c':=by simpa using hp);simp only [gA,gB,gC,gD] at ho;subst ho;obtain ⟨u0,u1,rfl⟩:=qCm hl;obtain ⟨A1,c1,rfl,hq1⟩:=hJ.val 0 u0 _ rfl rfl;obtain ⟨A2,c2,rfl,hq2⟩:=hJ.val 1 u1 _ rfl rfl;have e145:=hF.pure 1 145 (.int .i64 1) rfl rfl rfl rfl;have e147:=hF.pure 3 147 (.bool false) rfl rfl rfl rfl;have e149:=hF.pure 5 149 (.bool false) rfl rfl rfl rfl;have e151:=hF.link 0 7 151 _ rfl rfl rfl rfl;have e153:=hF.link 1 9 153 _ rfl rfl rfl rfl;have HK:=gH (hk (.agg (chgC x A1 nx c1 y A2 ny c2)) w' (hJ.push (qIq _ _ _ _) (Ext.refl w') (fun p hp=>by cases hp;exact ⟨A1,c1,A2,c2,rfl,hq1,hq2⟩)));unfold chgC at HK;simp [Act.eval] at e145 e147 e149 e151 e153;clear hk hF hJ;go_simp;exact HK.out
   | 3,hp =>
    (obtain rfl:11=c':=by simpa using hp);simp only [gA,gB,gC,gD] at ho;subst ho;obtain ⟨u0,u1,u2,rfl⟩:=qCn hl;obtain ⟨A1,c1,A2,c2,rfl,hq1,hq2⟩:=hJ.val 2 u2 _ rfl rfl;have e154:=hF.link 2 10 154 _ rfl rfl rfl rfl;have HK:=gH (hk (.slice (some ⟨w'.heap.size,0,none⟩) 1 1) (w'.alloc (.cells (chgC x A1 nx c1 y A2 ny c2) 159)) (hJ.push (qIq _ _ _ _) ((Ext.refl w').alloc _) (fun p hp=>by cases hp;exact ⟨_,A1,c1,A2,c2,rfl,Blk.new w' _ _,hq1.ext ((Ext.refl w').alloc _),hq2.ext ((Ext.refl w').alloc _)⟩)));unfold chgC at HK e154;simp [Act.eval] at e154;clear hk hF hJ;go_simp;exact HK.out
   | 4,hp =>
    (obtain rfl:12=c':=by simpa using hp);simp only [gA,gB,gC,gD] at ho;subst ho;obtain ⟨u0,u1,u2,u3,rfl⟩:=qEm hl;obtain ⟨g,A1,c1,A2,c2,rfl,hbq,hq1,hq2⟩:=hJ.val 3 u3 _ rfl rfl;have e144:=hF.pure 0 144 (.slice none 0 0) rfl rfl rfl rfl;have e155:=hF.link 3 11 155 _ rfl rfl rfl rfl
    exact qFq (.tmp 144) (.tmp 155) 74 rfl zKk Tryz.underlying74 rfl (by decide) (qFd w' w'.heap.size 159 59) e144 g _ e155 hbq rfl (by simp [chgC,Value.oneCell']) (by decide) (by simp [maxLen]) (Nat.le_refl _) (fun v' wz hoz hgz hlz=>by
     obtain ⟨g',c',rfl,-,-⟩:=qBt hoz (by decide);have hxz:=(Ext.refl w').grown hgz (fun q hq=>by simp [Value.ownBlock] at hq)
     have hcl:∀ (j:Nat) (v:Value),(chgC x A1 nx c1 y A2 ny c2)[j]?=some v->wz.cell? ⟨g',0+j,none⟩=some v:=fun j v hv=>by
      have hj:=(Array.getElem?_eq_some_iff.1 hv).1;have:=hoz.cellAt j (by simpa [chgC] using hj);rw [← Array.getElem?_toList] at hv;rw [Nat.zero_add];rw [List.nil_append] at this;exact this.trans hv
     exact hk _ wz (hJ.push (qIq _ _ _ _) hxz (fun p hp=>by cases hp;exact ⟨g',c',A1,c1,A2,c2,rfl,hcl,hq1.ext hxz,hq2.ext hxz⟩)))
   | 5,hp =>
    (obtain rfl:13=c':=by simpa using hp);simp only [gA,gB,gC,gD] at ho;subst ho;obtain ⟨u0,u1,u2,u3,u4,rfl⟩:=qHz hl;obtain ⟨g,c,A1,c1,A2,c2,rfl,hcq,hq1,hq2⟩:=hJ.val 4 u4 _ rfl rfl;have e156:=hF.link 4 12 156 _ rfl rfl rfl rfl;have HK:=gH (hk (.slice (some ⟨g,0,none⟩) 1 c) w' (hJ.push (qIq _ _ _ _) (Ext.refl w') (fun p hp=>by cases hp;exact ⟨g,c,A1,c1,A2,c2,rfl,hcq,hq1,hq2⟩)));simp [Act.eval] at e156;clear hk hF hJ;go_simp;exact HK.out
   | p+6,hp=>simp at hp
 intro us w10 hl hJ;obtain ⟨u0,u1,u2,u3,u4,u5,rfl⟩:=zAb hl
 first | (rename_i hK;refine hK _ _ ?_;clear hK) | (rename_i hK hK_1;refine hK _ _ ?_;clear hK) | (rename_i hK hK_1 hK_2;refine hK _ _ ?_;clear hK) | (rename_i hK hK_1 hK_2 hK_3;refine hK _ _ ?_;clear hK)
 generalize hL:qCd _ _ _ _=L;obtain rfl:L=[(144,.slice none 0 0),(145,.int .i64 1),(146,.bool true),(147,.bool false),(148,.bool true),(149,.bool false),(150,.agg #[.int .i64 1,.int .i64 x.inn,.int .i64 x.out,.string x.region,.int .u8 x.kind,.string x.speaker,.slice Ax nx cx]),(151,u0),(152,.agg #[.int .i64 1,.int .i64 y.inn,.int .i64 y.out,.string y.region,.int .u8 y.kind,.string y.speaker,.slice Ay ny cy]),(153,u1),(154,u2),(155,u3),(156,u4),(9,u5)]:=hL.symm.trans (by kernel_rfl);clear hL hl;simp only [Act.put,List.foldl_cons,List.foldl_nil,List.setIfInBounds_toArray,List.set_cons_zero,List.set_cons_succ];obtain ⟨gc,cc',A1,c1,A2,c2,rfl,hcell,hev1,hev2⟩:∃ g c A1 c1 A2 c2,u5=Value.slice (some ⟨g,0,none⟩) 1 c/\(∀ (j:Nat) (v:Value),(chgC x A1 nx c1 y A2 ny c2)[j]?=some v->w10.cell? ⟨g,0+j,none⟩=some v)/\EvAt w10 x A1 nx c1/\EvAt w10 y A2 ny c2:=hJ.val 5 u5 _ rfl rfl;have hy10:=hJ.ext;have HX10:=gH (HX9.out.trans hy10);have HA10:=gH (HA9.out.ext hy10);have HB10:=gH (HB9.out.ext hy10);have HV10:=gH hev1;have HW10:=gH hev2;have HC10:=gH hcell;clear hJ hy10 HX9 HA9 HB9 HNx9 HNy9 hev1 hev2 hcell hw9 nx24 ny24 HVx HVy;(have ka:=fun o=>HA10.out.cell o);(have kb:=fun o=>HB10.out.cell o);go_wp2_with fail;refine qBy.mk ?_;intro K hK;go_wp2_with fail;refine (zGp _ _ _ _ _).mono ?_;rintro e w11 ⟨rfl,hx11⟩;have HX11:=gH (HX10.out.trans hx11);have HV11:=gH (HV10.out.ext hx11)
 have HW11:=gH (HW10.out.ext hx11);have HC11:=gH (fun j v hv=>hx11.cell (HC10.out j v hv));clear hx11 HX10 HA10 HB10 HV10 HW10 HC10 ka kb;go_wp2_with fail;refine qBm 0 ?_;intro K hK;go_wp2_with fail;go_ret2;exact ⟨gc,cc',A1,nx,c1,A2,ny,c2,rfl,HC11.out,HV11.out,HW11.out,HX11.out⟩
end
end Go.Proofs.YtneffpbodfjceaaGreatDoor