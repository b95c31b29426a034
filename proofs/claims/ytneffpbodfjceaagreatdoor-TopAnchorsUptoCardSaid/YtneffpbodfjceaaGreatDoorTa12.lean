/- Texts laid together. -/
import Derived.Test.YtneffpbodfjceaaGreatDoorTa11
import Derived.Deep.AppendLies
set_option linter.unusedVariables false
set_option linter.unusedSimpArgs false
set_option maxRecDepth 100000
set_option maxHeartbeats 16000000
namespace Go.Proofs.YtneffpbodfjceaaGreatDoor
section
open Go.RowKit
theorem zOw (x y:EH) (w:World) :
 Calls Tryz.prog 195 #[.agg x.vals.toArray,.agg y.vals.toArray] w fun e w'=>e = .returned (.int .i64 (cmpH x y))/\Extd w w':=by
 have HX:=gH (((Extd.refl w).alloc (.cells x.vals.toArray 54)).alloc (.cells y.vals.toArray 54));have HV:Hid (orI (cmpI x.inn y.inn) (cmpI x.id y.id)=cmpH x y):=rfl;unfold EH.vals at HX ⊢;go_enter Tryz.func195,Tryz.ntmps195;go_wp2_with fail;go_region_held3 (fun w'=>w'.cell? ⟨w.heap.size,0,none⟩=some (.int .i64 x.id)/\w'.cell? ⟨w.heap.size,1,none⟩=some (.int .i64 x.inn)/\w'.cell? ⟨w.heap.size+1,0,none⟩=some (.int .i64 y.id)/\w'.cell? ⟨w.heap.size+1,1,none⟩=some (.int .i64 y.inn)) (go_keep) (first | (go_at_call 185;refine (qNb _ _ _).mono ?_;rintro e w1 ⟨rfl,rfl⟩) | (go_at_call 184;refine (zMd (cmpI x.inn y.inn) (cmpI x.id y.id) _ _ _ (by exact (Blk.drew (Blk.new' (by simp))).cell 0) (by exact (Blk.drew (Blk.new' (by simp))).cell 1)).mono ?_;rintro e w1 ⟨rfl,rfl⟩));go_wp2_with fail;go_ret;exact ⟨qAf HV.out,(HX.out.drew).alloc _⟩
theorem zDj (g off n:Nat) (w:World):Go.Proofs.CmpLays Tryz.prog 195 #[] EH.vals 7 cmpH g off n w :=
 fun _ _ _ _ x y=>(zOw x y _).mono fun _ _ ⟨he,hx⟩=>⟨he,hx.grow⟩
theorem qZb:∀ args w,(callFunc 195 args).run Tryz.prog w = .ok (.enter 195 args) w:=Go.Proofs.enters_of Tryz.func195 (by kernel_rfl) rfl
theorem EH.ones (x:EH):∀ v∈x.vals,v.oneCell'=true:=by
 intro v hv;simp only [EH.vals,List.mem_cons,List.not_mem_nil,or_false] at hv
 rcases hv with rfl | rfl | rfl | rfl | rfl | rfl | rfl<;>rfl
def zJk (l:List Ev) (n:Nat) (w:World) (en:Ending) (w':World):Prop:=∃ v,en = .returned v/\qBs w' w.heap.size v n (srtE l)/\Ext w w'
def qRr (l:List Ev) (n:Nat) (w:World) (v i:Value) (wr:World):Prop:=∃ k:Nat,k<=n/\i = .int .i64 k/\Ext w wr/\qBs wr w.heap.size v k (l.take k)
theorem qRr.step {w wr w2:World} {k:Nat} {l:List Ev} {v v':Value} {e:Ev} {hs:List EH} {A':Option Addr} {n' c':Nat} (hx:Ext w wr) (r:qBs wr w.heap.size v k (l.take k)) (he:l[k]?=some e) (h1:wr.ownsRow w.heap.size 54 7 v k (hs.flatMap EH.vals))
 (hg:qFu wr w.heap.size (EH.of e A' n' c') e) (hgr:wr.grownBy w2 v.ownBlock) (hO:w2.ownsRow w.heap.size 54 7 v' (k+1) (hs.flatMap EH.vals++(e.cells A' n' c').toList)):Ext w w2/\qBs w2 w.heap.size v' (k+1) (l.take (k+1)):=by
 refine ⟨hx.grown hgr (fun q hq=>qBg h1 q hq),?_⟩;rw [take_snoc' l k e he];exact r.push h1 hg hgr hO
theorem zDo {w w0:World} {L n:Nat} {v:Value} {l:List Ev} (h:qBs w L v n l) (hn:n<1152921504606846976) (hx:Ext w0 w) (hL:w0.heap.size<=L) :
 Calls Tryz.prog 194 #[v,.func (.func 195) #[] #[]] w fun e w'=>e = .returned (.tuple #[])/\qBs w' L v n (srtE l)/\Ext w0 w':=by
 obtain ⟨hs,h1,h2,h3,h4⟩:=h
 rcases h1.2 with ⟨hv,hn0⟩ | ⟨g,c,cur,rfl,hg,hb,-⟩
 . subst hv
   refine (qPq stL _ w).mono ?_;rintro e w' ⟨rfl,rfl⟩;have hl:l=[]:=List.length_eq_zero_iff.1 (by omega);subst hl;exact ⟨rfl,⟨hs,h1,h2,h3,fun i h e a b=>by simp [srtE,Stb.sortS] at b⟩,hx⟩
 . have hg':g<w.heap.size:=(Array.getElem?_eq_some_iff.1 hb).1
   (have hz:hs.toArray.size=n:=by simp [h2]);have hH:=zHl EH.len h1 h2;have hcon:=qTj stL EH.vals cmpH 195 #[] g 0 c hs.toArray hs.toArray w w qZb (zDj g 0 _ w) ⟨EH.len,EH.ones,hH,hg'⟩ rfl (Go.Proofs.SWK.start hH) (by rw [hz];exact hn) (by rw [zMn];exact zQt);rw [hz] at hcon;refine hcon.mono ?_;rintro e w' ⟨rfl,d',hd',hS,hl⟩;obtain ⟨hs',rfl⟩:∃ hs':List EH,d'=hs'.toArray:=⟨d'.toList,by simp⟩;refine ⟨rfl,qBs.sorted h1 h2 h3 h4 hS (by rw [zMn] at hl;simpa using hl),hx.grown (qWu hS) (fun q hq=>by cases hq;omega)⟩
theorem zDz (l:List Ev) (A:Option Addr) (n c:Nat) (w:World) (hat:qGw w A n l) (hn:n*88<=140737488355328) :
 Calls Tryz.prog 113 #[.slice A n c] w (zJk l n w):=by
 have HE:=gH hat;have HEl:=gH hat.len;clear hat;go_enter Tryz.func113,Tryz.ntmps113;go_wp2_with fail
 go_loopw [3,8] (fun v i wr=>qRr l n w v i wr) (fun _ i _=>n-(intOf i).toNat)
 case atStart=>exact ⟨0,Nat.zero_le _,rfl,Ext.refl w,qBs.nil _ _⟩
 case round =>
  obtain ⟨k,hk,rfl,hx,hev⟩:=hrel;have HXr:=gH hx;have HEv:=gH hev;clear hx hev
  by_cases hlt:k<n
  . obtain ⟨b,off,x,A',n',c',rfl,hxx,hxat,e0,e1,e2,e3,e4,e5,e6⟩:=(HE.out.ext HXr.out).at_ev hlt
    have HXx:=gH hxx;have HCn:=gH (fun w' (hx:Ext wr w')=>qGg x A' n' c' w' (hxat.ext hx));have hn24:=hxat.2.2;clear hxx hxat;unfold qXb Ev.cells at HCn;have HBx:=gH (Blk.new wr 54 #[.int .i64 x.id,.int .i64 x.inn,.int .i64 x.out,.string x.region,.int .u8 x.kind,.string x.speaker,.slice A' n' c']);go_wp2_with (refine qAa rfl 54 (.tmp 5) rfl wr.heap.size 54 _ _ (by exact rfl) (by exact HBx.out) Tryz.underlying54 rfl (by exact qAu) ?_);clear e0 e1 e2 e3 e4 e5 e6;refine (HCn.out _ ((Ext.refl wr).alloc _)).mono ?_;rintro en w5 ⟨A5,c5,rfl,hnc5,hrf5,hx5⟩;have HX5:=gH (((Ext.refl wr).alloc (.cells #[.int .i64 x.id,.int .i64 x.inn,.int .i64 x.out,.string x.region,.int .u8 x.kind,.string x.speaker,.slice A' n' c'] 54)).trans hx5);have HRf:=gH hrf5;have hsz:=HXr.out.size;have hsz5:=HX5.out.size;obtain ⟨hs,hown⟩:=(HEv.out.ext HX5.out).heads;have HOw:=gH hown;clear hrf5 hx5 hown;go_wp2_with (at_builtin;refine qAi rfl (.tmp 12) (.tmp 15) 24 rfl qNv Tryz.underlying24 rfl (by decide) (HOw.out.alloc _) (by exact rfl) w5.heap.size _ (by exact rfl) (by exact Blk.new' (by simp)) (by exact rfl) (by simp [Value.oneCell']) (by omega) (by simp [maxLen];omega) (by simp;omega) ?_;intro v' w6 hown' hgr)
    have hg:qFu (w5.alloc (.cells #[.int .i64 x.id,.int .i64 x.inn,.int .i64 x.out,.string x.region,.int .u8 x.kind,.string x.speaker,.slice A5 n' c5] 54)) w.heap.size (EH.of x A5 n' c5) x:=⟨rfl,hnc5,hn24,(HRf.out.ext ((Ext.refl w5).alloc _)).le (by simp;omega)⟩;have hst:=qRr.step (HXr.out.trans (HX5.out.trans ((Ext.refl w5).alloc (.cells #[.int .i64 x.id,.int .i64 x.inn,.int .i64 x.out,.string x.region,.int .u8 x.kind,.string x.speaker,.slice A5 n' c5] 54)))) ((HEv.out.ext HX5.out).ext ((Ext.refl w5).alloc (.cells #[.int .i64 x.id,.int .i64 x.inn,.int .i64 x.out,.string x.region,.int .u8 x.kind,.string x.speaker,.slice A5 n' c5] 54))) HXx.out (HOw.out.alloc _) hg hgr hown';exact ⟨⟨k+1,by omega,by go_num,hst.1,hst.2⟩,by simp [intOf];omega⟩
  . have hkn:k=n:=by omega
    subst hkn;have htk:l.take k=l:=List.take_of_length_le (by rw [HEl.out];omega);have hev:=HEv.out;rw [htk] at hev;obtain ⟨A6,c6,hv,hc6,-,-⟩:=hev.at_;subst hv;have HS:=gH (zDo hev (by omega) HXr.out (Nat.le_refl _));clear hev htk HEv;go_wp2_with fail;refine HS.out.mono ?_;rintro en w9 ⟨rfl,ho9,hx9⟩;go_wp2_with fail;go_ret;exact ⟨_,rfl,ho9,hx9⟩
section
variable {d:Doc} {id:Int} {k:Nat}
end
theorem qAw.ev_at {w:World} {L k:Nat} {d:Doc} {h:DocH} (o:qAw w L d h) (hk:k<h.en):∃ g,h.ea=some ⟨g,0,none⟩/\L<=g:=by
 obtain ⟨hs,h1,-⟩:=o.evs
 rcases h1.2 with ⟨hv,hn⟩ | ⟨g,cap,cur,hv,hg,hb,hnc,hcm,hcs,ht⟩
 . omega
 . exact ⟨g,by injection hv,hg⟩
theorem qAw.com_cell {w:World} {L k j g:Nat} {d:Doc} {h:DocH} {c:Com} {u:Value} (o:qAw w L d h) (hca:h.ca=some ⟨g,0,none⟩) (hc:d.coms[k]?=some c) (hu:c.vals[j]?=some u):w.cell? ⟨g,k*8+j,none⟩=some u/\w.frozen? ⟨g,k*8+j,none⟩=false:=by
 have hk:=(List.getElem?_eq_some_iff.1 hc).1;(have hj:j<8:=by have:=(List.getElem?_eq_some_iff.1 hu).1;exact this);have a4:=o.coms;have hty:=qAt a4;rw [hca] at a4 hty;have a5:=o.clen;exact ⟨by rw [a4.cellAt (k*8+j) (by omega),qDr Com.vals 8 (fun _=>rfl) d.coms k c j hc hj,hu],(hty g rfl).frozen _⟩
section
variable {d:Doc} {e:Ev}
end
theorem qYb {w:World} {A:Option Addr} {n:Nat} {hs:List EH} {l:List Ev} (h:Sl w 7 (Cells EH.vals) A n hs) (hl:l.length=n) (hg:∀ (i:Nat) (h:EH) (e:Ev),hs[i]?=some h->l[i]?=some e->h=EH.of e h.A h.n h.c/\EvAt w e h.A h.n h.c):qGw w A n l:=by
 refine ⟨hl,fun hn=>?_⟩;obtain ⟨b,off,hA,hcs⟩:=h.2 hn;refine ⟨b,off,hA,fun i e he=>?_⟩;(have hi:i<hs.length:=by rw [h.1,← hl];exact (List.getElem?_eq_some_iff.1 he).1);obtain ⟨x,hx⟩:∃ x,hs[i]?=some x:=⟨_,List.getElem?_eq_getElem hi⟩;obtain ⟨hg1,hg2⟩:=hg i x e hx he;refine ⟨x.A,x.n,x.c,?_,hg2⟩;have:=hcs i x hx;rw [hg1] at this;exact this
section
variable {d:Doc} {b m:Int} {drop:Bool}
end
theorem qLz {r:Reg}:∀ {l:List Int},r.lensErr l=0->∀ x∈l,0<=x/\x<=r.width
 | [],_,x,hx=>by cases hx
 | n :: l,h,x,hx=>by
  unfold Reg.lensErr at h
  split at h
  . omega
  . split at h
    . omega
    . rcases List.mem_cons.1 hx with rfl | hx
      . omega
      . exact qLz h x hx
theorem qMc:∀ {l:List Row},qBp l=0->∀ r∈l,qCg r=0
 | [],_,r,hr=>by cases hr
 | x :: l,h,r,hr=>by
  unfold qBp at h
  split at h
  . rename_i hx
    rcases List.mem_cons.1 hr with rfl | hr
    . exact hx
    . exact qMc h r hr
  . rename_i hx;exact absurd h hx
structure Ev.Ok (e:Ev) (regs:List Reg):Prop where
 id1:1<=e.id
 id2:e.id<=1099511627776
 span:qIi e.inn e.out=true
 found:∃ r,qJl regs e.region=some r/\r.usable=true/\(e.rows.length:Int)<=r.height/\∀ x∈e.rows,0<=qAs x/\qAs x<=r.width
 kind:qKn e.kind=false
 name:¬ (e.speaker.toList.isEmpty=false/\qCt e.speaker=false)
 some_:e.rows.length≠0
 few:e.rows.length<=4
 rows:∀ r∈e.rows,qCg r=0
theorem Ev.ok_of {e:Ev} {regs:List Reg} (h:e.err regs=0):e.Ok regs:=by
 unfold Ev.err at h
 split at h
 . omega
 . rename_i h1
   split at h
   . omega
   . rename_i r hr
     split at h
     . omega
     . rename_i h2
       split at h
       . omega
       . rename_i h3
         split at h
         . omega
         . rename_i h4
           split at h
           . rename_i h5;exact absurd h h5
           . rename_i h5
             unfold Reg.place at h
             split at h
             . omega
             . rename_i h6
               split at h
               . omega
               . rename_i h7
                 have hz:=qLz h;refine ⟨by omega,by omega,by cases hs:qIi e.inn e.out<;>simp_all,⟨r,hr,by simpa using h6,by simpa using h7,fun x hx=>hz _ (List.mem_map.2 ⟨x,hx,rfl⟩)⟩,by simpa using h2,h3,by omega,by omega,qMc (by simpa using h5)⟩
section
variable {d:Doc} {fr sh:Int}
end
theorem zLx {α:Type} (f:α->α) (l:List α) (i:Nat) (c:α) (h:l[i]?=some c):((l.take i).map f++l.drop i)[i]?=some c/\∀ c':α,((l.take i).map f++l.drop i).set i c'=(l.take i).map f++c' :: l.drop (i+1):=by
 have hi:=(List.getElem?_eq_some_iff.1 h).1;(have hl:((l.take i).map f).length=i:=by rw [List.length_map,List.length_take];omega)
 constructor
 . rw [List.getElem?_append_right (by omega),hl,Nat.sub_self,qDh l i c h];rfl
 . intro c'
   rw [List.set_append_right _ _ (by omega),hl,Nat.sub_self,qDh l i c h];rfl
theorem zLw {α:Type} (f:α->α) (l:List α) (i:Nat) (c:α) (h:l[i]?=some c):(l.take (i+1)).map f++l.drop (i+1)=(l.take i).map f++f c :: l.drop (i+1):=by
 rw [take_snoc' l i c h,List.map_append,List.append_assoc];rfl
def qPb (n m p s:Nat) (i:Int):Int:=if (n:Int)-s<=i then IntKind.i64.wrap (i+((m:Int)-n)) else if i<p then i else (m:Int)-s
def wto (n m p s:Nat) (i:Int):Int:=if i<=p then i else if (n:Int)-s<i then IntKind.i64.wrap (i+((m:Int)-n)) else p
def Com.moved (c:Com) (f t:Int):Com:=if t<=f then ⟨c.id,c.ev,0,0,c.author,c.text,c.done,true⟩ else ⟨c.id,c.ev,f,t,c.author,c.text,c.done,c.lost⟩
def Com.fol (c:Com) (a b:List Int):Com:=if c.lost=true then c else c.moved (qPb a.length b.length (Mv.pre a b) (Mv.suf a b (Mv.pre a b)) c.fr) (wto a.length b.length (Mv.pre a b) (Mv.suf a b (Mv.pre a b)) c.til)
theorem qDa:(Tryz.prog.info? 95).map (·.size)=some 8:=by kernel_rfl
def Ev.chars (e:Ev):List Int:=qAo ⟨e.text.toArray⟩ 0
def Com.onto (id:Int) (a b:List Int) (c:Com):Com:=if c.ev=id then c.fol a b else c
def Doc.putD (d:Doc) (e x:Ev) (k:Nat):Doc:=⟨d.title,d.lang,d.rate,d.drop,d.last,d.regs,srtE (d.evs.set k e),d.coms.map (Com.onto e.id x.chars e.chars)⟩
def Doc.putX (d:Doc) (e:Ev):DE :=
 if d.err≠0 then (Doc.zero,d.err) else match qBd d.evs e.id with
  | none=>(Doc.zero,6)
  | some k=>if e.err d.regs≠0 then (Doc.zero,e.err d.regs) else match d.evs[k]? with
   | none=>(Doc.zero,6)
   | some x=>(d.putD e x k,0)
section
variable {d:Doc} {e x:Ev} {k:Nat}
theorem zQu (h:d.err≠0):d.putX e=(Doc.zero,d.err):=by unfold Doc.putX;rw [if_pos h]
theorem zQv (h:d.err=0) (h2:qBd d.evs e.id=none):d.putX e=(Doc.zero,6):=by unfold Doc.putX;rw [if_neg (by simpa using h),h2]
theorem zQw (h:d.err=0) (h2:qBd d.evs e.id=some k) (h3:e.err d.regs≠0):d.putX e=(Doc.zero,e.err d.regs):=by unfold Doc.putX;rw [if_neg (by simpa using h),h2];simp only;rw [if_pos h3]
theorem zQx (h:d.err=0) (h2:qBd d.evs e.id=some k) (h3:e.err d.regs=0) (h4:d.evs[k]?=some x):d.putX e=(d.putD e x k,0):=by unfold Doc.putX;rw [if_neg (by simpa using h),h2];simp only;rw [if_neg (by simpa using h3),h4]
end
theorem zIt {P:Program} {o:Oper} {a:Act} {w:World} {K:Act->World->Prop} {Q:Exit->Act->World->Prop} {f:FuncId} {x0 x1 x2:Operand} {ts:Array TypeId} {v0 v1 v2 v:Value} (ho:o.op = .call { callee:=.value (.func f),args:=#[x0,x1,x2],argTypes:=ts })
 (h0:a.eval x0=v0) (h1:a.eval x1=v1) (h2:a.eval x2=v2) (hcall:∀ args w,(callFunc f args).run P w = .ok (.enter f args) w) (hc:Calls P f #[v0,v1,v2] w fun e w'=>e = .returned v/\Ext w w')
 (h:∀ w',Ext w w'->K (a.put o.dst v) w'):o.wp P a w K Q:=by
 have h9:Calls P f #[v0,v1,v2] w (fun
  | .returned u,w''=>K (a.put o.dst u) w''
  | .panicked chain,w''=>Q (.panic chain) a w''
  | .outgrown,_=>LetsOut Q):=hc.mono fun en w' hr=>by
  obtain ⟨rfl,hk⟩:=hr;exact h w' hk
 unfold Oper.wp execOp;simp only [ho];have hev:a.eval (.func f) = .func (.func f) #[] #[]:=rfl;simp [resolve,invoke,hev,h0,h1,h2,hcall,Sem.run_bind,Deferred.ofValue];exact h9
structure PutJ (vs:List Value) (g o:Nat) (cs:List Value) (W:World) (us:List Value) (w':World):Prop where
 few:us.length<=vs.length->Ext W w'/\us=vs.take us.length
 all:us.length=vs.length+1->∃ w5,Ext W w5/\w'=w5.setCells g o cs
section
variable {vs us:List Value} {g o:Nat} {cs:List Value} {W w' w2:World} {u:Value}
theorem PutJ.start (W:World):PutJ vs g o cs W [] W.drew:=⟨fun _=>⟨(Ext.refl W).drew,by simp⟩,fun h=>by simp at h⟩
theorem PutJ.ext (j:PutJ vs g o cs W us w') (h:us.length<=vs.length):Ext W w':=(j.few h).1
theorem PutJ.call (j:PutJ vs g o cs W us w') (hu:vs[us.length]?=some u) (hx:Ext w' w2):PutJ vs g o cs W (us++[u]) w2:=by
 have hl:=(List.getElem?_eq_some_iff.1 hu).1;obtain ⟨h1,h2⟩:=j.few (by omega);refine ⟨fun _=>⟨h1.trans hx,?_⟩,fun h=>by rw [List.length_append,List.length_singleton] at h;omega⟩;rw [List.length_append,List.length_singleton,take_snoc' vs us.length u hu,← h2]
theorem PutJ.sto (j:PutJ vs g o cs W us w') (h:us.length=vs.length):PutJ vs g o cs W (us++[u]) (w'.setCells g o cs) :=
 ⟨fun hh=>by rw [List.length_append,List.length_singleton] at hh;omega,fun _=>⟨w',j.ext (by omega),rfl⟩⟩
theorem PutJ.val (j:PutJ vs g o cs W us w') (h:us.length<=vs.length):us=vs.take us.length:=(j.few h).2
end
theorem qHb {L size n cap g:Nat} {T:TypeId}:∀ (vs:List Value) (j:Nat) (w:World) (xs:List Value),w.ownsRow L T size (.slice (some ⟨g,0,none⟩) n cap) n xs->w.heap.size<=(w.setCells g j vs).heap.size
 | [],_,_,_,_=>Nat.le_refl _
 | v :: vs,j,w,xs,h=>Nat.le_trans (h.stored j v).2.size (qHb vs (j+1) _ _ (h.stored j v).1)
theorem qAw.com_sets {w:World} {L k g:Nat} {d:Doc} {h:DocH} {c c':Com} (o:qAw w L d h) (hca:h.ca=some ⟨g,0,none⟩) (hc:d.coms[k]?=some c) :
 qAw (w.setCells g (k*8) c'.vals) L (d.withComs (d.coms.set k c')) h/\w.there g (k*8) 8/\(∀ {T:TypeId} (b:Nat) (cs:Array Value),T≠95->Blk w b T cs->Blk (w.setCells g (k*8) c'.vals) b T cs)/\w.heap.size<=(w.setCells g (k*8) c'.vals).heap.size:=by
 obtain ⟨a1,a2,a3,a4,a5⟩:=o;have hty:=qAt a4;rw [hca] at a4 hty;have hT:qBc w 95 g:=hty g rfl;have hk:=(List.getElem?_eq_some_iff.1 hc).1;(have hkb:∀ {T:TypeId},T≠95->KB T w (w.setCells g (k*8) c'.vals):=fun hne=>KB.sets hne _ _ _ hT);refine ⟨⟨qDs a1 (hkb (by decide)),a2,a3.kb (hkb (by decide)) (hkb (by decide)) (hkb (by decide)),?_,by show (d.coms.set k c').length=_;simpa using a5⟩,fun j hj=>?_,fun b cs hne hb=>hkb hne _ _ hb,qHb _ _ _ _ a4⟩
 . show World.ownsRow _ _ _ _ _ _ ((d.coms.set k c').flatMap Com.vals)
   rw [hca,← qHv (f:=Com.vals) (size:=8) (fun _=>rfl) d.coms k c' hk];exact qMu _ _ _ _ a4
 . have h8:k*8+j<(d.coms.flatMap Com.vals).length:=by rw [qCc Com.vals 8 (fun _=>rfl)];omega
   exact ⟨by rw [a4.cellAt (k*8+j) (by omega),List.getElem?_eq_getElem h8];rfl,hT.frozen _⟩
theorem qAw.ev_put {w:World} {L k g n c:Nat} {A:Option Addr} {d:Doc} {h:DocH} {e x:Ev} (o:qAw w L d h) (hea:h.ea=some ⟨g,0,none⟩) (hx:d.evs[k]?=some x) (hat:EvAt (w.setCells g (k*7) (e.cells A n c).toList) e A n c) :
 qGw (w.setCells g (k*7) (e.cells A n c).toList) h.ea h.en (d.evs.set k e)/\w.there g (k*7) 7/\(∀ {T:TypeId},T≠54->KB T w (w.setCells g (k*7) (e.cells A n c).toList)):=by
 obtain ⟨hs,h1,h2,h3,h4⟩:=o.evs;rw [hea] at h1 ⊢;have hT:qBc w 54 g:=qAt h1 g rfl;have hk:=(List.getElem?_eq_some_iff.1 hx).1;(have hkb:∀ {T:TypeId},T≠54->KB T w (w.setCells g (k*7) (e.cells A n c).toList):=fun hne=>KB.sets hne _ _ _ hT)
 have hown:(w.setCells g (k*7) (e.cells A n c).toList).ownsRow L 54 7 (.slice (some ⟨g,0,none⟩) h.en h.ec) h.en ((hs.set k (EH.of e A n c)).flatMap EH.vals):=by
  rw [← qHv EH.len hs k (EH.of e A n c) (by omega)];exact qMu _ _ _ _ h1
 obtain ⟨A6,c6,hv6,hc6,hm6,hsl6,-⟩:=qBn (f:=EH.vals) (size:=7) EH.len (by rw [List.length_set,h2]) hown
 cases hv6
 refine ⟨qYb hsl6 (by rw [List.length_set];exact h3) (fun i y z hy hz=>?_),fun j hj=>?_,hkb⟩
 . by_cases hik:k=i
   . subst hik
     rw [List.getElem?_set_self (by omega)] at hy hz
     cases hy
     cases hz
     exact ⟨rfl,hat⟩
   . rw [List.getElem?_set_ne hik] at hy hz
     have hg:=(h4 i y z hy hz).kb (hkb (by decide)) (hkb (by decide));exact ⟨hg.1,hg.at_⟩
 . have h8:k*7+j<(hs.flatMap EH.vals).length:=by rw [qCc EH.vals 7 EH.len];omega
   exact ⟨by rw [h1.cellAt (k*7+j) (by omega),List.getElem?_eq_getElem h8];rfl,hT.frozen _⟩
section
variable {n m p s:Nat} {F T i:Int}
def kept (n p s:Nat) (i:Int):Prop:=i<p\/(n:Int)-s<=i
theorem qTp (h1:n<=35184372088831) (h2:m<=35184372088831) (hF:0<=F) (hF2:F<=n):qPb n m p s F=if (n:Int)-s<=F then F+(m-n) else if F<p then F else (m:Int)-s:=by
 unfold qPb
 rw [IntKind.wrap_i64]
 split
 . omega
 . rfl
theorem zIy (h1:n<=35184372088831) (h2:m<=35184372088831) (hF:0<=T) (hF2:T<=n):wto n m p s T=if T<=p then T else if (n:Int)-s<T then T+(m-n) else p:=by
 unfold wto;rw [IntKind.wrap_i64]
 split
 . rfl
 . split
   . omega
   . rfl
theorem zRb (h1:n<=35184372088831) (h2:m<=35184372088831) (e1:p+s<=n) (e2:p+s<=m) (hF:0<=F) (hFT:F<T) (hT:T<=n) (hl:¬ wto n m p s T<=qPb n m p s F):kept n p s F\/kept n p s (T-1):=by
 rw [qTp h1 h2 hF (by omega),zIy h1 h2 (by omega) hT] at hl;unfold kept
 repeat' split at hl
 all_goals omega
theorem zOh (h1:n<=35184372088831) (h2:m<=35184372088831) (e1:p+s<=n) (e2:p+s<=m) (hF:0<=F) (hFT:F<T) (hT:T<=n):0<=qPb n m p s F/\wto n m p s T<=m:=by
 rw [qTp h1 h2 hF (by omega),zIy h1 h2 (by omega) hT]
 repeat' split
 all_goals omega
end
theorem qVp {α:Type} {lt:α->α->Bool} (x:α):∀ l:List α,(Stb.insS lt x l).Perm (x :: l)
 | []=>.refl _
 | y :: l=>by
  unfold Stb.insS
  split
  . exact .refl _
  . exact ((qVp x l).cons y).trans (.swap x y l)
theorem qQl {α:Type} {lt:α->α->Bool}:∀ (l acc:List α),(l.foldl (fun acc x=>Stb.insS lt x acc) acc).Perm (acc++l)
 | [],acc=>by simp
 | x :: l,acc=>by
  rw [List.foldl_cons];refine (qQl l _).trans ?_;refine ((qVp x acc).append_right l).trans ?_;rw [List.cons_append];exact List.perm_middle.symm
theorem qEh (l:List Ev):(srtE l).Perm l:=by
 have:=qQl (lt:=qDw) l [];simpa [srtE,Stb.sortS] using this
theorem zOk {x y:Ev} (h:qDw y x=false) (hne:x.id≠y.id):qDw x y=true:=by
 unfold qDw at *;simp only [decide_eq_true_eq,decide_eq_false_iff_not] at *;omega
theorem zOl {x y z:Ev} (h:qDw x y=true) (k:qDw y z=true):qDw x z=true:=by
 unfold qDw at *;simp only [decide_eq_true_eq] at *;omega
structure EvsV (regs:List Reg) (last:Int) (l:List Ev):Prop where
 each:∀ x∈l,x.err regs=0/\x.id<=last
 srt:l.Pairwise fun x y=>qDw x y=true
 ids:l.Pairwise fun x y=>x.id≠y.id
theorem qLg {l:List Ev} {id:Int} (h:qBd l id=none):∀ e∈l,e.id≠id:=fun e he=>by
 have:=List.findIdx?_eq_none_iff.1 h e he;simpa using this
theorem qQp {l:List Ev} {id:Int} (h:∀ e∈l,e.id≠id):qBd l id=none :=
 List.findIdx?_eq_none_iff.2 fun e he=>by simpa using h e he
theorem qEa {l:List Ev} {id:Int} {k:Nat} (h:qBd l id=some k):∃ e,l[k]?=some e/\e∈l/\e.id=id:=by
 obtain ⟨hk,h1,-⟩:=List.findIdx?_eq_some_iff_getElem.1 h;exact ⟨l[k],List.getElem?_eq_getElem hk,List.getElem_mem hk,by simpa using h1⟩
theorem zAk {l:List Ev} (h:l.Pairwise fun x y=>x.id≠y.id) {x y:Ev} (hx:x∈l) (hy:y∈l) (he:x.id=y.id):x=y:=by
 obtain ⟨i,hi,rfl⟩:=List.mem_iff_getElem.1 hx;obtain ⟨j,hj,rfl⟩:=List.mem_iff_getElem.1 hy;rw [List.pairwise_iff_getElem] at h
 rcases Nat.lt_trichotomy i j with c | c | c
 . exact absurd he (h i j hi hj c)
 . subst c;rfl
 . exact absurd he.symm (h j i hj hi c)
theorem qOg {l:List Ev} (h:l.Pairwise fun x y=>x.id≠y.id) {x:Ev} (hx:x∈l):∃ k,qBd l x.id=some k/\l[k]?=some x:=by
 cases hf:qBd l x.id with
 | none=>exact absurd rfl (qLg hf x hx)
 | some k =>
  obtain ⟨e,h1,h2,h3⟩:=qEa hf;exact ⟨k,rfl,by rw [h1,zAk h h2 hx h3]⟩
theorem evs_v {regs:List Reg} {last:Int} {l:List Ev} (h:qCr regs last [] l=0):EvsV regs last l:=by
 have hk:=zMj h
 have hids:∀ i j (hi:i<l.length) (hj:j<l.length),i<j->l[i].id≠l[j].id:=fun i j hi hj hij=>by
  have:=(hk j l[j] (List.getElem?_eq_getElem hj)).2.2.2;rw [List.nil_append] at this;exact qLg this l[i] (List.mem_of_getElem? (i:=i) (by rw [List.getElem?_take,if_pos hij];exact List.getElem?_eq_getElem hi))
 refine ⟨fun x hx=>?_,?_,List.pairwise_iff_getElem.2 hids⟩
 . obtain ⟨i,hi⟩:=List.getElem?_of_mem hx
   exact ⟨(hk i x hi).1,(hk i x hi).2.1⟩
 . have hs:∀ j (hj:j+1<l.length),qDw l[j] l[j+1]=true:=fun j hj=>by
    have h1:=(hk (j+1) l[j+1] (List.getElem?_eq_getElem hj)).2.2.1;rw [List.nil_append,List.getLast?_eq_getElem?,List.length_take,Nat.min_eq_left (by omega),List.getElem?_take,if_pos (by omega),Nat.add_sub_cancel,List.getElem?_eq_getElem (show j<l.length by omega)] at h1;simpa using h1
   have hd:∀ d i (hj:i+d+1<l.length),qDw (l[i]'(by omega)) l[i+d+1]=true:=by
    intro d
    induction d with
    | zero=>intro i hj;exact hs i hj
    | succ d ih=>intro i hj;exact zOl (ih i (by omega)) (hs (i+d+1) hj)
   (refine List.pairwise_iff_getElem.2 fun i j hi hj hij=>?_);have:=hd (j-i-1) i (by omega);(have e:i+(j-i-1)+1=j:=by omega);simp only [e] at this;exact this
theorem v_evs {regs:List Reg} {last:Int} {l:List Ev} (h:EvsV regs last l):qCr regs last [] l=0:=by
 (refine zFu fun k x hx=>?_);obtain ⟨hk,hxk⟩:=List.getElem?_eq_some_iff.1 hx;have hm:=h.each x (List.mem_of_getElem? hx);unfold qGc;rw [List.nil_append,if_neg (by simpa using hm.1),if_neg (by omega),if_neg,if_neg]
 . rw [qQp (fun e he=>?_)]
   . simp
   . obtain ⟨i,hi,he'⟩:=List.mem_take_iff_getElem.1 he
     have:=List.pairwise_iff_getElem.1 h.ids i k (by omega) hk (by omega);rw [he',hxk] at this;exact this
 . intro hc
   cases k with
   | zero=>simp at hc
   | succ j =>
    rw [List.getLast?_eq_getElem?,List.length_take,Nat.min_eq_left (by omega),List.getElem?_take,if_pos (by omega),Nat.add_sub_cancel,List.getElem?_eq_getElem (show j<l.length by omega)] at hc;have:=List.pairwise_iff_getElem.1 h.srt j (j+1) (by omega) hk (by omega);rw [hxk] at this;simp [this] at hc
theorem EvsV.sorted {regs:List Reg} {last:Int} {l:List Ev} (h:∀ x∈l,x.err regs=0/\x.id<=last) (hi:l.Pairwise fun x y=>x.id≠y.id):EvsV regs last (srtE l):=by
 have hp:=qEh l;(have hi':(srtE l).Pairwise fun x y=>x.id≠y.id:=(hp.pairwise_iff (fun {x y} (h:x.id≠y.id)=>Ne.symm h)).2 hi);refine ⟨fun x hx=>h x (hp.mem_iff.1 hx),?_,hi'⟩;have hs:=(Stb.sortS_spec zKr l).1;(exact (hs.and hi').imp fun {x y} ⟨h1,h2⟩=>zOk h1 h2)
structure ComV (last:Int) (evs:List Ev) (c:Com):Prop where
 id1:1<=c.id
 id2:c.id<=last
 free:∀ e∈evs,e.id≠c.id
 ev1:1<=c.ev
 ev2:c.ev<=last
 lostV:c.lost=true->c.fr=0/\c.til=0
 anch:c.lost=false->∃ e∈evs,e.id=c.ev/\0<=c.fr/\c.fr<c.til/\c.til<=e.len
 rest:qCt c.author=true/\vld c.text=true/\c.text.toList.isEmpty=false/\c.text.size<=400
structure zMu (last:Int) (evs:List Ev) (l:List Com):Prop where
 each:∀ c∈l,ComV last evs c
 srt:l.Pairwise fun a b=>a.id<b.id
theorem zQl {last:Int} {evs:List Ev} {l:List Com} (h:qCe last evs none l=0):zMu last evs l:=by
 have hk:=zFc h;refine ⟨fun c hc=>?_,?_⟩
 . obtain ⟨i,hi⟩:=List.getElem?_of_mem hc
   obtain ⟨h1,h2,-,h4,h5,h6,h7,h8,h9⟩:=zFb (hk i c hi);obtain ⟨a1,a2,a3,a4⟩:=qUj h5;refine ⟨h1,h2,qLg h4,a1,a2,a3,fun hl=>?_,h6,h7,h8,h9⟩;obtain ⟨k,e,f1,f2,f3⟩:=a4 hl;obtain ⟨e',g1,g2,g3⟩:=qEa f1;rw [f2] at g1
   cases g1
   exact ⟨e,g2,g3,f3⟩
 . have hs:∀ j (hj:j+1<l.length),l[j].id<l[j+1].id:=fun j hj=>by
    have h1:=(zFb (hk (j+1) l[j+1] (List.getElem?_eq_getElem hj))).2.2.1;simp only [qEp,List.getElem?_eq_getElem (show j<l.length by omega),Option.map_some,Option.some.injEq,decide_eq_true_eq] at h1;omega
   have hd:∀ d i (hj:i+d+1<l.length),(l[i]'(by omega)).id<l[i+d+1].id:=by
    intro d
    induction d with
    | zero=>intro i hj;exact hs i hj
    | succ d ih=>intro i hj;exact Int.lt_trans (ih i (by omega)) (hs (i+d+1) hj)
   (refine List.pairwise_iff_getElem.2 fun i j hi hj hij=>?_);have:=hd (j-i-1) i (by omega);(have e:i+(j-i-1)+1=j:=by omega);simp only [e] at this;exact this
theorem ComV.err0 {last:Int} {evs:List Ev} {c:Com} (h:ComV last evs c) (ids:evs.Pairwise fun x y=>x.id≠y.id) {p:Option Int} (hp:∀ q,p=some q->q<c.id):c.err last evs p=0:=by
 have h1:=h.id1;have h2:=h.id2
 have hA:c.anchorErr last evs=0:=by
  have h3:=h.ev1;have h4:=h.ev2;unfold Com.anchorErr;rw [if_neg (by omega)]
  cases hl:c.lost with
  | true=>have:=h.lostV hl;rw [if_pos rfl,if_neg (by omega)]
  | false =>
   obtain ⟨e,he,e1,e2,e3,e4⟩:=h.anch hl;obtain ⟨k,f1,f2⟩:=qOg ids he;rw [e1] at f1;rw [if_neg (by simp),f1];simp only;rw [if_neg];rw [f2];simp only [Option.map_some,Option.some.injEq,decide_eq_true_eq];omega
 unfold Com.err;rw [if_neg (by omega),if_neg,qQp h.free,if_neg (by simp),hA,if_neg (by simp),h.rest.1,if_neg (by simp),h.rest.2.1,if_neg (by simp),h.rest.2.2.1,if_neg (by simp),if_neg (by have:=h.rest.2.2.2;omega)]
 cases p with
 | none=>simp
 | some q=>have:=hp q rfl;simp;omega
theorem zMr {last:Int} {evs:List Ev} (ids:evs.Pairwise fun x y=>x.id≠y.id):∀ {l:List Com} {p:Option Int},(∀ q,p=some q->∀ c∈l,q<c.id)->zMu last evs l->qCe last evs p l=0
 | [],p,_,_=>by simp [qCe]
 | c :: l,p,hp,h=>by
  have he:=(h.each c (by simp)).err0 ids (p:=p) (fun q hq=>hp q hq c (by simp));rw [qUy,if_neg (by simpa using he)];have hs:=List.pairwise_cons.1 h.srt;exact zMr ids (fun q hq c' hc'=>by cases hq;exact hs.1 c' hc') ⟨fun c' hc'=>h.each c' (by simp [hc']),hs.2⟩
structure DocV (d:Doc):Prop where
 head:d.headErr=0
 regs:qEc d.regs=0
 en:d.evs.length<=400
 evs:EvsV d.regs d.last d.evs
 cn:d.coms.length<=64
 coms:zMu d.last d.evs d.coms
theorem qXq {d:Doc} (h:d.err=0):DocV d:=by
 obtain ⟨h1,h2,h3,h4,h5,h6⟩:=zFd h;exact ⟨h1,h2,h3,evs_v h4,h5,zQl h6⟩
theorem DocV.ok {d:Doc} (h:DocV d):d.err=0:=by
 unfold Doc.err;have h3:=h.en;have h5:=h.cn;rw [if_neg (by simpa using h.head),if_neg (by simpa using h.regs),if_neg (by omega),if_neg (by simpa using v_evs h.evs),if_neg (by omega)];exact zMr h.evs.ids (fun q hq=>by cases hq) h.coms
theorem zCl {d:Doc} (h:d.headErr=0) {d':Doc} (h1:d'.title=d.title) (h2:d'.lang=d.lang) (h3:d'.rate=d.rate) (h4:d'.drop=d.drop) (h5:0<=d'.last) (h6:d'.last<=1099511627776):d'.headErr=0:=by
 obtain ⟨a1,a2,a3,a4,a5,a6⟩:=head_ok' h;unfold Doc.headErr;rw [h1,h2,h3,h4,if_neg (by simp [a1]),if_neg (by omega),if_neg a3,if_neg (by simp [a4]),if_neg (by omega)]
theorem ComV.mono {last last':Int} {evs evs':List Ev} {c:Com} (h:ComV last evs c) (hl:last<=last') (hf:∀ e∈evs',e.id≠c.id) (ha:∀ e∈evs,e.id=c.ev->∃ e'∈evs',e'.id=e.id/\e'.len=e.len):ComV last' evs' c:=by
 refine ⟨h.id1,Int.le_trans h.id2 hl,hf,h.ev1,Int.le_trans h.ev2 hl,h.lostV,fun hlo=>?_,h.rest⟩;obtain ⟨e,he,e1,e2,e3,e4⟩:=h.anch hlo;obtain ⟨e',f0,f1,f2⟩:=ha e he e1;exact ⟨e',f0,by rw [f1,e1],e2,e3,by rw [f2];exact e4⟩
section
variable {d:Doc} {e:Ev}
theorem zHm {α:Type} {R:α->α->Prop} {l:List α} {x:α} (h:l.Pairwise R) (hx:∀ y∈l,R y x):(l++[x]).Pairwise R:=by
 rw [List.pairwise_append];exact ⟨h,by simp,fun y hy z hz=>by rw [List.mem_singleton] at hz;subst hz;exact hx y hy⟩
theorem zOu {l:List Ev} {k:Nat} {x e:Ev} (hk:l[k]?=some x) (he:e.id=x.id):(l.set k e).map (·.id)=l.map (·.id):=by
 apply List.ext_getElem?;intro i;rw [List.getElem?_map,List.getElem?_map]
 by_cases hi:k=i
 . subst hi
   rw [List.getElem?_set_self (List.getElem?_eq_some_iff.1 hk).1,hk];simp [he]
 . rw [List.getElem?_set_ne hi]
theorem zHz {l:List Ev} {k:Nat} {x e y:Ev} (hk:l[k]?=some x) (hy:y∈l) (hne:y≠x):y∈l.set k e:=by
 obtain ⟨i,hi⟩:=List.getElem?_of_mem hy
 by_cases hik:k=i
 . subst hik;rw [hk] at hi;cases hi;exact absurd rfl hne
 . exact List.mem_of_getElem? (i:=i) (by rw [List.getElem?_set_ne hik];exact hi)
theorem qMg {l:List Ev} {k:Nat} {x e:Ev} (hk:l[k]?=some x):e∈l.set k e :=
 List.mem_of_getElem? (i:=k) (List.getElem?_set_self (List.getElem?_eq_some_iff.1 hk).1)
theorem qSw (id:Int) (a b:List Int) (c:Com):(c.onto id a b).id=c.id:=by
 unfold Com.onto
 split
 . unfold Com.fol Com.moved
   repeat' split
   all_goals rfl
 . rfl
theorem put_v {x:Ev} {k:Nat} (h:d.err=0) (hk:qBd d.evs e.id=some k) (he:e.err d.regs=0) (hx:d.evs[k]?=some x) (lx:x.len=x.chars.length) (le:e.len=e.chars.length) (bx:x.chars.length<=35184372088831) (be:e.chars.length<=35184372088831):DocV (d.putD e x k):=by
 have hv:=qXq h;obtain ⟨x',hx',hxm,hxi⟩:=qEa hk;rw [hx] at hx'
 cases hx'
 have hids:(d.evs.set k e).Pairwise fun x y=>x.id≠y.id:=by
  have h1:(d.evs.map (·.id)).Pairwise (·≠·):=List.pairwise_map.2 hv.evs.ids;rw [← zOu hx hxi.symm] at h1;exact List.pairwise_map.1 h1
 have hmem:∀ y,y∈srtE (d.evs.set k e)->y∈d.evs\/y=e:=fun y hy=>by
  rw [(qEh _).mem_iff] at hy;exact List.mem_or_eq_of_mem_set hy
 (have hto:∀ y∈d.evs,y.id≠e.id->y∈srtE (d.evs.set k e):=fun y hy hne=>(qEh _).mem_iff.2 (zHz hx hy (fun hh=>hne (by rw [hh,hxi]))));have heS:e∈srtE (d.evs.set k e):=(qEh _).mem_iff.2 (qMg hx);refine ⟨hv.head,hv.regs,?_,EvsV.sorted (fun y hy=>?_) hids,by show (d.coms.map _).length<=64;rw [List.length_map];exact hv.cn,fun c hc=>?_,?_⟩
 . show (srtE _).length<=400
   rw [(qEh _).length_eq,List.length_set];exact hv.en
 . rcases List.mem_or_eq_of_mem_set hy with h1 | rfl
   . exact hv.evs.each y h1
   . exact ⟨he,by have:=(hv.evs.each x hxm).2;rw [hxi] at this;exact this⟩
 . obtain ⟨c0,hc0,rfl⟩:=List.mem_map.1 hc
   have h0:=hv.coms.each c0 hc0
   have hfree:∀ y∈srtE (d.evs.set k e),y.id≠c0.id:=fun y hy=>by
    rcases hmem y hy with h1 | rfl
    . exact h0.free y h1
    . have:=h0.free x hxm;rw [hxi] at this;exact this
   by_cases hce:c0.ev=e.id
   . have e1:c0.onto e.id x.chars e.chars=c0.fol x.chars e.chars:=by unfold Com.onto;rw [if_pos hce]
     rw [e1];unfold Com.fol
     by_cases hlo:c0.lost=true
     . rw [if_pos hlo]
       exact ⟨h0.id1,h0.id2,hfree,h0.ev1,h0.ev2,h0.lostV,fun hl=>(by rw [hlo] at hl;cases hl),h0.rest⟩
     . rw [if_neg hlo]
       (have hlo':c0.lost=false:=by simpa using hlo);obtain ⟨y,hy,y1,y2,y3,y4⟩:=h0.anch hlo';have hyx:y=x:=zAk hv.evs.ids hy hxm (by rw [y1,hce,hxi]);subst hyx;have p1:=Mv.pre_le y.chars e.chars;have s1:=Mv.suf_le y.chars e.chars (Mv.pre y.chars e.chars);have hb:=zOh (n:=y.chars.length) (m:=e.chars.length) (p:=Mv.pre y.chars e.chars) (s:=Mv.suf y.chars e.chars (Mv.pre y.chars e.chars)) (F:=c0.fr) (T:=c0.til) bx be (by omega) (by omega) y2 y3 (by rw [← lx];exact y4);generalize qPb y.chars.length e.chars.length (Mv.pre y.chars e.chars) (Mv.suf y.chars e.chars (Mv.pre y.chars e.chars)) c0.fr=F at *;generalize wto y.chars.length e.chars.length (Mv.pre y.chars e.chars) (Mv.suf y.chars e.chars (Mv.pre y.chars e.chars)) c0.til=T at *;unfold Com.moved
       split
       . exact ⟨h0.id1,h0.id2,hfree,h0.ev1,h0.ev2,fun _=>⟨rfl,rfl⟩,fun hl=>(by cases hl),h0.rest⟩
       . rename_i hft
         exact ⟨h0.id1,h0.id2,hfree,h0.ev1,h0.ev2,fun hl=>(by rw [hlo'] at hl;cases hl),fun _=>⟨e,heS,hce.symm,hb.1,by show F<T;omega,by show T<=e.len;rw [le];exact hb.2⟩,h0.rest⟩
   . have e1:c0.onto e.id x.chars e.chars=c0:=by unfold Com.onto;rw [if_neg hce]
     rw [e1];(exact h0.mono (Int.le_refl _) hfree fun y hy hye=>⟨y,hto y hy (by rw [hye];exact hce),rfl,rfl⟩)
 . show (d.coms.map _).Pairwise _
   rw [List.pairwise_map];(exact hv.coms.srt.imp fun {a b} h=>by rw [qSw,qSw];exact h)
theorem zOr {x y:Ev} {k:Nat} (hv:DocV (d.putD e x k)) (hk:qBd d.evs e.id=some k) (hx:d.evs[k]?=some x) (hy:y∈d.evs) (hne:y.id≠e.id):∃ j,qBd (d.putD e x k).evs y.id=some j/\(d.putD e x k).evs[j]?=some y:=by
 obtain ⟨x',hx',hxm,hxi⟩:=qEa hk;rw [hx] at hx'
 cases hx'
 exact qOg hv.evs.ids ((qEh _).mem_iff.2 (zHz hx hy (fun hh=>hne (by rw [hh,hxi]))))
end
theorem qJc (l m:List UInt8) (hne:l≠[]) (h:¬ ((Lib.decodeL l).1=65533/\(Lib.decodeL l).2=1)):Lib.decodeL (l++m)=Lib.decodeL l:=by
 have hl:0<l.length:=List.length_pos_iff.2 hne;(have g:∀ i,i<l.length->(l++m).getD i 0=l.getD i 0:=fun i hi=>by simp [List.getD,List.getElem?_append_left hi]);rw [Lib.decodeL_N] at h;rw [Lib.decodeL_N (l++m),Lib.decodeL_N l,List.length_append,g 0 hl]
 rcases Lib.decodeN_shape l.length (l.getD 0 0).toNat (l.getD 1 0).toNat (l.getD 2 0).toNat (l.getD 3 0).toNat with ⟨c,e⟩ | ⟨c1,c2,c3,cv,e⟩ | ⟨c1,c2,c3,c4,cv,cs,e⟩ | ⟨c1,c2,c3,c4,c5,cv,cw,e⟩ | e
 . rw [e];unfold Lib.decodeN;rw [if_pos c]
 . rw [e,g 1 c2];unfold Lib.decodeN;rw [if_neg (by omega),if_pos ⟨c1,by omega,c3⟩,if_pos cv]
 . rw [e,g 1 (by omega),g 2 c2];unfold Lib.decodeN;rw [if_neg (by omega),if_neg (by omega),if_pos ⟨c1,⟨by omega,c3⟩,by omega,c4⟩,if_pos ⟨cv,by omega⟩]
 . rw [e,g 1 (by omega),g 2 (by omega),g 3 c2];unfold Lib.decodeN;rw [if_neg (by omega),if_neg (by omega),if_neg (by omega),if_pos ⟨c1,⟨by omega,c3⟩,⟨by omega,c4⟩,by omega,c5⟩,if_pos ⟨cv,by omega⟩]
 . exact absurd (by rw [e];exact ⟨rfl,rfl⟩) h
def cntG:Nat->List UInt8->Nat
 | 0,_=>0
 | f+1,l=>if l=[] then 0 else 1+cntG f (l.drop (Lib.decodeL l).2)
def cnt (l:List UInt8):Nat:=cntG l.length l
theorem qUw:∀ (f g:Nat) (l:List UInt8),l.length<=f->l.length<=g->cntG f l=cntG g l
 | 0,0,_,_,_=>rfl
 | 0,g+1,l,h,_=>by
  obtain rfl:l=[]:=List.eq_nil_of_length_eq_zero (by omega);simp [cntG]
 | f+1,0,l,_,h=>by
  obtain rfl:l=[]:=List.eq_nil_of_length_eq_zero (by omega);simp [cntG]
 | f+1,g+1,l,hf,hg=>by
  unfold cntG
  by_cases hne:l=[]
  . simp [hne]
  . have hw:=Lib.decodeL_width l
    have hl:0<l.length:=List.length_pos_iff.2 hne;rw [if_neg hne,if_neg hne,qUw f g _ (by rw [List.length_drop];omega) (by rw [List.length_drop];omega)]
theorem qXl:cnt []=0:=rfl
theorem qKe (l:List UInt8) (hne:l≠[]):cnt l=1+cnt (l.drop (Lib.decodeL l).2):=by
 have hw:=Lib.decodeL_width l;have hl:0<l.length:=List.length_pos_iff.2 hne;unfold cnt;obtain ⟨k,hk⟩:∃ k,l.length=k+1:=⟨l.length-1,by omega⟩
 conv=>lhs;rw [hk];unfold cntG
 rw [if_neg hne,qUw k _ _ (by rw [List.length_drop];omega) (Nat.le_refl _)]
theorem qLf (m:List UInt8):∀ (f:Nat) (l:List UInt8),l.length<=f->Lib.validD l=true->cnt (l++m)=cnt l+cnt m/\Lib.validD (l++m)=Lib.validD m
 | 0,l,h,_=>by
  obtain rfl:l=[]:=List.eq_nil_of_length_eq_zero (by omega);simp [qXl]
 | f+1,l,h,hv=>by
  by_cases hne:l=[]
  . subst hne;simp [qXl]
  . have hw:=Lib.decodeL_width l
    have hle:=Lib.decodeL_le l hne;have hl:0<l.length:=List.length_pos_iff.2 hne;rw [Lib.validD_step l hne] at hv
    split at hv
    . cases hv
    . rename_i hn
      have ha:=qJc l m hne hn;(have hne2:l++m≠[]:=by simp [hne]);obtain ⟨i1,i2⟩:=qLf m f (l.drop (Lib.decodeL l).2) (by rw [List.length_drop];omega) hv;have hd:(l++m).drop (Lib.decodeL l).2=l.drop (Lib.decodeL l).2++m:=List.drop_append_of_le_length hle;rw [qKe _ hne2,qKe l hne,Lib.validD_step _ hne2,ha,hd,i1,i2,if_neg hn];exact ⟨by omega,rfl⟩
theorem qSb {l:List UInt8} (m:List UInt8) (hv:Lib.validD l=true):cnt (l++m)=cnt l+cnt m:=(qLf m l.length l (Nat.le_refl _) hv).1
theorem qEy {l m:List UInt8} (hv:Lib.validD l=true) (hm:Lib.validD m=true):Lib.validD (l++m)=true:=by rw [(qLf m l.length l (Nat.le_refl _) hv).2];exact hm
theorem qGs (s:ByteArray):s.data.toList.length=s.size:=by cases s;simp [ByteArray.size]
theorem qWl (s:ByteArray):∀ (f pos:Nat),s.size-pos<=f->(qAo s pos).length=cnt (s.data.toList.drop pos)
 | f,pos,h=>by
  by_cases hp:pos<s.size
  . have hw:=Lib.decode_width_pos s pos hp
    have hne:s.data.toList.drop pos≠[]:=fun he=>by
     have:=congrArg List.length he;rw [List.length_drop,qGs] at this;(simp at this;omega)
    rw [qDf s pos hp,List.length_cons,qKe _ hne,Lib.decodeL_drop,List.drop_drop]
    cases f with
    | zero=>omega
    | succ f=>rw [qWl s f _ (by omega)];omega
  . rw [qEe s pos hp,List.drop_eq_nil_of_le (by rw [qGs];omega)];rfl
theorem qUz (s:ByteArray):∀ (f pos:Nat),s.size-pos<=f->Lib.runeCountFrom s f pos=cnt (s.data.toList.drop pos)
 | f,pos,h=>by
  by_cases hp:pos<s.size
  . have hw:=Lib.decode_width_pos s pos hp
    have hne:s.data.toList.drop pos≠[]:=fun he=>by
     have:=congrArg List.length he;rw [List.length_drop,qGs] at this;(simp at this;omega)
    cases f with
    | zero=>omega
    | succ f =>
     unfold Lib.runeCountFrom;rw [if_pos hp,qKe _ hne,Lib.decodeL_drop,List.drop_drop,qUz s f _ (by omega)]
  . rw [Lib.runeCountFrom_end s f pos hp,List.drop_eq_nil_of_le (by rw [qGs];omega)];rfl
theorem zJq {s:ByteArray} (h:0<=clen s):Lib.validD s.data.toList=true/\clen s=cnt s.data.toList:=by
 unfold clen at *
 split at h
 . rename_i hv
   rw [if_pos hv];unfold vld at hv;rw [Bool.and_eq_true] at hv;refine ⟨hv.1,?_⟩;have:=qUz s s.size 0 (by omega);unfold Lib.runeCount;(rw [this];simp)
 . omega
theorem qJs:∀ {l:Row},0<=qAs l->Lib.validD (qAy l)=true/\qAs l=cnt (qAy l)
 | [],_=>⟨Lib.validD_nil,rfl⟩
 | r :: l,h=>by
  unfold qAs at h ⊢
  split at h
  . omega
  . rename_i h1
    split at h
    . omega
    . rename_i h2
      rw [if_neg h1,if_neg h2];obtain ⟨v1,c1⟩:=zJq (s:=r.text) (by omega);obtain ⟨v2,c2⟩:=qJs (l:=l) (by omega);(have e:qAy (r :: l)=r.text.data.toList++qAy l:=by simp [qAy,List.flatMap_cons]);rw [e];exact ⟨qEy v1 v2,by rw [qSb _ v1,c1,c2];simp⟩
theorem qSs:Lib.validD [10]=true:=by rw [Lib.validD_cons 10 [] (by decide)];exact Lib.validD_nil
theorem zQs:cnt [10]=1:=by rw [qKe _ (by simp),Lib.decodeL_ascii 10 [] (by decide)];rfl
theorem qMz:∀ {l:List Row},(∀ r∈l,0<=qAs r)->Lib.validD (Lib.joinTail [10] (l.map qAy))=true/\∀ s:Int,qKl s (l.map qAs)+l.length=s+cnt (Lib.joinTail [10] (l.map qAy))
 | [],_=>⟨Lib.validD_nil,fun s=>by simp [qKl,Lib.joinTail,qXl]⟩
 | r :: l,h=>by
  have h0:=h r (by simp);obtain ⟨v1,c1⟩:=qJs h0;obtain ⟨v2,c2⟩:=qMz (l:=l) (fun x hx=>h x (by simp [hx]));(have e:Lib.joinTail [10] ((r :: l).map qAy)=[10]++(qAy r++Lib.joinTail [10] (l.map qAy)):=by simp [Lib.joinTail]);rw [e];refine ⟨qEy qSs (qEy v1 v2),fun s=>?_⟩;rw [qSb _ qSs,qSb _ v1,zQs,List.map_cons];unfold qKl;rw [if_neg (by omega)];have:=c2 (s+qAs r);rw [List.length_cons];omega
theorem qOc {e:Ev} {regs:List Reg} (h:e.err regs=0):e.len=e.chars.length:=by
 have ho:=Ev.ok_of h;obtain ⟨rg,-,-,-,hr⟩:=ho.found;have hne:=ho.some_;unfold Ev.len Ev.chars;rw [qWl _ _ 0 (Nat.le_refl _)];unfold Ev.text
 cases hl:e.rows with
 | nil=>rw [hl] at hne;exact absurd rfl hne
 | cons r l =>
  rw [hl] at hr;obtain ⟨v1,c1⟩:=qJs (hr r (by simp)).1;obtain ⟨v2,c2⟩:=qMz (l:=l) (fun x hx=>(hr x (by simp [hx])).1);rw [List.map_cons,List.map_cons,Lib.join_cons]
  show _=((cnt (List.drop 0 (qAy r++Lib.joinTail [10] (l.map qAy)).toArray.toList):Nat):Int)
  rw [List.drop_zero,List.toList_toArray,qSb _ v1];unfold qKl;have h0:=(hr r (by simp)).1;rw [if_neg (by omega)];have:=c2 (max (((r :: l).length:Int)-1) 0+qAs r);rw [List.length_cons] at this ⊢;omega
end
end Go.Proofs.YtneffpbodfjceaaGreatDoor