/- Texts laid together. -/
import Derived.Test.YtablhmobekmflaaGreatDoorCm22
import Derived.Test.YtablhmobekmflaaGreatDoorCm09
import Derived.Test.YtablhmobekmflaaGreatDoorCm15
import Derived.Test.YtablhmobekmflaaGreatDoorCm11
import Derived.Test.YtablhmobekmflaaGreatDoorCm17
import Derived.Test.YtablhmobekmflaaGreatDoorCm07
import Derived.Test.YtablhmobekmflaaGreatDoorCm01
import Derived.Test.YtablhmobekmflaaGreatDoorCm16
import Derived.StringKeys
import Derived.Test.YtablhmobekmflaaGreatDoorCm05
import Derived.Test.YtablhmobekmflaaGreatDoorCm12
import Derived.Test.YtablhmobekmflaaGreatDoorCm14
import Derived.Test.YtablhmobekmflaaGreatDoorCm06
set_option linter.unusedVariables false
set_option linter.unusedSimpArgs false
set_option maxRecDepth 100000
namespace Go.Proofs.YtablhmobekmflaaGreatDoor
section
open Go.RowKit
structure Ent where
 i:Nat
 c:Cut
 x:Ev
 p:Spn
def entAt (c:Cut) (i:Nat) (x:Ev):List Ent:=match partE c x with | none=>[] | some p=>[⟨i,c,x,p⟩]
def entEvs (c:Cut):Nat→List Ev→List Ent
 | _,[]=>[]
 | i,x :: l=>entAt c i x++entEvs c (i+1) l
def entC (docs:List RDoc) (c:Cut):List Ent:=match qHi docs c.reel with | none=>[] | some k=>entEvs c (offR docs k) (evsR docs k)
def ents (docs:List RDoc) (l:List Cut):List Ent:=l.flatMap (entC docs)
def addE (least:Int) (s:qCv) (t:Ent):qCv:=⟨s.evs++[t.x.as ((s.evs.length:Int)+1) t.p],s.fats.modify t.i fun f=>f.note ((s.evs.length:Int)+1) (decide (t.p.out-t.p.inn<least))⟩
theorem conStep_add (c:Cut) (least:Int) (i:Nat) (x:Ev) (s:qCv):qDn c least i x s=(entAt c i x).foldl (addE least) s:=by
 unfold qDn entAt
 cases partE c x<;>rfl
theorem conEvs_add (c:Cut) (least:Int):∀ (l:List Ev) (i:Nat) (s:qCv),qCr c least i l s=(entEvs c i l).foldl (addE least) s
 | [],_,_=>rfl
 | x :: l,i,s=>by
  simp only [qCr,entEvs,List.foldl_append];rw [← conStep_add];exact conEvs_add c least l (i+1) _
theorem qOq (docs:List RDoc) (least:Int):∀ (l:List Cut) (s:qCv),qBo docs least l s=(ents docs l).foldl (addE least) s
 | [],_=>rfl
 | c :: l,s=>by
  have h:qFi docs least s c=(entC docs c).foldl (addE least) s:=by
   unfold qFi entC
   cases qHi docs c.reel with
   | none=>rfl
   | some k=>exact conEvs_add _ _ _ _ _
  show qBo docs least l (qFi docs least s c)=_
  rw [h,qOq docs least l];unfold ents;rw [List.flatMap_cons,List.foldl_append]
def evsOf (l:List Ent):List Ev:=l.mapIdx fun j t=>t.x.as ((j:Int)+1) t.p
def idsW (q:Ent→Bool) (l:List Ent):List Int:=(l.zipIdx.filter fun u=>q u.1).map fun u=>(u.2:Int)+1
def atI (i:Nat) (t:Ent):Bool:=decide (t.i=i)
def shI (least:Int) (t:Ent):Bool:=decide (t.p.out-t.p.inn<least)
def fatOf (least:Int) (l:List Ent) (i:Nat) (f:Fat):Fat:=⟨f.reel,f.id,idsW (atI i) l,f.lost,idsW (fun t=>atI i t && shI least t) l⟩
theorem evsOf_snoc (l:List Ent) (t:Ent):evsOf (l++[t])=evsOf l++[t.x.as ((l.length:Int)+1) t.p]:=by simp [evsOf,List.mapIdx_append]
theorem evsOf_len (l:List Ent):(evsOf l).length=l.length:=by simp [evsOf]
theorem idsW_snoc (q:Ent→Bool) (l:List Ent) (t:Ent):idsW q (l++[t])=idsW q l++if q t=true then [(l.length:Int)+1] else []:=by
 unfold idsW;rw [List.zipIdx_append,List.filter_append,List.map_append];simp only [List.zipIdx_cons,List.zipIdx_nil,Nat.zero_add,List.filter_cons,List.filter_nil]
 split<;>simp
theorem snoc_ind {α:Type} {P:List α→Prop} (h0:P []) (h1:∀ l x,P l→P (l++[x])) (l:List α):P l:=by
 have:∀ n,P (l.take n):=by
  intro n
  induction n with
  | zero=>simpa using h0
  | succ n ih =>
   by_cases hn:n<l.length
   · rw [take_snoc' l n l[n] (List.getElem?_eq_getElem hn)];exact h1 _ _ ih
   · rw [List.take_of_length_le (by omega)];rw [List.take_of_length_le (by omega)] at ih;exact ih
 simpa using this l.length
theorem con_shape (least:Int) (F:List Fat) (hF:∀ f∈F,f.parts=[]∧f.short=[]) (l:List Ent):l.foldl (addE least) ⟨[],F⟩=⟨evsOf l,F.mapIdx (fatOf least l)⟩:=by
 refine snoc_ind (P:=fun l=>l.foldl (addE least) ⟨[],F⟩=⟨evsOf l,F.mapIdx (fatOf least l)⟩) ?_ (fun l t ih=>?_) l
 · simp only [List.foldl_nil]
   congr 1
   apply List.ext_getElem?;intro j;rw [List.getElem?_mapIdx]
   cases hj:F[j]? with
   | none=>rfl
   | some f =>
    obtain ⟨h1,h2⟩:=hF f (List.mem_of_getElem? hj);obtain ⟨r,i,p,k,s⟩:=f;simp only at h1 h2;subst h1 h2;rfl
 · rw [List.foldl_append,ih]
   simp only [List.foldl_cons,List.foldl_nil,addE,evsOf_len];rw [evsOf_snoc]
   congr 1
   apply List.ext_getElem?;intro j;rw [List.getElem?_modify,List.getElem?_mapIdx,List.getElem?_mapIdx]
   cases hj:F[j]? with
   | none=>simp
   | some f =>
    simp only [Option.map_some]
    by_cases h:t.i=j
    · subst h
      simp only [if_true,fatOf,Fat.note,idsW_snoc,Option.some.injEq]
      cases hs:shI least t<;>simp [atI,shI] at hs ⊢<;>simp [hs,atI,shI]
    · simp only [h,if_false,fatOf,idsW_snoc]
      simp [atI,h]
theorem fats_blank (e:Edl) (docs:List RDoc):∀ f∈qBx e docs,f.parts=[]∧f.short=[]:=by
 intro f hf;obtain ⟨d,_,hf⟩:=List.mem_flatMap.1 hf;obtain ⟨x,_,rfl⟩:=List.mem_map.1 hf;exact ⟨rfl,rfl⟩
theorem conSt_shape (docs:List RDoc) (e:Edl) (least:Int):qId docs e least=⟨evsOf (ents docs (qAx e.cuts)),(qBx e docs).mapIdx (fatOf least (ents docs (qAx e.cuts)))⟩:=by
 unfold qId;rw [qOq];exact con_shape least _ (fats_blank e docs) _
end
section
open Go.RowKit
def xRun:Run:=⟨⟨#[72,105]⟩,0,false,false,⟨#[]⟩⟩
def xE1:Ev:=⟨1,10,30,⟨#[]⟩,1,⟨#[]⟩,[[xRun]]⟩
def xE2:Ev:=⟨2,40,50,⟨#[]⟩,1,⟨#[]⟩,[[xRun]]⟩
def xDoc:Doc:=⟨⟨#[]⟩,⟨#[]⟩,3,false,2,[],[xE1,xE2],[]⟩
def qJe:List RDoc:=[⟨⟨#[65]⟩,xDoc⟩]
def xC1:Cut:=⟨1,⟨#[65]⟩,0,0,20,1,1⟩
def xC2:Cut:=⟨2,⟨#[65]⟩,25,20,30,1,1⟩
def xEdl:Edl:=⟨⟨#[]⟩,3,false,[xC1,xC2]⟩
def xF1:Fat:=⟨⟨#[65]⟩,1,[1,2],5,[2]⟩
def xF2:Fat:=⟨⟨#[65]⟩,2,[],10,[]⟩
def xOut:Doc:=⟨⟨#[]⟩,⟨#[]⟩,3,false,2,[],[xE1.as 1 ⟨10,20⟩,xE1.as 2 ⟨20,25⟩],[]⟩
theorem xRd:qDy 3 false none qJe=0:=by kernel_rfl
theorem xVld:vld xEdl.title=true:=by kernel_rfl
theorem xRok:qAr xEdl.rate xEdl.drop=true:=by kernel_rfl
theorem xCuts:qBk (qEv xEdl.rate xEdl.drop) 0 0 xEdl.cuts=0:=by kernel_rfl
theorem cnt_le (ss:List Bs):cnt ss≤ss.length:=by
 unfold cnt;rw [← len_srt ss];generalize srt ss=zs
 have h:∀ m,(Lib.compactUpTo zs.toArray m).length≤m:=by
  intro m
  induction m with
  | zero=>simp [Lib.compactUpTo]
  | succ m ih =>
   rw [Lib.compactUpTo_succ,List.length_append]
   split<;>simp<;>omega
 unfold Lib.compact;exact Nat.le_trans (h _) (by simp)
theorem xCnt:¬ 16<cnt xEdl.names:=by
 have h:=cnt_le xEdl.names;have:xEdl.names.length=2:=rfl;omega
theorem xEdl_err:qAn xEdl=0:=edl_ok xVld (by decide) xRok (by decide) xCuts xCnt
theorem xText:qJf [xF1,xF2]=[65,32,49,32,83,80,76,73,84,32,50,32,53,32,49,10,65,32,50,32,68,82,79,80,80,69,68,32,48,32,49,48,32,48,10]:=by kernel_rfl
theorem xOrig:orig [xF1,xF2] 2=(⟨#[65]⟩,1,true):=by kernel_rfl
theorem xPlJ:qDf (plC xEdl.cuts ⟨#[65]⟩)=[⟨0,20⟩,⟨25,35⟩]:=by kernel_rfl
theorem xPl:plE xEdl ⟨#[65]⟩=[⟨0,20⟩,⟨25,35⟩]:=by unfold plE;rw [if_pos xEdl_err,xPlJ]
theorem xJoin:qAx xEdl.cuts=[xC1,xC2]:=by kernel_rfl
theorem xErr:qCj qJe xEdl=0:=by
 unfold qCj;rw [if_neg (by simp [xEdl_err]),if_neg (by decide),if_neg (by rw [show xEdl.rate=3 from rfl,show xEdl.drop=false from rfl,xRd];decide)]
 kernel_rfl
theorem xLost1:qKl ⟨10,30⟩ [⟨0,20⟩,⟨25,35⟩]=5:=by kernel_rfl
theorem xLost2:qKl ⟨40,50⟩ [⟨0,20⟩,⟨25,35⟩]=10:=by kernel_rfl
theorem xFats:qBx xEdl qJe=[⟨⟨#[65]⟩,1,[],5,[]⟩,⟨⟨#[65]⟩,2,[],10,[]⟩]:=by
 show [Fat.mk ⟨#[65]⟩ 1 [] (qKl ⟨10,30⟩ (plE xEdl ⟨#[65]⟩)) [],Fat.mk ⟨#[65]⟩ 2 [] (qKl ⟨40,50⟩ (plE xEdl ⟨#[65]⟩)) []]=_
 rw [xPl,xLost1,xLost2]
theorem xSt0:qBo qJe 6 [xC1,xC2] ⟨[],[⟨⟨#[65]⟩,1,[],5,[]⟩,⟨⟨#[65]⟩,2,[],10,[]⟩]⟩=⟨[xE1.as 1 ⟨10,20⟩,xE1.as 2 ⟨20,25⟩],[xF1,xF2]⟩:=by kernel_rfl
theorem xSt:qId qJe xEdl 6=⟨[xE1.as 1 ⟨10,20⟩,xE1.as 2 ⟨20,25⟩],[xF1,xF2]⟩:=by unfold qId;rw [xJoin,xFats,xSt0]
theorem xE:conE qJe xEdl 6=0:=by
 unfold conE;rw [if_neg (by simp [xErr]),if_neg (by decide),xSt];rfl
theorem xConDoc:qLt qJe xEdl 6=xOut:=by
 unfold qLt;rw [if_pos xE,xSt];rfl
theorem xConFats:qCx qJe xEdl 6=[xF1,xF2]:=by unfold qCx;rw [if_pos xE,xSt]
theorem xFit:qJb qJe:=by
 refine ⟨fun d hd=>?_,fun d hd=>?_⟩
 · simp [qJe] at hd;subst hd;decide
 · simp [qJe] at hd
   subst hd;(have hev:∀ e∈xDoc.evs,e=xE1∨e=xE2:=fun e he=>by simpa [xDoc] using he)
   have hrow:∀ r∈[[xRun]],qNy r:=fun r hr=>by
    (simp at hr;subst hr);refine ⟨by decide,fun x hx=>?_⟩;(simp at hx;subst hx);exact ⟨by decide,by decide⟩
   refine ⟨⟨by decide,by decide,by decide,by decide⟩,(fun r hr=>by cases hr),(fun e he=>?_),(fun e he=>?_),(fun c hc=>by cases hc)⟩
   · rcases hev e he with rfl | rfl
     · exact ⟨⟨by decide,by decide,hrow⟩,by decide⟩
     · exact ⟨⟨by decide,by decide,hrow⟩,by decide⟩
   · rcases hev e he with rfl | rfl
     · exact ⟨by decide,by decide⟩
     · exact ⟨by decide,by decide⟩
theorem xEdlOk:qJr xEdl:=⟨by decide,by decide,by decide,fun c hc=>by
 have:c=xC1∨c=xC2:=by simpa [xEdl] using hc
 rcases this with rfl | rfl
 · exact ⟨⟨by decide,by decide⟩,⟨by decide,by decide⟩,⟨by decide,by decide⟩,⟨by decide,by decide⟩,⟨by decide,by decide⟩,⟨by decide,by decide⟩,by decide⟩
 · exact ⟨⟨by decide,by decide⟩,⟨by decide,by decide⟩,⟨by decide,by decide⟩,⟨by decide,by decide⟩,⟨by decide,by decide⟩,⟨by decide,by decide⟩,by decide⟩⟩
theorem xTx:FatsTx [xF1,xF2]:=by
 refine ⟨fun f hf=>?_,fun f hf=>?_,⟨fun f hf=>?_,fun f hf=>?_⟩,by rw [xText];decide⟩
 all_goals
  have:f=xF1∨f=xF2:=by simpa using hf
  rcases this with rfl | rfl<;>decide
end
section
open Go.RowKit
def Doc.cells3 (d:Doc) (r e c:Value):Array Value:=#[.string d.title,.string d.lang,.int .u8 d.rate,.bool d.drop,.int .i64 d.last,r,e,c]
def qAu:Array Value:=#[.string ⟨#[]⟩,.string ⟨#[]⟩,.int .u8 0,.bool false,.int .i64 0,.slice none 0 0,.slice none 0 0,.slice none 0 0]
def qMn (d:Doc) (h:DocH):List Value→Array Value
 | [u0,_,_]=>d.cells3 u0 (.slice h.ea h.en h.ec) (.slice h.ca h.cn h.cc)
 | [u0,u1,_,_]=>d.cells3 u0 (.slice h.ea h.en h.ec) u1
 | _=>d.cells h
structure ClJ (d:Doc) (h:DocH) (w W0:World) (us:List Value) (w':World):Prop where
 ext:Ext w w'
 blk:Blk w' w.heap.size 52 (qMn d h us)
 zero:Blk w' (w.heap.size+1) 52 qAu
 regs:∀ u,us[0]?=some u→∃ A c,u = .slice A h.rn c∧w'.ownsRow w.heap.size 105 7 u h.rn (d.regs.flatMap Reg.vals)
 coms:∀ u,us[1]?=some u→∃ A c,u = .slice A h.cn c∧w'.ownsRow w.heap.size 152 8 u h.cn (d.coms.flatMap Com.vals)
theorem clCells_2 (d:Doc) (h:DocH) (u0 u1:Value):qMn d h [u0,u1]=d.cells h:=rfl
theorem ClJ.call0 {d:Doc} {h:DocH} {w W0 w' w2:World} (j:ClJ d h w W0 [] w') {A:Option Addr} {c:Nat} (hx:Ext w' w2) (ho:w2.ownsRow w'.heap.size 105 7 (.slice A h.rn c) h.rn (d.regs.flatMap Reg.vals)):ClJ d h w W0 ([]++[.slice A h.rn c]) w2 :=
 ⟨j.ext.trans hx,j.blk.ext hx,j.zero.ext hx,fun u hu=>by simp at hu;subst hu;exact ⟨A,c,rfl,qLc ho j.ext.size⟩,fun u hu=>by simp at hu⟩
theorem ClJ.call1 {d:Doc} {h:DocH} {w W0 w' w2:World} {u0:Value} (j:ClJ d h w W0 [u0] w') {A:Option Addr} {c:Nat} (hx:Ext w' w2) (ho:w2.ownsRow w'.heap.size 152 8 (.slice A h.cn c) h.cn (d.coms.flatMap Com.vals)):ClJ d h w W0 ([u0]++[.slice A h.cn c]) w2 :=
 ⟨j.ext.trans hx,j.blk.ext hx,j.zero.ext hx,fun u hu=>by obtain ⟨A',c',h1,h2⟩:=j.regs u (by simpa using hu);exact ⟨A',c',h1,qAh h2 hx⟩,fun u hu=>by simp at hu;subst hu;exact ⟨A,c,rfl,qLc ho j.ext.size⟩⟩
theorem ClJ.put {d:Doc} {h:DocH} {w W0 w':World} {us:List Value} (j:ClJ d h w W0 us w') (v:Value) (hv:us.length=2∨us.length=3):ClJ d h w W0 (us++[v]) (putB w' w.heap.size 52 (qMn d h (us++[v]))):=by
 refine ⟨j.ext.put (Nat.le_refl _) _ _,j.blk.put _,j.zero.put_other (by omega) _,fun u hu=>?_,fun u hu=>?_⟩
 · obtain ⟨A',c',h1,h2⟩:=j.regs u (by rw [← hu,List.getElem?_append_left (by omega)])
   exact ⟨A',c',h1,qDi h2 (KB.put j.blk (by decide))⟩
 · obtain ⟨A',c',h1,h2⟩:=j.coms u (by rw [← hu,List.getElem?_append_left (by omega)])
   exact ⟨A',c',h1,qDi h2 (KB.put j.blk (by decide))⟩
structure CeJ (e:Ev) (g k n':Nat) (w4:World) (us:List Value) (w':World):Prop where
 nil:us=[]→Ext w4 w'
 one:∀ u0,us=[u0]→∃ A2 c2,u0 = .agg (e.cells A2 n' c2)∧n'≤c2∧qCs w' w4.heap.size A2 n' e.rows∧Ext w4 w'
 two:∀ u0 u1,us=[u0,u1]→∃ A2 c2 w5,u0 = .agg (e.cells A2 n' c2)∧n'≤c2∧qCs w5 w4.heap.size A2 n' e.rows∧Ext w4 w5∧w'=w5.setCells g (k*7) (e.cells A2 n' c2).toList
structure DClRel (d:Doc) (h:DocH) (w:World) (v0:Value) (v1:Value) (ea:Option Addr) (ec:Nat) (i:Value) (wr:World):Prop where
 ext:Ext w wr
 blk:Blk wr w.heap.size 52 (d.cells3 v0 (.slice ea h.en ec) v1)
 zero:Blk wr (w.heap.size+1) 52 qAu
 regs:wr.ownsRow w.heap.size 105 7 v0 h.rn (d.regs.flatMap Reg.vals)
 coms:wr.ownsRow w.heap.size 152 8 v1 h.cn (d.coms.flatMap Com.vals)
 more:∃ (k:Nat) (hs:List EH),k≤h.en∧i = .int .i64 k∧hs.length=h.en∧wr.ownsRow w.heap.size 64 7 (.slice ea h.en ec) h.en (hs.flatMap EH.vals) ∧
  ∀ (j:Nat) (x:EH) (e:Ev),hs[j]?=some x→d.evs[j]?=some e→(j<k→qFg wr w.heap.size x e)∧(k≤j→∃ A n c,x=EH.of e A n c∧EvAt w e A n c)
theorem DClRel.step {d:Doc} {h:DocH} {w wr w4 w5:World} {v0 v1:Value} {g ec k n' c2:Nat} {A2:Option Addr} {hs:List EH} {e:Ev} (hgw:w.heap.size≤g) (h1:Ext w wr) (h2:Blk wr w.heap.size 52 (d.cells3 v0 (.slice (some ⟨g,0,none⟩) h.en ec) v1))
 (h3:Blk wr (w.heap.size+1) 52 qAu) (h4:wr.ownsRow w.heap.size 105 7 v0 h.rn (d.regs.flatMap Reg.vals)) (h5:wr.ownsRow w.heap.size 152 8 v1 h.cn (d.coms.flatMap Com.vals))
 (hk:k<h.en) (hl:hs.length=h.en) (h6:wr.ownsRow w.heap.size 64 7 (.slice (some ⟨g,0,none⟩) h.en ec) h.en (hs.flatMap EH.vals))
 (h7:∀ (j:Nat) (x:EH) (e:Ev),hs[j]?=some x→d.evs[j]?=some e→(j<k→qFg wr w.heap.size x e)∧(k≤j→∃ A n c,x=EH.of e A n c∧EvAt w e A n c))
 (he:d.evs[k]?=some e) (h8:Ext wr w5) (hw4:wr.heap.size≤w4.heap.size) (hnc:n'≤c2) (hn24:n' * 24≤140737488355328) (hf:qCs w5 w4.heap.size A2 n' e.rows) :
 DClRel d h w v0 v1 (some ⟨g,0,none⟩) ec (.int .i64 ((k:Int)+1)) (w5.setCells g (k*7) (e.cells A2 n' c2).toList):=by
 have hty:qBf w5 64 g:=(qAj h6 g rfl).ext h8;(have kb:∀ {T:TypeId},T≠64→KB T w5 (w5.setCells g (k*7) (e.cells A2 n' c2).toList):=fun hne=>KB.sets hne _ _ _ hty);(have hB:∀ {b:Nat} {cs:Array Value},Blk wr b 52 cs→Blk (w5.setCells g (k*7) (e.cells A2 n' c2).toList) b 52 cs:=fun hb=>kb (by decide) _ _ (hb.ext h8));refine ⟨ext_sets hgw _ _ _ (h1.trans h8),hB h2,hB h3,qDi (qAh h4 h8) (kb (by decide)),qDi (qAh h5 h8) (kb (by decide)),k+1,hs.set k (EH.of e A2 n' c2),by omega,by simp,by simpa using hl,?_,fun j x y hx hy=>?_⟩
 · rw [← flat_setMany EH.len hs k (EH.of e A2 n' c2) (by omega)]
   exact own_sets _ _ _ _ (qAh h6 h8)
 · by_cases hkj:k=j
   · subst hkj
     rw [List.getElem?_set_self (by omega)] at hx
     cases hx
     rw [he] at hy
     cases hy
     exact ⟨fun _=>qFg.kb (w:=w5) ⟨rfl,hnc,hn24,hf.le (by have:=h1.size;omega)⟩ (kb (by decide)) (kb (by decide)),fun hh=>by omega⟩
   · rw [List.getElem?_set_ne hkj] at hx
     obtain ⟨a1,a2⟩:=h7 j x y hx hy;exact ⟨fun hh=>((a1 (by omega)).ext h8).kb (kb (by decide)) (kb (by decide)),fun hh=>a2 (by omega)⟩
def DClPost (d:Doc) (w:World) (en:Ending) (w':World):Prop:=∃ h',en = .returned (.agg (d.cells h'))∧qNh w' w.heap.size d h'∧Ext w w'
theorem EH.cells_at {hs:List EH} {n g c L:Nat} {w:World} (h:w.ownsRow L 64 7 (.slice (some ⟨g,0,none⟩) n c) n (hs.flatMap EH.vals)) {k:Nat} {x:EH} (hx:hs[k]?=some x) (hk:k<n) {j:Nat} (hj:j<7):w.cell? ⟨g,k*7+j,none⟩=x.vals[j]?:=by
 rw [h.cellAt (k*7+j) (by omega),qEx EH.vals 7 EH.len hs k x j hx hj]
theorem qBh:(Tryz.prog.info? 52).map (·.size)=some 8:=by kernel_rfl
set_option maxHeartbeats 4000000 in
theorem DClone_any (d:Doc) (h:DocH) (w:World) (hat:qHy w d h) (hr:h.rn*56≤140737488355328) (hen:h.en*88≤140737488355328) (hcn:h.cn*72≤140737488355328) :
 Calls Tryz.prog 58 #[.agg (d.cells h)] w (DClPost d w):=by
 have HX:=gH (((Ext.refl w).alloc (.cells (d.cells h) 52)).alloc (.cells qAu 52));have HB:=gH ((Blk.new w 52 (d.cells h)).alloc (.cells qAu 52));have HZ:=gH (Blk.new' (w:=w.alloc (.cells (d.cells h) 52)) (g:=w.heap.size+1) (t:=52) (cs:=qAu) (by simp));have HAt:=gH hat;have HRl:=gH hat.regs.len;have HCl:=gH hat.coms.len;have HEl:=gH hat.evs.len;clear hat;unfold Doc.cells qAu at HX HB HZ;unfold Doc.cells;go_enter Tryz.func58,Tryz.ntmps58;go_wp2_with fail;refine qAy [some 5,some 6,some 7,some 8,some 9,some 10,some 11,none,some 12,none] [[],[0],[1],[],[3],[4,2],[0,1,2,3,4],[6,2,5,0,1,2,3,4],[0,1,2,3,4,5,6,7],[8,5,7,0,1,2,3,4,5,6,7]] [2,5,7,9] [.pointer (some ⟨w.heap.size,5,none⟩),.slice h.ra h.rn h.rc,undef,.pointer (some ⟨w.heap.size,7,none⟩),.slice h.ca h.cn h.cc,undef,.pointer (some ⟨w.heap.size,5,none⟩),undef,.pointer (some ⟨w.heap.size,7,none⟩),undef] (ClJ d h w w) (by kernel_rfl) (by kernel_rfl) (by kernel_rfl) (by kernel_rfl) (by kernel_rfl) (by kernel_rfl) (by kernel_rfl) (by decide) ?_ ?_ ?_ ?_
 · exact ⟨HX.out.drew,HB.out.drew,HZ.out.drew,fun u hu=>by simp at hu,fun u hu=>by simp at hu⟩
 · intro i o ho hc a w' us K' hJ hF hlim hk
   match i,ho with
   | 0,ho =>
    simp only [gA,gB,gC,gD] at ho;subst ho;have e1:=hF.old 1 (.pointer (some ⟨w.heap.size,0,none⟩)) rfl rfl;simp only [Act.eval] at e1;clear hF hlim hJ;go_simp;exact hk
   | 1,ho =>
    simp only [gA,gB,gC,gD] at ho;subst ho;have e5:=hF.pure 0 5 (.pointer (some ⟨w.heap.size,5,none⟩)) rfl rfl rfl rfl
    have hcl:w'.cell? ⟨w.heap.size,5,none⟩=some (.slice h.ra h.rn h.rc):=by
     have hb:=hJ.blk;have hl0:=hlim 0 2 rfl rfl
     match us,hl0,hb with
     | [],_,hb=>exact hb.cell 5
     | [_],hl0,hb=>first | exact hb.cell 5 | exact absurd hl0 (by simp)
     | _ :: _ :: us,hl0,_=>exact absurd hl0 (by simp)
    have hlim:True:=trivial;simp only [Act.eval] at e5;clear hF hlim hJ;go_simp;exact hk
   | 2,ho=>simp at hc
   | 3,ho =>
    simp only [gA,gB,gC,gD] at ho;subst ho;have e1:=hF.old 1 (.pointer (some ⟨w.heap.size,0,none⟩)) rfl rfl;simp only [Act.eval] at e1;clear hF hlim hJ;go_simp;exact hk
   | 4,ho =>
    simp only [gA,gB,gC,gD] at ho;subst ho;have e8:=hF.pure 3 8 (.pointer (some ⟨w.heap.size,7,none⟩)) rfl rfl rfl rfl
    have hcl:w'.cell? ⟨w.heap.size,7,none⟩=some (.slice h.ca h.cn h.cc):=by
     have hb:=hJ.blk;have hl0:=hlim 1 5 rfl rfl
     match us,hl0,hb with
     | [],_,hb=>exact hb.cell 7
     | [_],hl0,hb=>first | exact hb.cell 7 | exact absurd hl0 (by simp)
     | _ :: _ :: us,hl0,_=>exact absurd hl0 (by simp)
    have hlim:True:=trivial;simp only [Act.eval] at e8;clear hF hlim hJ;go_simp;exact hk
   | 5,ho=>simp at hc
   | 6,ho =>
    simp only [gA,gB,gC,gD] at ho;subst ho;have e1:=hF.old 1 (.pointer (some ⟨w.heap.size,0,none⟩)) rfl rfl;simp only [Act.eval] at e1;clear hF hlim hJ;go_simp;exact hk
   | 7,ho=>simp at hc
   | 8,ho =>
    simp only [gA,gB,gC,gD] at ho;subst ho;have e1:=hF.old 1 (.pointer (some ⟨w.heap.size,0,none⟩)) rfl rfl;simp only [Act.eval] at e1;clear hF hlim hJ;go_simp;exact hk
   | 9,ho=>simp at hc
   | i+10,ho=>simp at ho
 · intro p c' o hp ho a w' us K' hl hJ hF hk
   match p,hp with
   | 0,hp =>
    (obtain rfl:2=c':=by simpa using hp);simp only [gA,gB,gC,gD] at ho;subst ho;obtain rfl:us=[]:=List.eq_nil_of_length_eq_zero hl;have e6:=hF.pure 1 6 (.slice h.ra h.rn h.rc) rfl rfl rfl rfl;refine qDz rfl e6 Tryz.call116 (CloneRegs_any h.ra h.rn h.rc d.regs w' (qDs.vals (HAt.out.regs.ext hJ.ext)) hr) ?_;rintro en w4 ⟨A4,c4,rfl,ho4,hx4⟩;exact ⟨_,rfl,hk _ _ (hJ.call0 hx4 ho4)⟩
   | 1,hp =>
    (obtain rfl:5=c':=by simpa using hp);simp only [gA,gB,gC,gD] at ho;subst ho;obtain ⟨u0,rfl⟩:=qEq hl;have e9:=hF.pure 4 9 (.slice h.ca h.cn h.cc) rfl rfl rfl rfl;refine qDz rfl e9 Tryz.call117 (CloneComs_any h.ca h.cn h.cc d.coms w' (HAt.out.coms.ext hJ.ext) hcn) ?_;rintro en w4 ⟨A4,c4,rfl,ho4,hx4⟩;exact ⟨_,rfl,hk _ _ (hJ.call1 hx4 ho4)⟩
   | 2,hp =>
    (obtain rfl:7=c':=by simpa using hp);simp only [gA,gB,gC,gD] at ho;subst ho;obtain ⟨u0,u1,rfl⟩:=qEo hl;obtain ⟨A9,c9,hu9,_⟩:=hJ.regs u0 rfl;have e11:=hF.pure 6 11 (.pointer (some ⟨w.heap.size,5,none⟩)) rfl rfl rfl rfl;have e7:=hF.link 0 2 7 _ rfl rfl rfl rfl;subst hu9;have hput:=hJ.put undef (.inl rfl);have hb:=hJ.blk;rw [clCells_2] at hb;have hcl:=hb.cell 5;have hfr:=hb.frozen 5;have hset:=qBb hb 5 (.slice A9 h.rn c9);unfold Doc.cells at hcl hset;simp at hset;have HK:=gH (hk undef _ hput);unfold qMn Doc.cells3 at HK;clear hput hb hk hF hJ;simp only [Act.eval] at e11 e7;go_simp;exact HK.out
   | 3,hp =>
    (obtain rfl:9=c':=by simpa using hp);simp only [gA,gB,gC,gD] at ho;subst ho;obtain ⟨u0,u1,u2,rfl⟩:=qHg hl;obtain ⟨A9,c9,hu9,_⟩:=hJ.coms u1 rfl;have e12:=hF.pure 8 12 (.pointer (some ⟨w.heap.size,7,none⟩)) rfl rfl rfl rfl;have e10:=hF.link 1 5 10 _ rfl rfl rfl rfl;subst hu9;have hput:=hJ.put undef (.inr rfl);have hb:=hJ.blk;unfold qMn at hb;have hcl:=hb.cell 7;have hfr:=hb.frozen 7;have hset:=qBb hb 7 (.slice A9 h.cn c9);unfold Doc.cells3 at hcl hset;simp at hset;have HK:=gH (hk undef _ hput);unfold qMn Doc.cells3 at HK;clear hput hb hk hF hJ;simp only [Act.eval] at e12 e10;go_simp;exact HK.out
   | p+4,hp=>simp at hp
 intro us W1 hl hJ;obtain ⟨u0,u1,u2,u3,rfl⟩:=qLr hl;rename_i hK;refine hK _ _ ?_;clear hK;generalize hL:qDx _ _ _ _=L;obtain rfl:L=[(5,.pointer (some ⟨w.heap.size,5,none⟩)),(6,.slice h.ra h.rn h.rc),(7,u0),(8,.pointer (some ⟨w.heap.size,7,none⟩)),(9,.slice h.ca h.cn h.cc),(10,u1),(11,.pointer (some ⟨w.heap.size,5,none⟩)),(12,.pointer (some ⟨w.heap.size,7,none⟩))]:=hL.symm.trans (by kernel_rfl);clear hL hl;simp only [Act.put,List.foldl_cons,List.foldl_nil,List.setIfInBounds_toArray,List.set_cons_zero,List.set_cons_succ];obtain ⟨A0,c0,hu0,ho0⟩:=hJ.regs u0 rfl;obtain ⟨A1,c1,hu1,ho1⟩:=hJ.coms u1 rfl;subst hu0 hu1;have hx1:=hJ.ext;have hb1:Blk W1 w.heap.size 52 (d.cells3 (.slice A0 h.rn c0) (.slice h.ea h.en h.ec) (.slice A1 h.cn c1)):=hJ.blk;have hz1:=hJ.zero;clear hJ;obtain ⟨hs0,hsl0,hgd0⟩:=evs_heads HAt.out.evs;have HHs:=gH hsl0;have HGd:=gH hgd0;clear hsl0 hgd0;have HX1:=gH hx1;have HB1:=gH hb1;have HZ1:=gH hz1;have HR1:=gH ho0;have HC1:=gH ho1;clear hx1 hb1 hz1 ho0 ho1;(have hc1:=fun o=>HB1.out.cell o);unfold Doc.cells3 at hc1;go_wp2_with fail;refine (CloneEHs_any h.ea h.en h.ec hs0 _ (Sl.ext (Cells.stays _) HHs.out HX1.out) hen).mono ?_;rintro en w2 ⟨ea,ec,rfl,hown2,hx2⟩;have HX2:=gH (HX1.out.trans hx2);have HB2:=gH (HB1.out.ext hx2);have HZ2:=gH (HZ1.out.ext hx2);have HR2:=gH (qAh HR1.out hx2);have HC2:=gH (qAh HC1.out hx2);have HO2:=gH (qLc hown2 HX1.out.size);clear hx2 hown2 hc1
 (have hc2:=fun o=>HB2.out.cell o);(have hf2:=fun o=>HB2.out.frozen o);(have hs2:=fun u=>qBb HB2.out 6 u);have HB3:=gH (HB2.out.put (d.cells3 (.slice A0 h.rn c0) (.slice ea h.en ec) (.slice A1 h.cn c1)));unfold Doc.cells3 at hc2 hs2;simp at hs2;(have hc3:=fun o=>HB3.out.cell o);unfold Doc.cells3 at hc3;go_wp2_with fail;clear hc2 hf2 hs2 hc3
 go_loopw [20] (fun i wr=>DClRel d h w (.slice A0 h.rn c0) (.slice A1 h.cn c1) ea ec i wr) (fun i _=>h.en-(intOf i).toNat)
 case atStart =>
  refine ⟨HX2.out.put (Nat.le_refl _) _ _,HB3.out,HZ2.out.put_other (by omega) _,qDi HR2.out (KB.put HB2.out (by decide)),qDi HC2.out (KB.put HB2.out (by decide)),0,hs0,Nat.zero_le _,rfl,HHs.out.len,qDi HO2.out (KB.put HB2.out (by decide)),fun j x e hx he=>⟨fun hh=>by omega,fun _=>?_⟩⟩;have:=HGd.out j x e hx he;exact ⟨_,_,_,this.1,this.2⟩
 case round =>
  obtain ⟨hx,hb,hz,hor,hoc,k,hs,hk,rfl,hsl,hoe,hall⟩:=hrel;have HXr:=gH hx;have HBr:=gH hb;have HZr:=gH hz;have HRr:=gH hor;have HCr:=gH hoc;have HOr:=gH hoe;have HAl:=gH hall;have HSl:=gH hsl;clear hx hb hz hor hoc hsl hoe hall;(have hcr:=fun o=>HBr.out.cell o);unfold Doc.cells3 at hcr
  by_cases hlt:k<h.en
  · obtain ⟨g,cp,hv,hgb,hglt⟩:=qFn HOr.out (by omega)
    (have hA1:ea=some ⟨g,0,none⟩:=by injection hv);subst hA1;obtain ⟨x,hxx⟩:∃ x,hs[k]?=some x:=⟨_,List.getElem?_eq_getElem (by rw [HSl.out];exact hlt)⟩;obtain ⟨e,hee⟩:∃ e,d.evs[k]?=some e:=⟨_,List.getElem?_eq_getElem (by rw [HEl.out];exact hlt)⟩;obtain ⟨A',n',c',rfl,hev⟩:=(HAl.out k x e hxx hee).2 (Nat.le_refl _);have HCk:=gH (fun (j:Nat) (hj:j<7)=>EH.cells_at HOr.out hxx hlt (j:=j) hj);have HEe:=gH hee;have HEv:=gH hev;have hn24:=hev.2.2;(have c0:wr.cell? ⟨g,k*7,none⟩=some (.int .i64 e.id):=by have:=HCk.out 0 (by omega);simpa [EH.vals,EH.of] using this);have c1':wr.cell? ⟨g,k*7+1,none⟩=some (.int .i64 e.inn):=HCk.out 1 (by omega);have c2':wr.cell? ⟨g,k*7+2,none⟩=some (.int .i64 e.out):=HCk.out 2 (by omega);have c3':wr.cell? ⟨g,k*7+3,none⟩=some (.string e.region):=HCk.out 3 (by omega);have c4':wr.cell? ⟨g,k*7+4,none⟩=some (.int .u8 e.kind):=HCk.out 4 (by omega);have c5':wr.cell? ⟨g,k*7+5,none⟩=some (.string e.speaker):=HCk.out 5 (by omega);have c6':wr.cell? ⟨g,k*7+6,none⟩=some (.slice A' n' c'):=HCk.out 6 (by omega);clear hxx hee hev;go_wp2_with fail;clear c0 c1' c2' c3' c4' c5' c6' hcr;have HB4:=gH (HBr.out.alloc (.cells #[.int .i64 e.id,.int .i64 e.inn,.int .i64 e.out,.string e.region,.int .u8 e.kind,.string e.speaker,.slice A' n' c'] 64))
    have HE4:=gH (Blk.new wr 64 #[.int .i64 e.id,.int .i64 e.inn,.int .i64 e.out,.string e.region,.int .u8 e.kind,.string e.speaker,.slice A' n' c']);have HX4:=gH ((Ext.refl wr).alloc (.cells #[.int .i64 e.id,.int .i64 e.inn,.int .i64 e.out,.string e.region,.int .u8 e.kind,.string e.speaker,.slice A' n' c'] 64));have hsz4:=HX4.out.size;generalize hw4:wr.alloc (.cells #[.int .i64 e.id,.int .i64 e.inn,.int .i64 e.out,.string e.region,.int .u8 e.kind,.string e.speaker,.slice A' n' c'] 64)=w4 at *;refine qAy [some 25,some 26,some 27,some 28,some 29,some 30,none] [[],[0],[],[],[3],[1,2,0,1,2,3,4],[5,4,4,0,1,2,3,4]] [4,6] [.pointer (some ⟨w.heap.size,6,none⟩),.slice (some ⟨g,0,none⟩) h.en ec,.int .i64 (k:Int),.agg #[.int .i64 e.id,.int .i64 e.inn,.int .i64 e.out,.string e.region,.int .u8 e.kind,.string e.speaker,.slice A' n' c'],undef,.pointer (some ⟨g,k * 7,none⟩),undef] (CeJ e g k n' w4) (by kernel_rfl) (by kernel_rfl) (by kernel_rfl) (by kernel_rfl) (by kernel_rfl) (by kernel_rfl) (by kernel_rfl) (by decide) ?_ ?_ ?_ ?_
    · exact ⟨fun _=>(Ext.refl w4).drew,fun u hu=>by simp at hu,fun u v hu=>by simp at hu⟩
    · intro i o ho hc a w' us K' hJ hF hlim hk
      match i,ho with
      | 0,ho =>
       simp only [gA,gB,gC,gD] at ho;subst ho;have e1:=hF.old 1 (.pointer (some ⟨w.heap.size,0,none⟩)) rfl rfl;simp only [Act.eval] at e1;clear hF hlim hJ;go_simp;exact hk
      | 1,ho =>
       simp only [gA,gB,gC,gD] at ho;subst ho;have e25:=hF.pure 0 25 (.pointer (some ⟨w.heap.size,6,none⟩)) rfl rfl rfl rfl
       have hX6:∃ w6,Ext w4 w6∧KB 52 w6 w':=by
        have hl1:=hlim 1 6 rfl rfl
        match us,hl1,hJ with
        | [],_,hJ=>exact ⟨w',hJ.nil rfl,KB.refl _⟩
        | [u],_,hJ=>obtain ⟨_,_,_,_,_,h4⟩:=hJ.one u rfl;exact ⟨w',h4,KB.refl _⟩
        | _ :: _ :: _,hl1,_=>exact absurd hl1 (by simp)
       obtain ⟨w6,hX6,hK6⟩:=hX6;have hcl:w'.cell? ⟨w.heap.size,6,none⟩=some (.slice (some ⟨g,0,none⟩) h.en ec):=Blk.cell (hK6 _ _ (HB4.out.ext hX6)) 6;clear hX6 hK6;simp only [Act.eval] at e25;clear hF hlim hJ;go_simp;exact hk
      | 2,ho =>
       simp only [gA,gB,gC,gD] at ho;subst ho;have e3:=hF.old 3 (.int .i64 (k:Int)) rfl rfl;simp only [Act.eval] at e3;clear hF hlim hJ;go_simp;exact hk
      | 3,ho =>
       simp only [gA,gB,gC,gD] at ho;subst ho;have e4:=hF.old 4 (.pointer (some ⟨wr.heap.size,0,none⟩)) rfl rfl
       have hX6:Ext w4 w':=by
        have hl0:=hlim 0 4 rfl rfl;exact hJ.nil (List.eq_nil_of_length_eq_zero (by omega))
       exact wp_loadBk 64 (.tmp 4) rfl _ 64 _ _ e4 (HE4.out.ext hX6) Tryz.underlying64 rfl (by exact qEg) hk
      | 4,ho=>simp at hc
      | 5,ho =>
       simp only [gA,gB,gC,gD] at ho;subst ho;have e26:=hF.pure 1 26 (.slice (some ⟨g,0,none⟩) h.en ec) rfl rfl rfl rfl;have e27:=hF.pure 2 27 (.int .i64 (k:Int)) rfl rfl rfl rfl;exact qJa rfl e26 e27 hlt (by rw [Nat.zero_add];exact hk)
      | 6,ho=>simp at hc
      | i+7,ho=>simp at ho
    · intro p c' o hp ho a w' us K' hl hJ hF hk
      match p,hp with
      | 0,hp =>
       (obtain rfl:4=c':=by simpa using hp);simp only [gA,gB,gC,gD] at ho;subst ho;obtain rfl:us=[]:=List.eq_nil_of_length_eq_zero hl;have e28:=hF.pure 3 28 (.agg #[.int .i64 e.id,.int .i64 e.inn,.int .i64 e.out,.string e.region,.int .u8 e.kind,.string e.speaker,.slice A' n' c']) rfl rfl rfl rfl;have hX6:=hJ.nil rfl;refine qDz rfl e28 Tryz.call119 (EClone_any e A' n' c' w' (HEv.out.ext (HXr.out.trans (HX4.out.trans hX6)))) ?_;rintro en w8 ⟨A8,c8,rfl,hnc8,hrf8,hx8⟩;exact ⟨_,rfl,hk _ _ ⟨fun h=>absurd h (by simp),fun u hu=>by simp at hu;subst hu;exact ⟨A8,c8,rfl,hnc8,hrf8.le hX6.size,hX6.trans hx8⟩,fun u v hu=>by simp at hu⟩⟩
      | 1,hp =>
       (obtain rfl:6=c':=by simpa using hp);simp only [gA,gB,gC,gD] at ho;subst ho;obtain ⟨u0,rfl⟩:=qEq hl;obtain ⟨A2,c2,hu9,hnc,hrf,hx9⟩:=hJ.one u0 rfl;subst hu9;have e30:=hF.pure 5 30 (.pointer (some ⟨g,k*7,none⟩)) rfl rfl rfl rfl;have e29:=hF.link 0 4 29 _ rfl rfl rfl rfl;refine wp_store_mid 64 (.tmp 30) (.tmp 29) rfl g (k*7) (e.cells A2 n' c2) e30 e29 (fun j hj=>?_) (by exact qEg) (by simp [Ev.cells,Value.oneCell']) ?_
       · have hO9:=qAh (qAh HOr.out HX4.out) hx9
         have hj7:j<7:=hj;(have h8:k*7+j<(hs.flatMap EH.vals).length:=by rw [hO9.1];omega);exact ⟨by rw [hO9.cellAt _ (by omega),List.getElem?_eq_getElem h8];rfl,hO9.frozenAt _⟩
       · exact hk undef _ ⟨fun h=>absurd h (by simp),fun u hu=>by simp at hu,fun u v hu=>by simp at hu;obtain ⟨rfl,rfl⟩:=hu;exact ⟨A2,c2,w',rfl,hnc,hrf,hx9,rfl⟩⟩
      | p+2,hp=>simp at hp
    intro us W9 hl hJ;obtain ⟨u0_1,u1_1,rfl⟩:=qEo hl;rename_i hK;refine hK _ _ ?_;clear hK;generalize hL:qDx _ _ _ _=L;obtain rfl:L=[(25,.pointer (some ⟨w.heap.size,6,none⟩)),(26,.slice (some ⟨g,0,none⟩) h.en ec),(27,.int .i64 (k:Int)),(28,.agg #[.int .i64 e.id,.int .i64 e.inn,.int .i64 e.out,.string e.region,.int .u8 e.kind,.string e.speaker,.slice A' n' c']),(29,u0_1),(30,.pointer (some ⟨g,k*7,none⟩))]:=hL.symm.trans (by kernel_rfl);clear hL hl;simp only [Act.put,List.foldl_cons,List.foldl_nil,List.setIfInBounds_toArray,List.set_cons_zero,List.set_cons_succ];obtain ⟨A2,c2,w5,rfl,hnc2,hrf2,hx5,rfl⟩:=hJ.two u0_1 u1_1 rfl;clear hJ;go_wp2_with fail;exact ⟨DClRel.step hgb HXr.out HBr.out HZr.out HRr.out HCr.out hlt HSl.out HOr.out HAl.out HEe.out (HX4.out.trans hx5) hsz4 hnc2 hn24 hrf2,by simp [intOf];omega⟩
  · have hkn:k=h.en:=by omega
    subst hkn;unfold Doc.cells3 at HBr;unfold qAu at HZr;clear hcr;go_wp2_with (first | (refine qAc rfl 52 (.tmp 1) rfl w.heap.size 52 _ _ (by exact rfl) (by exact HBr.out) Tryz.underlying52 rfl (by exact qBh) ?_) | (refine qAi rfl 52 (.tmp 2) (.tmp 32) rfl (w.heap.size+1) 52 _ _ (by exact rfl) (by exact rfl) (by exact HZr.out) (by exact rfl) (by exact qBh) (by simp [Value.oneCell']) ?_));refine bodyPost_ret (v:=.agg (d.cells ⟨A0,h.rn,c0,ea,h.en,ec,A1,h.cn,c1⟩)) ?_ rfl ⟨⟨A0,h.rn,c0,ea,h.en,ec,A1,h.cn,c1⟩,rfl,?_,?_⟩
    · exact qGa (P:=Tryz.prog) Tryz.results58 (g:=w.heap.size+1) rfl (by exact HZr.out.put _) Tryz.underlying52 rfl qBh
    · refine qNh.put (h:=⟨A0,h.rn,c0,ea,h.en,ec,A1,h.cn,c1⟩) (cs:=qAu) ⟨HRr.out,HRl.out,⟨hs,HOr.out,HSl.out,HEl.out,fun i x e hx he=>(HAl.out i x e hx he).1 (by have:=(List.getElem?_eq_some_iff.1 hx).1;have:=HSl.out;omega)⟩,HCr.out,HCl.out⟩ HZr.out _
    · exact HXr.out.put (by omega) _ _
end
section
open Go.RowKit Go.Maps
theorem keyStr:Keyed Tryz.prog 9:=string_keyed Tryz.underlying9
theorem qPa {s:ByteArray} (h:s.size≤16):keyOf Tryz.prog 9 (.string s)=some (.string s.data.toList):=WideMaps.keyOf_string_mk Tryz.underlying9 (by unfold maxLen;omega)
def MapS (w:World) (B:Nat) (l:List RDoc) (k:Nat):Prop:=∃ (n:Nat) (D:DataW Unit),w.ownsMap Tryz.prog 9 (plainElem Tryz.prog 3) B n D∧n≤k∧IsMap D ∧
 ∀ (j:Nat) (d:RDoc),j<k→l[j]?=some d→D.atKey (.string d.reel.data.toList) (.lit (.int .i64 0)) = .lit (.int .i64 (offR l j))
theorem MapS.made (w:World) (l:List RDoc):MapS (w.alloc (.map #[] 0)) w.heap.size l 0 :=
 ⟨0,.map [],World.ownsMap_made w _ _ _,Nat.le_refl _,isMap_empty,fun _ _ h=>by omega⟩
theorem MapS.km {w w1:World} {B k:Nat} {l:List RDoc} (h:MapS w B l k) (q:KM w w1):MapS w1 B l k:=by
 obtain ⟨n,D,⟨es,cl,h1,h2⟩,h3⟩:=h;exact ⟨n,D,⟨es,cl,q B es cl h1,h2⟩,h3⟩
theorem MapS.lt {w:World} {B k:Nat} {l:List RDoc} (h:MapS w B l k):B<w.heap.size:=by
 obtain ⟨n,D,h1,_⟩:=h;exact h1.lt
theorem MapS.ext {w w1:World} {B k:Nat} {l:List RDoc} (h:MapS w B l k) (q:Ext w w1):MapS w1 B l k:=h.km (Only.ext (T:=0) q).km
theorem MapS.put {w1:World} {B n k:Nat} {l:List RDoc} {D:DataW Unit} {d:RDoc} (hn:n≤k) (hm:IsMap D)
 (ha:∀ (j:Nat) (d:RDoc),j<k→l[j]?=some d→D.atKey (.string d.reel.data.toList) (.lit (.int .i64 0)) = .lit (.int .i64 (offR l j)))
 (hd:l[k]?=some d) (hs:d.reel.size≤16) (hne:∀ (j:Nat) (x:RDoc),j<k→l[j]?=some x→x.reel≠d.reel)
 (h:w1.ownsMap Tryz.prog 9 (plainElem Tryz.prog 3) B (n+1) (D.put (.string d.reel.data.toList) (.lit (.int .i64 (offR l k))))):MapS w1 B l (k+1):=by
 refine ⟨n+1,_,h,by omega,hm.put _ _,fun j x hj hx=>?_⟩
 by_cases hjk:j=k
 · subst hjk
   rw [hd] at hx
   cases hx
   exact atKey_put_same hm (keyStr.key (qPa hs)) _ _
 · have hn2:=hne j x (by omega) hx
   rw [atKey_put_other]
   · exact ha j x (by omega) hx
   · intro he
     apply hn2;simp only [Lit.string.injEq] at he
     cases hx1:x.reel with
     | mk a =>
      cases hd1:d.reel with
      | mk b =>
       rw [hx1,hd1] at he;simp only at he
       congr 1
       exact Array.toList_inj.1 he
theorem qLz {w:World} {L size n:Nat} {T:TypeId} {v:Value} {xs ys:List Value} (h:w.ownsRow L T size v n xs) (k:w.ownsRow L T size v n ys):xs=ys:=by
 rcases h.2 with ⟨hv,hn⟩ | ⟨g,cap,cur,hv,-,hb,-,-,-,ht⟩
 · have h1:=h.1
   have h2:=k.1;rw [hn,Nat.zero_mul] at h1 h2;rw [List.length_eq_zero_iff.1 h1,List.length_eq_zero_iff.1 h2]
 · rcases k.2 with ⟨hv',-⟩ | ⟨g',cap',cur',hv',-,hb',-,-,-,ht'⟩
   · rw [hv] at hv';cases hv'
   · rw [hv] at hv'
     cases hv'
     rw [hb] at hb'
     cases hb'
     rw [← ht,← ht']
structure Keep (R:Nat→Prop) (w w':World):Prop where
 size:w.heap.size≤w'.heap.size
 same:∀ q,q<w.heap.size→¬ R q→w'.heap[q]?=w.heap[q]?
section
variable {R:Nat→Prop} {w w1 w2:World}
theorem Keep.refl (w:World):Keep R w w:=⟨Nat.le_refl _,fun _ _ _=>rfl⟩
theorem Keep.ext (k:Keep R w w1) (e:Ext w1 w2):Keep R w w2:=⟨Nat.le_trans k.size e.size,fun q hq hr=>(e.block q (Nat.lt_of_lt_of_le hq k.size)).trans (k.same q hq hr)⟩
theorem Keep.grown {row:Option Nat} (k:Keep R w w1) (g:w1.grownBy w2 row) (h:∀ q,row=some q→R q∨w.heap.size≤q):Keep R w w2:=by
 refine ⟨Nat.le_trans k.size g.size,fun q hq hr=>(g.block q (Nat.lt_of_lt_of_le hq k.size) (fun e=>?_)).trans (k.same q hq hr)⟩
 rcases h q e.symm with h | h
 · exact hr h
 · omega
theorem Keep.set {p:Addr} {u:Value} (k:Keep R w w1) (h:R p.block∨w.heap.size≤p.block):Keep R w (w1.setCell p u):=by
 refine ⟨by simpa [World.setCell] using k.size,fun q hq hr=>?_⟩;rw [← k.same q hq hr];unfold World.setCell;simp only [Array.getElem?_modify];rw [if_neg];rintro rfl
 rcases h with h | h
 · exact hr h
 · omega
theorem Keep.put {g:Nat} {T:TypeId} {cs:Array Value} (k:Keep R w w1) (h:R g∨w.heap.size≤g):Keep R w (putB w1 g T cs):=by
 refine ⟨by simpa [putB] using k.size,fun q hq hr=>?_⟩;rw [← k.same q hq hr];unfold putB;simp only;rw [Array.getElem?_setIfInBounds_ne];rintro rfl
 rcases h with h | h
 · exact hr h
 · omega
theorem Keep.blk {g:Nat} {T:TypeId} {cs:Array Value} (k:Keep R w w1) (h:Blk w g T cs) (hr:¬ R g):Blk w1 g T cs:=(k.same g h.lt hr).trans h
theorem Keep.cell {b o:Nat} {u:Value} (k:Keep R w w1) (hr:¬ R b) (h:w.cell? ⟨b,o,none⟩=some u):w1.cell? ⟨b,o,none⟩=some u:=by
 have hb:b<w.heap.size:=World.block_lt_of_cell? w _ h;have:=k.same b hb hr;simp only [World.cell?] at h ⊢;rw [this];exact h
theorem Keep.cells {α:Type} {f:α→List Value} {size n:Nat} {A:Option Addr} {l:List α} (k:Keep R w w1) (h:Sl w size (Cells f) A n l) (hr:∀ ad,A=some ad→¬ R ad.block):Sl w1 size (Cells f) A n l:=by
 refine ⟨h.1,fun hn=>?_⟩;obtain ⟨b,off,hA,hC⟩:=h.2 hn;exact ⟨b,off,hA,fun i x hx j u hu=>k.cell (hr _ hA) (hC i x hx j u hu)⟩
theorem Keep.map {B q:Nat} {l:List RDoc} (k:Keep R w w1) (h:MapS w B l q) (hr:¬ R B):MapS w1 B l q:=by
 have hl:=h.lt;obtain ⟨n,D,⟨es,cl,h1,h2⟩,h3⟩:=h;exact ⟨n,D,⟨es,cl,(k.same B hl hr).trans h1,h2⟩,h3⟩
end
theorem qJo {P:Program} {o:Oper} {a:Act} {w:World} {K:Act→World→Prop} {Q:Exit→Act→World→Prop} (s x:Operand) (t:TypeId)
 (ho:o.op = .call { callee:=.builtin .append,args:=#[s,x],argTypes:=#[t,t] })
 {base:Nat} {e:TypeId} {z:Value} {size bytes:Nat} (inf:(P.info? e).map (fun i=>(i.zero,i.size,i.bytes))=some (some z,size,bytes)) (ht:P.underlying t=some (.slice e)) (hzs:z.cells.size=size) (hsz:0<size)
 {v:Value} {n:Nat} {xs:List Value} (hown:w.ownsRow base e size v n xs) (hs:a.eval s=v) (g:Nat) (news:Array Value) (hx:a.eval x = .slice (some ⟨g,0,none⟩) 1 1) (hB:Blk w g e news) (hl:news.size=size) (h1:news.all (·.oneCell')=true)
 (hroom:(n+1)*bytes≤140737488355328) (hmax:n+1≤maxLen) (hbase:base≤w.heap.size)
 (h:∀ v' w',w'.ownsRow base e size v' (n+1) (xs++news.toList)→w.grownBy w' v.ownBlock→(v'.ownBlock=v.ownBlock∨v'.ownBlock=some w.heap.size)→K (a.put o.dst v') w'):o.wp P a w K Q:=by
 obtain ⟨i,hi,hz0,hz1,hz2⟩:=info_parts inf
 obtain ⟨v',w',hrun,h2,h3,_,h5⟩:=run_append_own_at (P:=P) w base t o.type e i z size bytes ht hi hz0 hz1 hz2 hzs hsz v n xs hown ⟨g,0,none⟩ 1 1 news.toList (by simpa using hl)
  (fun j u hu=>by rw [Addr.add_mid,Nat.zero_add,hB.cell];simpa using hu) (fun u hu=>(Array.all_eq_true_iff_forall_mem.1 h1) u (by simpa using hu)) hmax hroom hbase
 unfold Oper.wp execOp;simp only [ho,resolve,invoke,builtin,Sem.run_bind,Sem.run_pure,Result.andThen_ok,List.map_toArray,List.map_cons,List.map_nil,hs,hx,hrun];exact h v' w' h2 h3 h5
def PgS (T:TypeId) (size:Nat) (cells:Array Value) (base:Nat) (v:Value) (k:Nat) (xs:List Value) (W:World):List Value→World→Prop
 | [],w'=>Ext W w'
 | [_],w'=>Ext W w'
 | [_,u1],w'=>(∃ g,u1 = .slice (some ⟨g,0,none⟩) 1 1∧Blk w' g T cells)∧Ext W w'
 | [_,_,u2],w'=>∃ w5,Ext W w5∧w5.grownBy w' v.ownBlock∧(u2.ownBlock=v.ownBlock∨u2.ownBlock=some w5.heap.size)∧w'.ownsRow base T size u2 (k+1) (xs++cells.toList)
 | [_,_,u2,u3],w'=>u3=u2∧∃ w5,Ext W w5∧w5.grownBy w' v.ownBlock∧(u2.ownBlock=v.ownBlock∨u2.ownBlock=some w5.heap.size)∧w'.ownsRow base T size u2 (k+1) (xs++cells.toList)
 | _,_=>False
structure PgJ (T:TypeId) (size:Nat) (r:Int) (cells:Array Value) (base:Nat) (v:Value) (k:Nat) (xs:List Value) (W:World) (us:List Value) (w':World):Prop where
 only:Only T W w'
 val:∀ u,us[0]?=some u→u = .int .i64 r
 st:PgS T size cells base v k xs W us w'
section
variable {T:TypeId} {size:Nat} {r:Int} {cells:Array Value} {base k:Nat} {v:Value} {xs:List Value} {W w' w2:World} {u0 u1 u2:Value}
theorem PgJ.start (W:World):PgJ T size r cells base v k xs W [] W.drew:=⟨Only.ext (Ext.refl W).drew,fun u h=>by simp at h,(Ext.refl W).drew⟩
theorem PgJ.call (h:PgJ T size r cells base v k xs W [] w') (hx:Ext w' w2):PgJ T size r cells base v k xs W ([]++[.int .i64 r]) w2 :=
 ⟨h.only.trans (Only.ext hx),fun u hu=>by simpa using hu.symm,Ext.trans h.st hx⟩
theorem PgJ.build (h:PgJ T size r cells base v k xs W [u0] w'):PgJ T size r cells base v k xs W ([u0]++[.slice (some ⟨w'.heap.size,0,none⟩) 1 1]) (w'.alloc (.cells cells T)) :=
 ⟨h.only.trans (Only.ext ((Ext.refl w').alloc _)),fun u hu=>h.val u (by simpa using hu),⟨⟨_,rfl,Blk.new w' _ _⟩,Ext.alloc h.st _⟩⟩
theorem PgJ.app (h:PgJ T size r cells base v k xs W [u0,u1] w') (hv:∀ q,v.ownBlock=some q→qBf w' T q) (hg:w'.grownBy w2 v.ownBlock) (hloc:u2.ownBlock=v.ownBlock∨u2.ownBlock=some w'.heap.size) (ho:w2.ownsRow base T size u2 (k+1) (xs++cells.toList)):PgJ T size r cells base v k xs W ([u0,u1]++[u2]) w2 :=
 ⟨h.only.trans (Only.grown hg hv),fun u hu=>h.val u (by simpa using hu),⟨w',h.st.2,hg,hloc,ho⟩⟩
theorem PgJ.asg (h:PgJ T size r cells base v k xs W [u0,u1,u2] w'):PgJ T size r cells base v k xs W ([u0,u1,u2]++[u2]) w':=⟨h.only,fun u hu=>h.val u (by simpa using hu),⟨rfl,h.st⟩⟩
end
theorem info_fate:(Tryz.prog.info? 67).map (fun i=>(i.zero,i.size,i.bytes))=some (some (.agg #[.string ⟨#[]⟩,.int .i64 0,.slice none 0 0,.int .i64 0,.slice none 0 0]),5,80):=by kernel_rfl
theorem qOg:(Tryz.prog.info? 64).map (·.size)=some 7:=by kernel_rfl
theorem qGt {P:Program} {fn:Func} {p u v:Tmp} {ty:TypeId} (h:fn.results=#[.cell p ty,.tmp u,.tmp v]) {tmps:Array Value} {w:World} {g:Nat} {t:TypeId} {cs:Array Value} {d:TypeDesc} (hp:tmps.getD p undef = .pointer (some ⟨g,0,none⟩))
 (hB:Blk w g t cs) (hu:P.underlying ty=some d) (hd:d.isRow=true) (hi:(P.info? ty).map (·.size)=some cs.size):(results fn tmps).run P w = .ok (.tuple #[.agg cs,tmps.getD u undef,tmps.getD v undef]) w:=by
 have h1:=qIo (P:=P) g t ty cs d hB hu hd hi;simp only [results,h];(have e:tmps[p]?.getD undef = .pointer (some ⟨g,0,none⟩):=by simpa using hp);simp [Sem.run_bind,e,qMt,h1]
theorem qMv:∀ {docs:List RDoc} {q:Nat},(∀ d∈docs,d.doc.evs.length≤q)→∀ k,offR docs k≤k*q
 | [],q,_,k=>by unfold offR;simp
 | d :: l,q,h,0=>by unfold offR;simp
 | d :: l,q,h,k+1=>by
  have h1:=h d (by simp);have h2:=qMv (docs:=l) (fun x hx=>h x (by simp [hx])) k;(have e:offR (d :: l) (k+1)=d.doc.evs.length+offR l k:=by unfold offR;simp);rw [e,Nat.succ_mul];omega
theorem qBa.app {w w5 w1:World} {L L2:Nat} {v v':Value} {l:List Fat} {r:ByteArray} {id lost:Int} {xs:List Value} (h:qBa w L L2 v l) (h1:w.ownsRow L 67 5 v l.length xs) (hx:Ext w w5) (hgr:w5.grownBy w1 v.ownBlock)
 (hO:w1.ownsRow L 67 5 v' (l.length+1) (xs++[.string r,.int .i64 id,.slice none 0 0,.int .i64 lost,.slice none 0 0])):qBa w1 L L2 v' (l++[⟨r,id,[],lost,[]⟩]) :=
 (h.ext hx).snoc hgr (fun ys hy=>by rw [qLz hy (qAh h1 hx)];exact hO)
theorem qBa.xs {w:World} {L L2:Nat} {v:Value} {l:List Fat} (h:qBa w L L2 v l):∃ xs,w.ownsRow L 67 5 v l.length xs:=h.elim fun _ h=>⟨_,h.1⟩
theorem fatsD_take {e:Edl} {d:RDoc} {j:Nat} {x:Ev} (h:d.doc.evs[j]?=some x):(qFj e d).take (j+1)=(qFj e d).take j++[⟨d.reel,x.id,[],qKl ⟨x.inn,x.out⟩ (plE e d.reel),[]⟩]:=by
 (have:(qFj e d)[j]?=some ⟨d.reel,x.id,[],qKl ⟨x.inn,x.out⟩ (plE e d.reel),[]⟩:=by unfold qFj;rw [List.getElem?_map,h];rfl);exact take_snoc' _ _ _ this
theorem qLh (e:Edl) (d:RDoc):(qFj e d).length=d.doc.evs.length:=by unfold qFj;rw [List.length_map]
theorem qKm {o:Oper} {a:Act} {w:World} {K:Act→World→Prop} {Q:Exit→Act→World→Prop} (ho:o.op = .alloc 52) (h:K (a.put o.dst (.pointer (some ⟨w.heap.size,0,none⟩))) (w.alloc (.cells qAu 52))):o.wp Tryz.prog a w K Q:=by
 obtain ⟨dst,op,ty,pos,after,guard⟩:=o;simp only at ho;subst ho;unfold qAu at h;go_simp;exact h
def qBc (e:Edl) (s:ByteArray) (last:Int) (r v:Value):Array Value:=#[.string e.title,.string s,.int .u8 e.rate,.bool e.drop,.int .i64 last,r,v,.slice none 0 0]
structure OdJ (al:Nat) (s:ByteArray) (C:Value→Array Value) (n:Nat) (xs:List Value) (W:World) (us:List Value) (gs:Nat→Option Nat) (w':World):Prop where
 ext:Ext W w'
 blk:∀ g,gs al=some g→W.heap.size≤g∧Blk w' g 52 (if us.length≤3 then qAu else C (us.getD 1 undef))
 str:∀ u,us[0]?=some u→u = .string s
 own:2≤us.length→w'.ownsRow W.heap.size 105 7 (us.getD 1 undef) n xs
 agg:3≤us.length→us.getD 2 undef = .agg (C (us.getD 1 undef))
section
variable {al n:Nat} {s:ByteArray} {C:Value→Array Value} {xs:List Value} {W w' w2:World} {us:List Value} {gs:Nat→Option Nat} {u0 u1 u2:Value}
theorem OdJ.start (W:World):OdJ al s C n xs W [] (fun _=>none) W.drew :=
 ⟨(Ext.refl W).drew,fun g h=>(by have h2:(none:Option Nat)=some g:=h;exact absurd h2 (by simp)),fun u h=>by simp at h,fun h=>by simp at h,fun h=>by simp at h⟩
theorem OdJ.alloc (j:OdJ al s C n xs W us gs w') (hl:us.length≤3):OdJ al s C n xs W us (upd gs al w'.heap.size) (w'.alloc (.cells qAu 52)):=by
 refine ⟨j.ext.alloc _,fun g hg=>?_,j.str,fun h=>qAh (j.own h) ((Ext.refl _).alloc _),j.agg⟩;rw [qGo] at hg
 cases hg
 exact ⟨j.ext.size,by rw [if_pos hl];exact Blk.new _ _ _⟩
theorem OdJ.c0 (j:OdJ al s C n xs W [] gs w') (hx:Ext w' w2):OdJ al s C n xs W ([]++[.string s]) gs w2 :=
 ⟨j.ext.trans hx,fun g hg=>⟨(j.blk g hg).1,(j.blk g hg).2.ext hx⟩,fun u hu=>by simpa using hu.symm,fun h=>by simp at h,fun h=>by simp at h⟩
theorem OdJ.c1 (j:OdJ al s C n xs W [u0] gs w') (hx:Ext w' w2) (ho:w2.ownsRow w'.heap.size 105 7 u1 n xs):OdJ al s C n xs W ([u0]++[u1]) gs w2 :=
 ⟨j.ext.trans hx,fun g hg=>⟨(j.blk g hg).1,(j.blk g hg).2.ext hx⟩,fun u hu=>j.str u (by simpa using hu),fun _=>qLc ho j.ext.size,fun h=>by simp at h⟩
theorem OdJ.c2 (j:OdJ al s C n xs W [u0,u1] gs w'):OdJ al s C n xs W ([u0,u1]++[.agg (C u1)]) gs w' :=
 ⟨j.ext,fun g hg=>⟨(j.blk g hg).1,(j.blk g hg).2⟩,fun u hu=>j.str u (by simpa using hu),fun _=>j.own (Nat.le_refl _),fun _=>rfl⟩
theorem OdJ.c3 {g:Nat} {v:Value} (j:OdJ al s C n xs W [u0,u1,u2] gs w') (hg:gs al=some g):OdJ al s C n xs W ([u0,u1,u2]++[v]) gs (putB w' g 52 (C u1)):=by
 have hb:=(j.blk g hg).2;refine ⟨j.ext.put (j.blk g hg).1 _ _,fun g' hg'=>?_,fun u hu=>j.str u (by simpa using hu),fun _=>qDi (j.own (by simp)) (KB.put hb (by decide)),fun _=>j.agg (by simp)⟩;rw [hg] at hg'
 cases hg'
 exact ⟨(j.blk g hg).1,hb.put _⟩
end
theorem qFb {w:World} {L n size:Nat} {T:TypeId} {v:Value} {xs:List Value} (h:w.ownsRow L T size v n xs):∃ A c,v = .slice A n c:=by
 rcases h.2 with ⟨rfl,rfl⟩ | ⟨g,cap,cur,rfl,-⟩
 · exact ⟨none,0,rfl⟩
 · exact ⟨_,cap,rfl⟩
end
section
open Go.RowKit Go.Maps
section
variable {T T':TypeId} {w w1 w2:World}
end
section
variable {T:TypeId} {al p:Nat} {cs0 cs1:Array Value} {r0:Value} {W w w2:World} {us:List Value} {gs:Nat→Option Nat} {v:Value}
end
theorem qBv.head {w:World} {L n c k:Nat} {A:Option Addr} {l:List Ev} {e:Ev} (h:qBv w L (.slice A n c) n l) (hk:l[k]?=some e):∃ g A' n' c',A=some ⟨g,0,none⟩∧L≤g∧g<w.heap.size∧qBf w 64 g ∧
 (∀ j u,(e.cells A' n' c').toList[j]?=some u→w.cell? ⟨g,k*7+j,none⟩=some u)∧(∀ j,w.frozen? ⟨g,j,none⟩=false)∧qFg w L (EH.of e A' n' c') e:=by
 obtain ⟨hs,h1,h2,h3,h4⟩:=h;(have hkn:k<n:=by rw [← h3];exact (List.getElem?_eq_some_iff.1 hk).1);obtain ⟨g,cap,hv,hb,hlt⟩:=qFn h1 (by omega);injection hv with hA hn hc;subst hA hc;obtain ⟨x,hx⟩:∃ x,hs[k]?=some x:=⟨_,List.getElem?_eq_getElem (by omega)⟩;have hg:=h4 k x e hx hk;refine ⟨g,x.A,x.n,x.c,rfl,hb,hlt,qAj h1 g rfl,fun j u hu=>?_,fun j=>h1.frozenAt j,by rw [← hg.1];exact hg⟩;have hj:j<7:=(List.getElem?_eq_some_iff.1 hu).1;rw [h1.cellAt (k*7+j) (by omega),qEx EH.vals 7 EH.len hs k x j hx hj,hg.1,EH.of_vals];exact hu
section
variable {T:TypeId} {size:Nat} {cells:Array Value} {base:Nat} {v:Value} {k:Nat} {xs:List Value} {W w' w2:World} {u0 u1:Value}
end
section
variable {g o:Nat} {i a b:Value} {W w':World} {u0 u1:Value}
end
end
end Go.Proofs.YtablhmobekmflaaGreatDoor