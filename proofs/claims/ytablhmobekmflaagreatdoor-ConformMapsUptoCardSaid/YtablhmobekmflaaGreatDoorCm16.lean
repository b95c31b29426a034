/- Texts laid together. -/
import Derived.Test.YtablhmobekmflaaGreatDoorCm05
import Derived.Test.YtablhmobekmflaaGreatDoorCm15
import Derived.Test.YtablhmobekmflaaGreatDoorCm14
import Derived.OwnWalk
import Derived.Lib.LaidTab
import Derived.Test.YtablhmobekmflaaGreatDoorCm01
import Derived.Test.YtablhmobekmflaaGreatDoorCm12
import Derived.Test.YtablhmobekmflaaGreatDoorCm09
import Derived.Test.YtablhmobekmflaaGreatDoorCm02
set_option linter.unusedVariables false
set_option linter.unusedSimpArgs false
set_option maxRecDepth 100000
namespace Go.Proofs.YtablhmobekmflaaGreatDoor
section
open Go.RowKit
section
variable {T T':TypeId} {w w1 w2:World} {L n:Nat} {A:Option Addr}
theorem qDu.kb (h:qDu w T L A) (k:KB T w w1):qDu w1 T L A:=fun ad e=>⟨(h ad e).1,(h ad e).2.kb k⟩
theorem qDi {size:Nat} {v:Value} {xs:List Value} (h:w.ownsRow L T size v n xs) (k:KB T w w1):w1.ownsRow L T size v n xs:=by
 refine ⟨h.1,?_⟩
 rcases h.2 with hn | ⟨g,cap,cur,rfl,hb,hg,rest⟩
 · exact .inl hn
 · exact .inr ⟨g,cap,cur,rfl,hb,k _ _ hg,rest⟩
end
theorem qCs.kb {w w1:World} {L:Nat} {A:Option Addr} {n:Nat} {l:List Row} (h:qCs w L A n l) (k1:KB 174 w w1) (k2:KB 171 w w1):qCs w1 L A n l:=by
 obtain ⟨hs,a1,a2,a3,a4,a5⟩:=h;refine ⟨hs,Sl.keep a1 fun _ b off hA o x hx j u hu=>?_,fun i hd r a b=>?_,a3,a4.kb k1,fun x hx=>(a5 x hx).kb k2⟩
 · rw [(a4 _ hA).2.cell_kb k1];exact hx j u hu
 · have gd:=a2 i hd r a b
   refine ⟨gd.1,gd.2.1,Sl.keep gd.2.2 fun _ b' off hA o x hx=>?_⟩;(have key:∀ q v,w.cell? ⟨b',q,none⟩=some v→w1.cell? ⟨b',q,none⟩=some v:=fun q v hv=>by rw [((a5 hd (List.mem_of_getElem? a)) _ hA).2.cell_kb k2];exact hv);exact ⟨key _ _ hx.1,key _ _ hx.2.1,key _ _ hx.2.2.1,key _ _ hx.2.2.2.1,key _ _ hx.2.2.2.2⟩
theorem flat_set {α:Type} {f:α→List Value} {size:Nat} (hf:∀ x,(f x).length=size):∀ (l:List α) (k j:Nat) (x y:α) (u:Value),l[k]?=some x→f y=(f x).set j u→j<size→(l.flatMap f).set (k*size+j) u=(l.set k y).flatMap f
 | [],k,j,x,y,u,h,_,_=>by simp at h
 | z :: l,0,j,x,y,u,h,hy,hj=>by
  (simp at h;subst h);rw [List.flatMap_cons,List.set_cons_zero,List.flatMap_cons,hy,Nat.zero_mul,Nat.zero_add,List.set_append,if_pos (by rw [hf];exact hj)]
 | z :: l,k+1,j,x,y,u,h,hy,hj=>by
  have hz:=hf z;rw [List.flatMap_cons,List.set_cons_succ,List.flatMap_cons,List.set_append,if_neg (by rw [hz,Nat.add_mul];omega),← flat_set hf l k j x y u (by simpa using h) hy hj]
  congr 2
  rw [hz,Nat.add_mul];omega
def setMany:List Value→Nat→List Value→List Value
 | xs,_,[]=>xs
 | xs,j,v :: vs=>setMany (xs.set j v) (j+1) vs
theorem qLl:∀ (vs pre old post:List Value),old.length=vs.length→setMany (pre++old++post) pre.length vs=pre++vs++post
 | [],pre,old,post,h=>by
  obtain rfl:old=[]:=List.eq_nil_of_length_eq_zero h;rfl
 | v :: vs,pre,[],post,h=>by simp at h
 | v :: vs,pre,o :: old,post,h=>by
  (have e:(pre++o :: old++post).set pre.length v=(pre++[v])++old++post:=by simp [List.set_append]);have:=qLl vs (pre++[v]) old post (by simpa using h);rw [List.length_append,List.length_singleton] at this;rw [setMany,e,this];simp
theorem flat_setMany {α:Type} {f:α→List Value} {size:Nat} (hf:∀ x,(f x).length=size) (l:List α) (k:Nat) (y:α) (hk:k<l.length):setMany (l.flatMap f) (k*size) (f y)=(l.set k y).flatMap f:=by
 (have e1:l=l.take k++l[k] :: l.drop (k+1):=by rw [← List.drop_eq_getElem_cons hk,List.take_append_drop]);(have e2:l.set k y=l.take k++y :: l.drop (k+1):=by rw [List.set_eq_take_append_cons_drop,if_pos hk]);(have hl:((l.take k).flatMap f).length=k*size:=by rw [qDm f size hf,List.length_take,Nat.min_eq_left (by omega)]);rw [e2,List.flatMap_append,List.flatMap_cons]
 conv=>lhs;rw [e1]
 rw [List.flatMap_append,List.flatMap_cons,← hl,← List.append_assoc,qLl _ _ _ _ (by rw [hf,hf]),List.append_assoc]
theorem own_sets {L size n cap g:Nat} {T:TypeId}:∀ (vs:List Value) (j:Nat) (w:World) (xs:List Value),w.ownsRow L T size (.slice (some ⟨g,0,none⟩) n cap) n xs →
 (w.setCells g j vs).ownsRow L T size (.slice (some ⟨g,0,none⟩) n cap) n (setMany xs j vs)
 | [],_,_,_,h=>h
 | v :: vs,j,w,xs,h=>own_sets vs (j+1) _ _ (h.stored j v).1
theorem ext_sets {w0:World} {g:Nat} (hg:w0.heap.size≤g):∀ (vs:List Value) (j:Nat) (w:World),Ext w0 w→Ext w0 (w.setCells g j vs)
 | [],_,_,h=>h
 | v :: vs,j,w,h=>ext_sets hg vs (j+1) _ (h.setCell hg v)
structure EH where
 id:Int
 inn:Int
 out:Int
 region:ByteArray
 kind:Int
 speaker:ByteArray
 A:Option Addr
 n:Nat
 c:Nat
def EH.vals (h:EH):List Value:=[.int .i64 h.id,.int .i64 h.inn,.int .i64 h.out,.string h.region,.int .u8 h.kind,.string h.speaker,.slice h.A h.n h.c]
def EH.of (e:Ev) (A:Option Addr) (n c:Nat):EH:=⟨e.id,e.inn,e.out,e.region,e.kind,e.speaker,A,n,c⟩
theorem EH.of_vals (e:Ev) (A:Option Addr) (n c:Nat):(EH.of e A n c).vals=(e.cells A n c).toList:=rfl
theorem EH.len (h:EH):h.vals.length=7:=rfl
def Reg.vals (r:Reg):List Value:=[.string r.name,.int .i64 r.top,.int .i64 r.height,.int .i64 r.left,.int .i64 r.width,.int .u8 r.align,.bool r.bottom]
def qFg (w:World) (L:Nat) (h:EH) (e:Ev):Prop:=h=EH.of e h.A h.n h.c∧h.n≤h.c∧h.n*24≤140737488355328∧qCs w L h.A h.n e.rows
theorem qFg.kb {w w1:World} {L:Nat} {h:EH} {e:Ev} (g:qFg w L h e) (k1:KB 174 w w1) (k2:KB 171 w w1):qFg w1 L h e:=⟨g.1,g.2.1,g.2.2.1,g.2.2.2.kb k1 k2⟩
theorem qFg.ext {w w1:World} {L:Nat} {h:EH} {e:Ev} (g:qFg w L h e) (k:Ext w w1):qFg w1 L h e:=g.kb (KB.ext k) (KB.ext k)
theorem qFg.le {w:World} {L L':Nat} {h:EH} {e:Ev} (g:qFg w L h e) (hl:L'≤L):qFg w L' h e:=⟨g.1,g.2.1,g.2.2.1,g.2.2.2.le hl⟩
theorem qFg.at_ {w:World} {L:Nat} {h:EH} {e:Ev} (g:qFg w L h e):EvAt w e h.A h.n h.c:=⟨g.2.2.2.rows,g.2.1,g.2.2.1⟩
def qBv (w:World) (L:Nat) (v:Value) (n:Nat) (l:List Ev):Prop :=
 ∃ hs:List EH,w.ownsRow L 64 7 v n (hs.flatMap EH.vals)∧hs.length=n∧l.length=n∧∀ (i:Nat) (h:EH) (e:Ev),hs[i]?=some h→l[i]?=some e→qFg w L h e
section
variable {w w1:World} {L L' n c:Nat} {A:Option Addr} {v:Value} {l:List Ev}
theorem qBv.ext (h:qBv w L v n l) (k:Ext w w1):qBv w1 L v n l:=by
 obtain ⟨hs,h1,h2,h3,h4⟩:=h;exact ⟨hs,qAh h1 k,h2,h3,fun i x e a b=>(h4 i x e a b).ext k⟩
theorem qBv.kb (h:qBv w L v n l) (k0:KB 64 w w1) (k1:KB 174 w w1) (k2:KB 171 w w1):qBv w1 L v n l:=by
 obtain ⟨hs,h1,h2,h3,h4⟩:=h;exact ⟨hs,qDi h1 k0,h2,h3,fun i x e a b=>(h4 i x e a b).kb k1 k2⟩
theorem qBv.le (h:qBv w L v n l) (hl:L'≤L):qBv w L' v n l:=by
 obtain ⟨hs,h1,h2,h3,h4⟩:=h;exact ⟨hs,qLc h1 hl,h2,h3,fun i x e a b=>(h4 i x e a b).le hl⟩
theorem qBv.len (h:qBv w L v n l):l.length=n:=h.elim fun _ h=>h.2.2.1
theorem qBv.nil (w:World) (L:Nat):qBv w L (.slice none 0 0) 0 []:=⟨[],⟨rfl,.inl ⟨rfl,rfl⟩⟩,rfl,rfl,fun i x e a _=>by simp at a⟩
theorem qBv.at_ (h:qBv w L v n l):∃ A c,v = .slice A n c∧n≤c∧c≤maxLen∧qKw w A n l:=by
 obtain ⟨hs,h1,h2,h3,h4⟩:=h;obtain ⟨A,c,hv,hc,hm,hsl,_⟩:=qBg (f:=EH.vals) (size:=7) EH.len h2 h1;refine ⟨A,c,hv,hc,hm,h3,fun hn=>?_⟩;obtain ⟨b,off,hA,hcs⟩:=hsl.2 hn;refine ⟨b,off,hA,fun i e he=>?_⟩;(have hi:i<hs.length:=by rw [h2,← h3];exact (List.getElem?_eq_some_iff.1 he).1);have hx:hs[i]?=some hs[i]:=List.getElem?_eq_getElem hi;have g:=h4 i _ e hx he;refine ⟨hs[i].A,hs[i].n,hs[i].c,fun j u hu=>?_,g.at_⟩;refine hcs i _ hx j u ?_;rw [g.1,EH.of_vals];exact hu
theorem qBv.snoc {k:Nat} {e:Ev} {v':Value} {A':Option Addr} {n' c':Nat} (h:qBv w L v k l) (hg:qFg w L (EH.of e A' n' c') e) (hgr:w.grownBy w1 v.ownBlock)
 (hO:∀ xs,w.ownsRow L 64 7 v k xs→w1.ownsRow L 64 7 v' (k+1) (xs++(e.cells A' n' c').toList)):qBv w1 L v' (k+1) (l++[e]):=by
 obtain ⟨hs,h1,h2,h3,h4⟩:=h;have hty:∀ q,v.ownBlock=some q→qBf w 64 q:=qAj h1;have k1:KB 174 w w1:=KB.grown hgr hty (by decide);have k2:KB 171 w w1:=KB.grown hgr hty (by decide);refine ⟨hs++[EH.of e A' n' c'],?_,by simp [h2],by simp [h3],fun i x y hx hy=>?_⟩
 · rw [List.flatMap_append]
   have:=hO _ h1;simpa [EH.of_vals] using this
 · by_cases hik:i<k
   · rw [List.getElem?_append_left (by omega)] at hx hy
     exact (h4 i x y hx hy).kb k1 k2
   · have hik':i=k:=by
      have:=(List.getElem?_eq_some_iff.1 hx).1;simp [h2] at this;omega
     subst hik';rw [List.getElem?_append_right (by omega)] at hx hy;simp only [h2,h3,Nat.sub_self,List.getElem?_cons_zero,Option.some.injEq] at hx hy;subst hx hy;exact hg.kb k1 k2
end
structure qNh (w:World) (L:Nat) (d:Doc) (h:DocH):Prop where
 regs:w.ownsRow L 105 7 (.slice h.ra h.rn h.rc) h.rn (d.regs.flatMap Reg.vals)
 rlen:d.regs.length=h.rn
 evs:qBv w L (.slice h.ea h.en h.ec) h.en d.evs
 coms:w.ownsRow L 152 8 (.slice h.ca h.cn h.cc) h.cn (d.coms.flatMap Com.vals)
 clen:d.coms.length=h.cn
theorem qNh.kb {w w1:World} {L:Nat} {d:Doc} {h:DocH} (o:qNh w L d h) (k1:KB 105 w w1) (k2:KB 64 w w1) (k3:KB 174 w w1) (k4:KB 171 w w1) (k5:KB 152 w w1):qNh w1 L d h :=
 ⟨qDi o.regs k1,o.rlen,o.evs.kb k2 k3 k4,qDi o.coms k5,o.clen⟩
theorem qNh.put {w:World} {L:Nat} {d:Doc} {h:DocH} (o:qNh w L d h) {g:Nat} {cs:Array Value} (hB:Blk w g 52 cs) (cs':Array Value):qNh (putB w g 52 cs') L d h :=
 o.kb (KB.put hB (by decide)) (KB.put hB (by decide)) (KB.put hB (by decide)) (KB.put hB (by decide)) (KB.put hB (by decide))
theorem regC_cells {w:World} {b o:Nat} {r:Reg} (h:Cells Reg.vals w b o r):RegC w b o r:=⟨h 0 _ rfl,h 1 _ rfl,h 2 _ rfl,h 3 _ rfl,h 4 _ rfl,h 5 _ rfl,h 6 _ rfl⟩
theorem cells_regC {w:World} {b o:Nat} {r:Reg} (h:RegC w b o r):Cells Reg.vals w b o r:=by
 obtain ⟨h0,h1,h2,h3,h4,h5,h6⟩:=h;intro j u hu
 match j,hu with
 | 0,hu=>simp [Reg.vals] at hu;subst hu;exact h0
 | 1,hu=>simp [Reg.vals] at hu;subst hu;exact h1
 | 2,hu=>simp [Reg.vals] at hu;subst hu;exact h2
 | 3,hu=>simp [Reg.vals] at hu;subst hu;exact h3
 | 4,hu=>simp [Reg.vals] at hu;subst hu;exact h4
 | 5,hu=>simp [Reg.vals] at hu;subst hu;exact h5
 | 6,hu=>simp [Reg.vals] at hu;subst hu;exact h6
 | j+7,hu=>simp [Reg.vals] at hu
end
section
open Go.RowKit
def intV (x:Int):List Value:=[.int .i64 x]
def IntA (w:World) (A:Option Addr) (n:Nat) (l:List Int):Prop:=Sl w 1 (Cells intV) A n l
theorem IntA.ext {w w1:World} {A:Option Addr} {n:Nat} {l:List Int} (h:IntA w A n l) (k:Ext w w1):IntA w1 A n l:=Sl.ext (Cells.stays _) h k
structure FH where
 reel:ByteArray
 id:Int
 p:Value
 lost:Int
 s:Value
def FH.vals (h:FH):List Value:=[.string h.reel,.int .i64 h.id,h.p,.int .i64 h.lost,h.s]
theorem FH.len (h:FH):h.vals.length=5:=rfl
def FH.slot (h:FH) (b:Bool):Value:=if b=true then h.s else h.p
def Fat.slot (f:Fat) (b:Bool):List Int:=if b=true then f.short else f.parts
def FH.put (h:FH) (b:Bool) (v:Value):FH:=if b=true then { h with s:=v } else { h with p:=v }
def Fat.push (f:Fat) (b:Bool) (x:Int):Fat:=if b=true then { f with short:=f.short++[x] } else { f with parts:=f.parts++[x] }
def slotO (b:Bool):Nat:=if b=true then 4 else 2
theorem note_push (f:Fat) (id:Int) (sh:Bool):f.note id sh=if sh=true then (f.push false id).push true id else f.push false id:=by
 cases sh<;>simp [Fat.note,Fat.push]
theorem FH.put_vals (h:FH) (b:Bool) (v:Value):(h.put b v).vals=h.vals.set (slotO b) v:=by cases b<;>rfl
theorem FH.put_slot (h:FH) (b c:Bool) (v:Value):(h.put b v).slot c=if b=c then v else h.slot c:=by cases b<;>cases c<;>rfl
theorem Fat.push_slot (f:Fat) (b c:Bool) (x:Int):(f.push b x).slot c=if b=c then f.slot c++[x] else f.slot c:=by cases b<;>cases c<;>rfl
def FatC (w:World) (b o:Nat) (f:Fat):Prop :=
 ∃ pA pc sA sc,(∀ j u,[Value.string f.reel,.int .i64 f.id,.slice pA f.parts.length pc,.int .i64 f.lost,.slice sA f.short.length sc][j]?=some u→w.cell? ⟨b,o+j,none⟩=some u) ∧
  IntA w pA f.parts.length f.parts∧IntA w sA f.short.length f.short∧f.parts.length≤pc∧f.short.length≤sc
theorem FatC.stays:Stays FatC:=fun _ _ _ _ _ k ⟨pA,pc,sA,sc,h1,h2,h3,h4⟩=>⟨pA,pc,sA,sc,fun j u hu=>k.cell (h1 j u hu),h2.ext k,h3.ext k,h4⟩
def qGi (w:World) (A:Option Addr) (n:Nat) (l:List Fat):Prop:=Sl w 5 FatC A n l
theorem qGi.ext {w w1:World} {A:Option Addr} {n:Nat} {l:List Fat} (h:qGi w A n l) (k:Ext w w1):qGi w1 A n l:=Sl.ext FatC.stays h k
structure FGood (w:World) (L:Nat) (h:FH) (f:Fat):Prop where
 reel:h.reel=f.reel
 id:h.id=f.id
 lost:h.lost=f.lost
 row:∀ b,w.ownsRow L 2 1 (h.slot b) (f.slot b).length ((f.slot b).flatMap intV)
def Sep (hs:List FH):Prop:=∀ (i j:Nat) (b c:Bool) (h k:FH),hs[i]?=some h→hs[j]?=some k→¬ (i=j∧b=c)→∀ q,(h.slot b).ownBlock=some q→(k.slot c).ownBlock≠some q
def qBa (w:World) (L L2:Nat) (v:Value) (l:List Fat):Prop :=
 ∃ hs:List FH,w.ownsRow L 67 5 v l.length (hs.flatMap FH.vals)∧hs.length=l.length∧(∀ (i:Nat) (h:FH) (f:Fat),hs[i]?=some h→l[i]?=some f→FGood w L2 h f)∧Sep hs
section
variable {w w1:World} {L L2:Nat} {v:Value} {l:List Fat}
theorem FGood.kb {h:FH} {f:Fat} (g:FGood w L h f) (k:KB 2 w w1):FGood w1 L h f:=⟨g.reel,g.id,g.lost,fun b=>qDi (g.row b) k⟩
theorem qBa.kb (h:qBa w L L2 v l) (k1:KB 67 w w1) (k2:KB 2 w w1):qBa w1 L L2 v l:=by
 obtain ⟨hs,h1,h2,h3,h4⟩:=h;exact ⟨hs,qDi h1 k1,h2,fun i x f a b=>(h3 i x f a b).kb k2,h4⟩
theorem qBa.ext (h:qBa w L L2 v l) (k:Ext w w1):qBa w1 L L2 v l:=h.kb (KB.ext k) (KB.ext k)
theorem qBa.nil (w:World) (L L2:Nat):qBa w L L2 (.slice none 0 0) []:=⟨[],⟨rfl,.inl ⟨rfl,rfl⟩⟩,rfl,fun i x f a _=>by simp at a,fun i j b c h k a _=>by simp at a⟩
theorem own_other {size n:Nat} {T:TypeId} {u:Value} {xs:List Value} {row:Option Nat} (h:w.ownsRow L T size u n xs) (hg:w.grownBy w1 row) (hne:∀ q,u.ownBlock=some q→row=some q→False):w1.ownsRow L T size u n xs:=by
 refine ⟨h.1,?_⟩
 rcases h.2 with hn | ⟨g,cap,cur,rfl,hb,hgc,rest⟩
 · exact .inl hn
 · exact .inr ⟨g,cap,cur,rfl,hb,(hg.block g (Array.getElem?_eq_some_iff.1 hgc).1 (fun e=>hne g rfl e.symm)).trans hgc,rest⟩
theorem qBa.snoc {r:ByteArray} {id lost:Int} {v':Value} (h:qBa w L L2 v l) (hgr:w.grownBy w1 v.ownBlock)
 (hO:∀ xs,w.ownsRow L 67 5 v l.length xs→w1.ownsRow L 67 5 v' (l.length+1) (xs++[.string r,.int .i64 id,.slice none 0 0,.int .i64 lost,.slice none 0 0])):qBa w1 L L2 v' (l++[⟨r,id,[],lost,[]⟩]):=by
 obtain ⟨hs,h1,h2,h3,h4⟩:=h;have k:KB 2 w w1:=KB.grown hgr (qAj h1) (by decide);(have hN:∀ b,(FH.mk r id (.slice none 0 0) lost (.slice none 0 0)).slot b = .slice none 0 0:=fun b=>by cases b<;>rfl);refine ⟨hs++[⟨r,id,.slice none 0 0,lost,.slice none 0 0⟩],?_,by simp [h2],fun i x f hx hf=>?_,fun i j b c x y hx hy hne q hq=>?_⟩
 · rw [List.flatMap_append,List.length_append]
   simpa [FH.vals] using hO _ h1
 · by_cases hi:i<l.length
   · rw [List.getElem?_append_left (by omega)] at hx hf
     exact (h3 i x f hx hf).kb k
   · have hi':i=l.length:=by
      have:=(List.getElem?_eq_some_iff.1 hf).1;simp at this;omega
     subst hi';rw [List.getElem?_append_right (by omega)] at hx hf;simp only [h2,Nat.sub_self,List.getElem?_cons_zero,Option.some.injEq] at hx hf;subst hx hf;refine ⟨rfl,rfl,rfl,fun b=>?_⟩;rw [hN]
     cases b<;>exact ⟨rfl,.inl ⟨rfl,rfl⟩⟩
 · have hold:∀ (i:Nat) (x:FH) (b:Bool),(hs++[FH.mk r id (.slice none 0 0) lost (.slice none 0 0)])[i]?=some x→∀ q,(x.slot b).ownBlock=some q→hs[i]?=some x:=fun i x b hx q hq=>by
    by_cases hi:i<hs.length
    · rwa [List.getElem?_append_left hi] at hx
    · rw [List.getElem?_append_right (by omega)] at hx
      have:=List.mem_of_getElem? hx;simp at this;subst this;rw [hN] at hq;simp [Value.ownBlock] at hq
   intro hq';exact h4 i j b c x y (hold i x b hx q hq) (hold j y c hy q hq') hne q hq hq'
theorem qBa.at_ {g n c i:Nat} {f:Fat} (hv:v = .slice (some ⟨g,0,none⟩) n c) (h:qBa w L L2 v l) (hf:l[i]?=some f):∃ x:FH,FGood w L2 x f∧L≤g∧qBf w 67 g ∧
 (∀ j u,x.vals[j]?=some u→w.cell? ⟨g,i*5+j,none⟩=some u) ∧
 ∀ (b:Bool) (w5 w1:World) (v':Value) (y:Int),Ext w w5→w5.grownBy w1 (x.slot b).ownBlock→w1.ownsRow L2 2 1 v' ((f.slot b).length+1) ((f.slot b).flatMap intV++[.int .i64 y])→(v'.ownBlock=(x.slot b).ownBlock∨v'.ownBlock=some w5.heap.size) →
  qBa (w1.setCell ⟨g,i*5+slotO b,none⟩ v') L L2 v (l.modify i fun f=>f.push b y):=by
 obtain ⟨hs,h1,h2,h3,h4⟩:=h;subst hv;have hi:i<l.length:=(List.getElem?_eq_some_iff.1 hf).1;have hx:hs[i]?=some hs[i]:=List.getElem?_eq_getElem (by omega);have hg:=h3 i hs[i] f hx hf;have hty:qBf w 67 g:=qAj h1 g rfl;refine ⟨hs[i],hg,qAp h1 g rfl,hty,fun j u hu=>?_,fun b w5 w1 v' y qx hgr ho hloc=>?_⟩
 · obtain ⟨A',c',hv',-,-,hS,-⟩:=qBg (f:=FH.vals) (size:=5) FH.len h2 h1
   cases hv'
   obtain ⟨b',off,hA,hC⟩:=hS.2 (by omega)
   cases hA
   have:=hC i _ hx j u hu
   rwa [Nat.zero_add] at this
 · have hn:n=l.length:=by
    rcases h1.2 with ⟨hv,-⟩ | ⟨g',cap,cur,hv,-⟩
    · cases hv
    · injection hv
   subst hn;replace h1:=qAh h1 qx;(replace h3:=fun (i:Nat) (h:FH) (f:Fat) a b=>(h3 i h f a b).kb (KB.ext qx));replace hg:=hg.kb (KB.ext qx);replace hty:=hty.ext qx;have hslot:∀ q,((hs[i]'(by omega)).slot b).ownBlock=some q→qBf w5 2 q:=qAj (hg.row b);have hkF:KB 67 w5 w1:=KB.grown hgr hslot (by decide);have hty1:qBf w1 67 g:=hty.kb hkF;have hk2:KB 2 w1 (w1.setCell ⟨g,i*5+slotO b,none⟩ v'):=KB.set hty1 (by decide);have h1':=qDi h1 hkF;have hfl:=flat_set (f:=FH.vals) (size:=5) FH.len hs i (slotO b) hs[i] (hs[i].put b v') v' hx (FH.put_vals _ _ _) (by cases b<;>decide);refine ⟨hs.set i (hs[i].put b v'),?_,by simp [h2],fun j x f' hxj hfj=>?_,fun j k a d x z hxj hzk hne q hq hq'=>?_⟩
   · rw [List.length_modify,← hfl]
     exact (h1'.stored (i*5+slotO b) v').1
   · rw [List.getElem?_modify] at hfj
     by_cases hij:i=j
     · subst hij
       rw [List.getElem?_set_self (by omega)] at hxj;simp only [if_pos,hf,Option.map_eq_map,Option.map_some,Option.some.injEq] at hfj
       cases hxj
       subst hfj;refine ⟨?_,?_,?_,fun d=>?_⟩
       · have:=hg.reel;cases b<;>exact this
       · have:=hg.id;cases b<;>exact this
       · have:=hg.lost;cases b<;>exact this
       · rw [FH.put_slot,Fat.push_slot]
         by_cases hbd:b=d
         · subst hbd
           rw [if_pos rfl,if_pos rfl,List.length_append,List.flatMap_append];exact qDi ho hk2
         · rw [if_neg hbd,if_neg hbd]
           refine qDi ?_ hk2;exact own_other (hg.row d) hgr (fun q hq1 hq2=>h4 i i b d _ _ hx hx (fun e=>hbd e.2) q hq2 hq1)
     · rw [List.getElem?_set_ne hij] at hxj
       (have hfj':l[j]?=some f':=by simpa [hij] using hfj);have hgj:=h3 j x f' hxj hfj';refine ⟨hgj.reel,hgj.id,hgj.lost,fun d=>?_⟩;refine qDi ?_ hk2;exact own_other (hgj.row d) hgr (fun q hq1 hq2=>h4 i j b d _ _ hx hxj (fun e=>hij e.1) q hq2 hq1)
   · have key:∀ (j:Nat) (a:Bool) (x:FH),(hs.set i (hs[i].put b v'))[j]?=some x→((i=j∧b=a)∧x.slot a=v')∨(¬ (i=j∧b=a)∧∃ y,hs[j]?=some y∧x.slot a=y.slot a):=by
      intro j a x hxj
      by_cases hij:i=j
      · subst hij
        rw [List.getElem?_set_self (by omega)] at hxj
        cases hxj
        rw [FH.put_slot]
        by_cases hba:b=a
        · exact .inl ⟨⟨rfl,hba⟩,by rw [if_pos hba]⟩
        · exact .inr ⟨fun e=>hba e.2,hs[i],hx,by rw [if_neg hba]⟩
      · rw [List.getElem?_set_ne hij] at hxj
        exact .inr ⟨fun e=>hij e.1,x,hxj,rfl⟩
     have hlt:∀ (j:Nat) (a:Bool) (y:FH),hs[j]?=some y→∀ q,(y.slot a).ownBlock=some q→q<w5.heap.size:=fun j a y hy q hq=>by
      have hj:=(List.getElem?_eq_some_iff.1 hy).1;exact (qAj ((h3 j y l[j] hy (List.getElem?_eq_getElem (by omega))).row a) q hq).lt
     rcases key j a x hxj with ⟨e1,ex⟩ | ⟨e1,y1,hy1,ex⟩<;>rcases key k d z hzk with ⟨e2,ez⟩ | ⟨e2,y2,hy2,ez⟩
     · exact hne ⟨e1.1.symm.trans e2.1,e1.2.symm.trans e2.2⟩
     · rw [ex] at hq
       rw [ez] at hq'
       rcases hloc with hl | hl
       · rw [hl] at hq
         exact h4 i k b d _ _ hx hy2 e2 q hq hq'
       · rw [hl] at hq
         cases hq
         have:=hlt k d y2 hy2 _ hq';omega
     · rw [ex] at hq
       rw [ez] at hq'
       rcases hloc with hl | hl
       · rw [hl] at hq'
         exact h4 i j b a _ _ hx hy1 e1 q hq' hq
       · rw [hl] at hq'
         cases hq'
         have:=hlt j a y1 hy1 _ hq;omega
     · rw [ex] at hq
       rw [ez] at hq';exact h4 j k a d _ _ hy1 hy2 hne q hq hq'
theorem qBa.read (h:qBa w L L2 v l):∃ A c,v = .slice A l.length c∧l.length≤c∧qGi w A l.length l∧∀ ad,A=some ad→L≤ad.block:=by
 obtain ⟨hs,h1,h2,h3,-⟩:=h;obtain ⟨A,c,hv,hc,-,hS,hfr⟩:=qBg (f:=FH.vals) (size:=5) FH.len h2 h1;refine ⟨A,c,hv,hc,⟨rfl,fun hn=>?_⟩,hfr⟩;obtain ⟨b,off,hA,hC⟩:=hS.2 hn;refine ⟨b,off,hA,fun i f hf=>?_⟩;have hi:=(List.getElem?_eq_some_iff.1 hf).1;have hx:hs[i]?=some hs[i]:=List.getElem?_eq_getElem (by omega);have hg:=h3 i _ f hx hf;obtain ⟨pA,pc,hp,hpc,-,hpS,-⟩:=qBg (f:=intV) (size:=1) (fun _=>rfl) rfl (hg.row false);obtain ⟨sA,sc,hs',hsc,-,hsS,-⟩:=qBg (f:=intV) (size:=1) (fun _=>rfl) rfl (hg.row true);refine ⟨pA,pc,sA,sc,fun j u hu=>hC i _ hx j u ?_,hpS,hsS,hpc,hsc⟩;rw [← hu];have e1:hs[i].p = .slice pA f.parts.length pc:=hp;have e2:hs[i].s = .slice sA f.short.length sc:=hs';unfold FH.vals;rw [hg.reel,hg.id,hg.lost,e1,e2]
end
end
section
open Go.RowKit
def nIx (l:List Int) (x:Int):Int:=match l.findIdx? (fun y=>decide (y=x)) with | some k=>(k:Int) | none=>-1
theorem nIx_has (l:List Int) (x:Int):decide (nIx l x≥0)=decide (x∈l):=by
 unfold nIx
 cases h:l.findIdx? (fun y=>decide (y=x)) with
 | none =>
  have:=List.findIdx?_eq_none_iff.1 h
  have hg:¬ x∈l:=fun hg=>by
   have:=this x hg;simp at this
  simp [hg]
 | some k =>
  obtain ⟨hk,h1,-⟩:=List.findIdx?_eq_some_iff_getElem.1 h;(have h1:l[k]=x:=by simpa using h1);(have hg:x∈l:=by rw [← h1];exact List.getElem_mem hk);simp [hg]
theorem nIx_step {l:List Int} {k:Nat} {y x:Int} (hx:l[k]?=some y) (hp:∀ z∈l.take k,z≠x):(y=x→nIx l x=k)∧(y≠x→∀ z∈l.take (k+1),z≠x):=by
 obtain ⟨hk,hxk⟩:=List.getElem?_eq_some_iff.1 hx;refine ⟨fun h=>?_,fun h z hz=>?_⟩
 · have:l.findIdx? (fun y=>decide (y=x))=some k:=List.findIdx?_eq_some_iff_getElem.2 ⟨hk,by simp [hxk,h],fun j hj=>by
    have:=hp l[j] (List.mem_take_iff_getElem.2 ⟨j,by omega,rfl⟩)
    simp [this]⟩
   unfold nIx;rw [this]
 · rw [take_snoc' _ _ _ hx] at hz
   rcases List.mem_append.1 hz with hz | hz
   · exact hp z hz
   · simp at hz;subst hz;exact h
theorem nIx_none {l:List Int} {x:Int} (hp:∀ z∈l,z≠x):nIx l x = -1:=by
 unfold nIx;rw [List.findIdx?_eq_none_iff.2 (fun z hz=>by simpa using hp z hz)]
def NiRel (w:World) (n:Nat) (l:List Int) (x:Int) (i:Value) (wr:World):Prop:=∃ k:Nat,k≤n∧i = .int .i64 k∧Ext w wr∧∀ y∈l.take k,y≠x
theorem IntA.at1 {w:World} {A:Option Addr} {n:Nat} {l:List Int} (h:IntA w A n l) {i:Nat} (hi:i<n):∃ b off x,A=some ⟨b,off,none⟩∧l[i]?=some x∧w.cell? ⟨b,off+i,none⟩=some (.int .i64 x):=by
 obtain ⟨b,off,x,hA,hx,hC⟩:=h.at_ hi;exact ⟨b,off,x,hA,hx,by have:=hC 0 _ rfl;simpa using this⟩
set_option maxHeartbeats 4000000 in
theorem NIndex_any (A:Option Addr) (n c:Nat) (l:List Int) (x:Int) (w:World) (hl:IntA w A n l) (hn:n≤4611686018427387904) :
 Calls Tryz.prog 121 #[.slice A n c,.int .i64 x] w fun e w'=>e = .returned (.int .i64 (nIx l x))∧Ext w w':=by
 have HL:=gH hl;have HLn:=gH hl.len;clear hl;go_enter Tryz.func121,Tryz.ntmps121;go_wp2_with fail
 go_loopw [8] (fun i wr=>NiRel w n l x i wr) (fun i _=>n-(intOf i).toNat)
 case atStart=>exact ⟨0,Nat.zero_le _,rfl,Ext.refl _,by simp⟩
 case round =>
  obtain ⟨k,hk,rfl,hx,hp⟩:=hrel;have HX:=gH hx;have HP:=gH hp;clear hx hp
  by_cases hlt:k<n
  · obtain ⟨b,off,r,rfl,hr,c0⟩:=(HL.out.ext HX.out).at1 hlt
    have HS:=gH (nIx_step hr HP.out);(have hk0:(0:Int)≤(k:Int):=by omega);(have hk1:(k:Int)<(n:Int):=by omega);clear hr
    by_cases hq:r=x
    · have HT:=gH (HS.out.1 hq)
      (have he:(x == r)=true:=by simpa using hq.symm);clear hq;go_wp2_with fail;go_ret;exact ⟨qAa HT.out.symm,HX.out⟩
    · have HT:=gH (HS.out.2 hq)
      (have he:(x == r)=false:=by simpa using fun h=>hq (Eq.symm h));clear hq;go_wp2_with fail;exact ⟨⟨k+1,by omega,by go_num,HX.out,HT.out⟩,by simp [intOf];omega⟩
  · have hkn:k=n:=by omega
    subst hkn;have HT:Hid (nIx l x = -1):=nIx_none (fun y hy=>HP.out y (by rwa [List.take_of_length_le (by have:=HLn.out;omega)]));go_wp2_with fail;go_ret;exact ⟨qAa HT.out.symm,HX.out⟩
set_option maxHeartbeats 1000000 in
theorem NContains_any (A:Option Addr) (n c:Nat) (l:List Int) (x:Int) (w:World) (hl:IntA w A n l) (hn:n≤4611686018427387904) :
 Calls Tryz.prog 60 #[.slice A n c,.int .i64 x] w fun e w'=>e = .returned (.bool (decide (x∈l)))∧Ext w w':=by
 have HI:=gH (NIndex_any A n c l x w hl hn);have HF:=gH (nIx_has l x);clear hl;generalize nIx l x=ix at *;go_enter Tryz.func60,Tryz.ntmps60;go_wp2_with fail;refine HI.out.mono ?_;rintro e w1 ⟨rfl,hx⟩;have HX1:=gH hx;clear hx;go_wp2_with fail;go_ret;exact ⟨qAg HF.out,HX1.out⟩
def orig (l:List Fat) (id:Int):ByteArray × Int × Bool:=match l.find? (fun f=>decide (id∈f.parts)) with | some f=>(f.reel,f.id,true) | none=>(⟨#[]⟩,0,false)
theorem orig_drop {l:List Fat} {k:Nat} {f:Fat} {id:Int} (h:l[k]?=some f):orig (l.drop k) id=if id∈f.parts then (f.reel,f.id,true) else orig (l.drop (k+1)) id:=by
 rw [qDe l k f h];unfold orig;rw [List.find?_cons]
 by_cases hc:id∈f.parts
 · simp [hc]
 · simp [hc]
def OrRel (w:World) (n:Nat) (l:List Fat) (id:Int) (i:Value) (wr:World):Prop:=∃ k:Nat,k≤n∧i = .int .i64 k∧Ext w wr∧orig l id=orig (l.drop k) id
structure qIh (l:List Fat):Prop where
 parts:∀ f∈l,f.parts.length≤4611686018427387904
 short:∀ f∈l,f.short.length≤4611686018427387904
theorem qGi.at5 {w:World} {A:Option Addr} {n:Nat} {l:List Fat} (h:qGi w A n l) {i:Nat} (hi:i<n):∃ b off f pA pc sA sc,A=some ⟨b,off,none⟩∧l[i]?=some f∧IntA w pA f.parts.length f.parts∧IntA w sA f.short.length f.short ∧
 (w.cell? ⟨b,off+i*5,none⟩=some (.string f.reel)∧w.cell? ⟨b,off+i*5+1,none⟩=some (.int .i64 f.id)∧w.cell? ⟨b,off+i*5+2,none⟩=some (.slice pA f.parts.length pc)∧w.cell? ⟨b,off+i*5+3,none⟩=some (.int .i64 f.lost)∧w.cell? ⟨b,off+i*5+4,none⟩=some (.slice sA f.short.length sc)):=by
 obtain ⟨b,off,f,hA,hf,pA,pc,sA,sc,hC,h1,h2,-,-⟩:=h.at_ hi;exact ⟨b,off,f,pA,pc,sA,sc,hA,hf,h1,h2,by simpa using hC 0 _ rfl,hC 1 _ rfl,hC 2 _ rfl,hC 3 _ rfl,hC 4 _ rfl⟩
set_option maxHeartbeats 4000000 in
theorem Origin_any (A:Option Addr) (n c:Nat) (l:List Fat) (id:Int) (w:World) (hl:qGi w A n l) (hn:n≤1000000) (hf:qIh l) :
 Calls Tryz.prog 27 #[.slice A n c,.int .i64 id] w fun e w'=>e = .returned (.tuple #[.string (orig l id).1,.int .i64 (orig l id).2.1,.bool (orig l id).2.2])∧Ext w w':=by
 have HL:=gH hl;have HLn:=gH hl.len;have HF:=gH hf;clear hl hf;go_enter Tryz.func27,Tryz.ntmps27;go_wp2_with fail
 go_loopw [11] (fun i wr=>OrRel w n l id i wr) (fun i _=>n-(intOf i).toNat)
 case atStart=>exact ⟨0,Nat.zero_le _,rfl,Ext.refl _,by simp⟩
 case round =>
  obtain ⟨k,hk,rfl,hx,hp⟩:=hrel;have HX:=gH hx;have HP:=gH hp;clear hx hp
  by_cases hlt:k<n
  · obtain ⟨b,off,f,pA,pc,sA,sc,rfl,hfk,hP1,-,c0,c1,c2,c3,c4⟩:=(HL.out.ext HX.out).at5 hlt
    have HD:=gH (orig_drop (id:=id) hfk);have HBf:=gH (Blk.new wr 67 #[.string f.reel,.int .i64 f.id,.slice pA f.parts.length pc,.int .i64 f.lost,.slice sA f.short.length sc]);have HXf:=gH ((Ext.refl wr).alloc (.cells #[.string f.reel,.int .i64 f.id,.slice pA f.parts.length pc,.int .i64 f.lost,.slice sA f.short.length sc] 67));have HC:=gH (NContains_any pA f.parts.length pc f.parts id _ (hP1.ext HXf.out) (HF.out.parts f (List.mem_of_getElem? hfk)));clear hfk hP1;obtain ⟨np,hnp⟩:∃ np,np=f.parts.length:=⟨_,rfl⟩;rw [← hnp] at HBf HXf HC c2;clear hnp;go_wp2_with fail;refine HC.out.mono ?_;rintro e w2 ⟨rfl,hx2⟩;have HX2:=gH (HXf.out.trans hx2);have HB2:=gH (HBf.out.ext hx2);(have hcl:=fun o=>HB2.out.cell o);clear hx2 HC
    by_cases hin:id∈f.parts
    · have g1:decide (id∈f.parts)=true:=decide_eq_true hin
      (have HR:Hid (orig l id=(f.reel,f.id,true)):=by show _=_;rw [HP.out,HD.out,if_pos hin]);clear hin;go_wp2_with fail;go_quiet (fail);go_wp2_with fail;go_ret3;exact ⟨by rw [HR.out];rfl,(HX.out.trans HX2.out).drewN _⟩
    · have g1:decide (id∈f.parts)=false:=decide_eq_false hin
      (have HR:Hid (orig l id=orig (l.drop (k+1)) id):=by show _=_;rw [HP.out,HD.out,if_neg hin]);clear hin;go_wp2_with fail;exact ⟨⟨k+1,by omega,by go_num,HX.out.trans HX2.out,HR.out⟩,by simp [intOf];omega⟩
  · have hkn:k=n:=by omega
    subst hkn;(have HR:Hid (orig l id=(⟨#[]⟩,0,false)):=by show _=_;rw [HP.out,List.drop_eq_nil_of_le (by have:=HLn.out;omega)];rfl);go_wp2_with fail;go_ret3;exact ⟨by rw [HR.out];rfl,HX.out⟩
end
section
open Go.RowKit
def TabU (w : World) : Prop := Lib.TabIs Tryz.prog w "internal/strconv.uint64pow10" .u64 Lib.pow10Tab
theorem TabU.ext {w w1:World} (h:TabU w) (k:Ext w w1):TabU w1:=by
 unfold TabU Lib.TabIs World.var? at *
 cases hg : Tryz.prog.globalNamed "internal/strconv.uint64pow10" with
 | none=>rw [hg] at h;simp at h
 | some g =>
  rw [hg] at h;simp only [Option.bind_some] at h ⊢
  cases hb:w.heap[g]? with
  | none=>rw [hb] at h;simp at h
  | some o =>
   rw [k.block g (Array.getElem?_eq_some_iff.1 hb).1];exact h
def decB (n:Int):ByteArray:=⟨(Lib.itoa n).toArray⟩
theorem fmtInt_any (n:Int) (w:World) (h0:-9223372036854775808≤n) (h1:n≤9223372036854775807) (ht:TabU w):Calls Tryz.prog 189 #[.int .i64 n,.int .i64 10] w fun e w'=>e = .returned (.string (decB n))∧Ext w w':=by
 refine (Tryz.internal_strconv_FormatInt_10 n h0 h1 w ht).mono ?_;rintro e w' ⟨rfl,k,os,rfl⟩;exact ⟨rfl,(Extd.of_grow w k os).ext⟩
set_option maxHeartbeats 1000000 in
theorem qHn (n:Int) (w:World) (h0:-9223372036854775808≤n) (h1:n≤9223372036854775807) (ht:TabU w):Calls Tryz.prog 63 #[.int .i64 n] w fun e w'=>e = .returned (.string (decB n))∧Ext w w':=by
 have HF:=gH (fmtInt_any n w h0 h1 ht);clear h0 h1 ht
 have HS:Hid (Calls Tryz.prog 124 #[.int .i64 n,.int .i64 10] w fun e w'=>e = .returned (.string (decB n))∧Ext w w'):=by
  show Calls _ _ _ _ _
  go_enter Tryz.func124,Tryz.ntmps124;go_wp2_with fail;refine HF.out.mono ?_;rintro e w1 ⟨rfl,hx⟩;go_wp2_with fail;go_ret;exact ⟨rfl,hx⟩
 go_enter Tryz.func63,Tryz.ntmps63;go_wp2_with fail;refine HS.out.mono ?_;rintro e w1 ⟨rfl,hx⟩;go_wp2_with fail;go_ret;exact ⟨rfl,hx⟩
def wordN (p:Nat) (lost:Int):ByteArray:=if p=0 then ⟨#[68,82,79,80,80,69,68]⟩ else if 1<p then ⟨#[83,80,76,73,84]⟩ else if 0<lost then ⟨#[83,72,79,82,84,69,78,69,68]⟩ else ⟨#[75,69,80,84]⟩
set_option maxHeartbeats 1000000 in
theorem Word_any (r:ByteArray) (id:Int) (pA sA:Option Addr) (pn pc:Nat) (lost:Int) (sn sc:Nat) (w:World) :
 Calls Tryz.prog 64 #[.agg #[.string r,.int .i64 id,.slice pA pn pc,.int .i64 lost,.slice sA sn sc]] w fun e w'=>e = .returned (.string (wordN pn lost))∧Ext w w':=by
 have HX:=gH ((Ext.refl w).alloc (.cells #[.string r,.int .i64 id,.slice pA pn pc,.int .i64 lost,.slice sA sn sc] 67))
 by_cases h0:pn=0
 · have g0:((pn:Int) == 0)=true:=by simp;omega
   have HW:Hid (wordN pn lost=⟨#[68,82,79,80,80,69,68]⟩):=if_pos h0;clear h0;go_enter Tryz.func64,Tryz.ntmps64;go_wp2_with fail;go_ret;exact ⟨by rw [HW.out];rfl,HX.out⟩
 have g0:((pn:Int) == 0)=false:=by simp;omega
 by_cases h1:1<pn
 · have g1:decide ((pn:Int) > 1)=true:=decide_eq_true (by omega)
   have g1':decide ((1:Int)<pn)=true:=decide_eq_true (by omega);have HW:Hid (wordN pn lost=⟨#[83,80,76,73,84]⟩):=(if_neg h0).trans (if_pos h1);clear h0 h1;go_enter Tryz.func64,Tryz.ntmps64;go_wp2_with fail;go_ret;exact ⟨by rw [HW.out];rfl,HX.out⟩
 have g1:decide ((pn:Int) > 1)=false:=decide_eq_false (by omega);have g1':decide ((1:Int)<pn)=false:=decide_eq_false (by omega)
 by_cases h2:0<lost
 · have g2:decide (lost > 0)=true:=decide_eq_true h2
   have g2':decide (0<lost)=true:=decide_eq_true h2;have HW:Hid (wordN pn lost=⟨#[83,72,79,82,84,69,78,69,68]⟩):=(if_neg h0).trans ((if_neg h1).trans (if_pos h2));clear h0 h1 h2;go_enter Tryz.func64,Tryz.ntmps64;go_wp2_with fail;go_ret;exact ⟨by rw [HW.out];rfl,HX.out⟩
 · have g2:decide (lost > 0)=false:=decide_eq_false h2
   have g2':decide (0<lost)=false:=decide_eq_false h2;have HW:Hid (wordN pn lost=⟨#[75,69,80,84]⟩):=(if_neg h0).trans ((if_neg h1).trans (if_neg h2));clear h0 h1 h2;go_enter Tryz.func64,Tryz.ntmps64;go_wp2_with fail;go_ret;exact ⟨by rw [HW.out];rfl,HX.out⟩
end
section
open Go.RowKit Go.ChangeShapes Go.WideShapes Go.ChangeAt
set_option maxRecDepth 100000
theorem env_of5 {W : World} (h : laidMet Tryz.prog [("math/bits.deBruijn32tab", Rows.laid_math_bits_deBruijn32tab), ("math/bits.deBruijn64tab", Rows.laid_math_bits_deBruijn64tab), ("internal/strconv.uint64pow10", Rows.laid_internal_strconv_uint64pow10), ("unicode/utf8.acceptRanges", Rows.laid_unicode_utf8_acceptRanges), ("unicode/utf8.first", Rows.laid_unicode_utf8_first)] W) (hs : W.ShapedOpen Tryz.prog) : Env W := by
 refine ⟨?_,?_⟩
 · have h1 := Lib.laidMet.reads h (n := "unicode/utf8.first") (d := Rows.laid_unicode_utf8_first) (by simp)
   have h2 := Lib.laidMet.reads h (n := "unicode/utf8.acceptRanges") (d := Rows.laid_unicode_utf8_acceptRanges) (by simp)
   rw [first_same] at h1;rw [accept_same] at h2;exact utf8Tabs_of_readsT (U8Types.of196 Tryz.laysValid) u8extra h1 h2
 · obtain ⟨cs,hh,hz,hr⟩:=hs.1 2 #[.int .i64 0] 3 (of_decide_eq_true (by kernel_rfl)) (by kernel_rfl)
   obtain ⟨ts,hts,_,hall⟩:=hr (by kernel_rfl);(have h1:0<cs.size:=by rw [hz];decide);(have e:Tryz.prog.cellTypes Tryz.prog.depth 3=some [3]:=by kernel_rfl);rw [e] at hts
   cases hts
   obtain ⟨u,hu',hok⟩:=hall 0 cs[0] (by simp [h1]);(have:u=3:=by simpa using hu'.symm);subst this;(have hcell:W.cell? ⟨2,0,none⟩=some cs[0]:=by simp [World.cell?,hh,h1]);rw [hcell];unfold Cell.ok at hok;rw [Tryz.underlying3] at hok
   cases hv:cs[0]<;>rw [hv] at hok<;>first | (simp at hok;done) | skip
   rename_i k m;simp at hok;exact ⟨m,by rw [hok.1]⟩
theorem tab_of5 {W : World} (h : laidMet Tryz.prog [("math/bits.deBruijn32tab", Rows.laid_math_bits_deBruijn32tab), ("math/bits.deBruijn64tab", Rows.laid_math_bits_deBruijn64tab), ("internal/strconv.uint64pow10", Rows.laid_internal_strconv_uint64pow10), ("unicode/utf8.acceptRanges", Rows.laid_unicode_utf8_acceptRanges), ("unicode/utf8.first", Rows.laid_unicode_utf8_first)] W) : TabU W := by
 obtain ⟨g', t', cs, fuel, p, hg', ht', hvar, hd⟩ := Lib.laidMet.reads h (n := "internal/strconv.uint64pow10") (d := Rows.laid_internal_strconv_uint64pow10) (by simp)
 have e1:(Rows.laid_internal_strconv_uint64pow10:DataW Unit)=Lib.tabData .u64 Lib.pow10Tab:=by kernel_rfl
 have hgg : Tryz.prog.globalNamed "internal/strconv.uint64pow10" = some 3 := by kernel_rfl
 obtain rfl:=Option.some.inj (hgg.symm.trans hg');(have hty:(Tryz.prog.globals[3]?).map (·.type)=some 304:=by kernel_rfl);obtain rfl:=Option.some.inj (hty.symm.trans ht');rw [e1] at hd;have hc:=Lib.cells_of_tab Tryz.underlying304 Tryz.underlying192 (by kernel_rfl) (by kernel_rfl) hd;unfold TabU Lib.TabIs;rw [hvar];exact congrArg some (Array.toList_inj.1 (by simpa using hc))
def litVals:List (DataW Unit)→List Value
 | .lit (.int k z) :: r=>.int k z :: litVals r
 | _=>[]
def aggVals:DataW Unit→List Value
 | .agg l=>litVals l
 | _=>[]
def layTab (d:DataW Unit):Obj→Obj
 | .cells _ t frozen=>.cells (aggVals d).toArray t frozen
 | o=>o
noncomputable def qMd (os:Os):World :=
 { laidWorld os with heap:=(((laidWorld os).heap.modify 3 (layTab Rows.laid_internal_strconv_uint64pow10)).modify 4 (layTab Rows.laid_math_bits_deBruijn32tab)).modify 5 (layTab Rows.laid_math_bits_deBruijn64tab) }
theorem openK_doc (W:World):qCa Tryz.prog W 52 (fun k cs (d:Doc)=>k≤1048576→∃ h,cs=(Doc.cells d h).toList∧qHy W d h∧DocIn d h):=by
 intro H enc fuel cs x h hw
 by_cases hk:Rows.uptoBulk x.1≤1048576
 case neg=>exact ⟨Doc.blank,fun h=>absurd h hk⟩
 obtain ⟨hl,ks,hks,hkl,hf⟩:=qCa.fields Tryz.underlying52 h hw;rw [qJl] at hl;obtain ⟨v0,v1,v2,v3,v4,v5,v6,v7,he⟩:=list_8 (show cs.length=8 from hl);obtain ⟨k0,k1,k2,k3,k4,k5,k6,k7,rfl⟩:=list_8 (show ks.length=8 from hkl);obtain ⟨a0,h0,s0⟩:=hf 0 _ rfl (qCa.string Tryz.underlying9);obtain ⟨a1,h1,s1⟩:=hf 1 _ rfl (qCa.string Tryz.underlying9);obtain ⟨a2,h2,s2⟩:=hf 2 _ rfl (.of (qBr.int Tryz.underlying22));obtain ⟨a3,h3⟩:=hf 3 _ rfl (.of (qBr.bool Tryz.underlying4));obtain ⟨a4,h4,s4⟩:=hf 4 _ rfl (.of (qBr.int Tryz.underlying2))
 obtain ⟨⟨regs,A5,n5,c5⟩,h5,r5,r6,r7,r8⟩:=hf 5 _ rfl (R:=fun k cs (r:List Reg × Option Addr × Nat × Nat)=>cs=[.slice r.2.1 r.2.2.1 r.2.2.2]∧r.2.2.1≤r.2.2.2∧r.2.2.1*56≤140737488355328∧qDs W r.2.1 r.2.2.1 r.1∧qGg r.1) (fun H enc fuel cs x h hw=>by
  obtain ⟨A,n,c,l,hc,hnc,hcm,hb,hs⟩:=qBr.slice Tryz.underlying48 qNc (by decide) bytes_region (open_region W) h hw;refine ⟨(l,A,n,c),hc,hnc,(show n*56≤140737488355328 by simp only [reachBytes] at hb;omega),Sl.change (D:=RegC) hs fun b o r hm=>?_,show ∀ r∈l,r.name.size≤9223372036854775807 from hs.all (p:=fun r:Reg=>r.name.size≤9223372036854775807) fun b o r hm=>?_⟩
  · obtain ⟨cs,h1,h2,_⟩:=hm
    subst h2;exact ⟨h1 0 _ rfl,h1 1 _ rfl,h1 2 _ rfl,h1 3 _ rfl,h1 4 _ rfl,h1 5 _ rfl,h1 6 _ rfl⟩
  · obtain ⟨cs,_,_,h3⟩:=hm
    omega)
 obtain ⟨⟨evs,A6,n6,c6⟩,h6,e5,e6,e7,e8⟩:=hf 6 _ rfl (R:=fun k cs (r:List Ev × Option Addr × Nat × Nat)=>cs=[.slice r.2.1 r.2.2.1 r.2.2.2]∧r.2.2.1≤r.2.2.2∧r.2.2.1*2≤k∧qKw W r.2.1 r.2.2.1 r.1∧∀ e∈r.1,e.bulk≤k∧e.Nums) (fun H enc fuel cs x h hw=>by
  obtain ⟨A,n,c,l,hc,hnc,hcm,hb,hs,hk⟩:=qCa.slice Tryz.underlying49 qOo (by decide) bytes_event (openK_event2 W) h hw;have hall:=hs.all (p:=fun p:Ev × Nat=>p.1.bulk+2≤p.2∧p.1.Nums) (fun b o q hm=>by obtain ⟨_,_,_,h3,h4⟩:=hm;exact ⟨h3,h4⟩);have h2:=sum_ge (n:=2) (l:=l) (fun p hp=>by have:=(hall p hp).1;omega);have hln:l.length=n:=hs.len;refine ⟨(l.map (fun p:Ev × Nat=>p.1),A,n,c),hc,hnc,(show n*2≤_ by omega),Sl.mapK (D:=EvC) hs fun b o p hm=>?_,fun e he=>?_⟩
  · obtain ⟨cs,h1,⟨A',n',c',h2,h3⟩,_⟩:=hm
    subst h2;exact ⟨A',n',c',h1,h3⟩
  · obtain ⟨p,hp,rfl⟩:=List.mem_map.1 he
    have h3:=hall p hp;have h4:=mem_le hp
    exact ⟨by omega,h3.2⟩)
 obtain ⟨⟨coms,A7,n7,c7⟩,h7,m5,m6,m7,m8⟩:=hf 7 _ rfl (R:=fun k cs (r:List Com × Option Addr × Nat × Nat)=>cs=[.slice r.2.1 r.2.2.1 r.2.2.2]∧r.2.2.1≤r.2.2.2∧r.2.2.1*2≤k∧qJk W r.2.1 r.2.2.1 r.1∧∀ c∈r.1,c.author.size+c.text.size≤k∧c.Nums) (fun H enc fuel cs x h hw=>by
  obtain ⟨A,n,c,l,hc,hnc,hcm,hb,hs,hk⟩:=qCa.slice Tryz.underlying50 qLe (by decide) bytes_comment (openK_com W) h hw;have hall:=hs.all (p:=fun p:Com × Nat=>p.1.author.size+p.1.text.size+2≤p.2∧p.1.Nums) (fun b o q hm=>by obtain ⟨_,_,_,h3,h4⟩:=hm;exact ⟨h3,h4⟩);have h2:=sum_ge (n:=2) (l:=l) (fun p hp=>by have:=(hall p hp).1;omega);have hln:l.length=n:=hs.len;refine ⟨(l.map (fun p:Com × Nat=>p.1),A,n,c),hc,hnc,(show n*2≤_ by omega),Sl.mapK (D:=Cells Com.vals) hs fun b o p hm=>?_,fun e he=>?_⟩
  · obtain ⟨cs,h1,h2,_⟩:=hm
    subst h2;exact h1
  · obtain ⟨p,hp,rfl⟩:=List.mem_map.1 he
    have h3:=hall p hp;have h4:=mem_le hp
    exact ⟨by omega,h3.2⟩)
 rw [he] at h0 h1 h2 h3 h4 h5 h6 h7;simp [qCz,qHe,qEw,cells_rateD,cells_regs,cells_evts,cells_coms] at h0 h1 h2 h3 h4 h5 h6 h7 s0 s1 e6 e8 m6 m8 hks;have n2:=bounds_u8 s2;subst h0 h1 h2 h3 h4 h5 h6 h7;dsimp only at *;exact ⟨⟨a0,a1,a2,a3,a4,regs,evs,coms⟩,fun _=>⟨⟨A5,n5,c5,A6,n6,c6,A7,n7,c7⟩,he,⟨r7,e7,m7⟩,⟨⟨⟨n2.1,n2.2,by simp only;omega,by simp only;omega⟩,r8,fun e hm=>ev_small (by have:=(e8 e hm).1;omega),fun e hm=>(e8 e hm).2.1,fun c hm=>⟨(m8 c hm).2.1,(m8 c hm).2.2.1,by have:=(m8 c hm).1;omega,by have:=(m8 c hm).1;omega⟩⟩,fun e hm=>(e8 e hm).2,fun c hm=>(m8 c hm).2,bounds_i64 s4,by simp only;omega,by simp only;omega,by simp only;omega,⟨r5,r6⟩,e5,m5⟩⟩⟩
def RDocInC (w:World) (b o:Nat) (d:RDoc):Prop:=∃ h:DocH,(∀ j u,(d.cells h).toList[j]?=some u→w.cell? ⟨b,o+j,none⟩=some u)∧qHy w d.doc h∧DocIn d.doc h
theorem RDocInC.stays:Stays RDocInC:=fun _ _ _ _ _ k ⟨h,h1,h2,h3⟩=>⟨h,fun j u hu=>k.cell (h1 j u hu),h2.ext k,h3⟩
def qEt (w:World) (A:Option Addr) (n:Nat) (l:List RDoc):Prop:=Sl w 9 RDocInC A n l
theorem qEt.ext {w w1:World} {A:Option Addr} {n:Nat} {l:List RDoc} (h:qEt w A n l) (k:Ext w w1):qEt w1 A n l:=Sl.ext RDocInC.stays h k
theorem qEt.at_cells {w:World} {A:Option Addr} {n:Nat} {l:List RDoc} (h:qEt w A n l) {i:Nat} (hi:i<n):∃ b off d k,A=some ⟨b,off,none⟩∧l[i]?=some d∧qHy w d.doc k∧DocIn d.doc k ∧
 (w.cell? ⟨b,off+i*9,none⟩=some (.string d.reel)∧w.cell? ⟨b,off+i*9+1,none⟩=some (.string d.doc.title)∧w.cell? ⟨b,off+i*9+2,none⟩=some (.string d.doc.lang)∧w.cell? ⟨b,off+i*9+3,none⟩=some (.int .u8 d.doc.rate) ∧
  w.cell? ⟨b,off+i*9+4,none⟩=some (.bool d.doc.drop)∧w.cell? ⟨b,off+i*9+5,none⟩=some (.int .i64 d.doc.last)∧w.cell? ⟨b,off+i*9+6,none⟩=some (.slice k.ra k.rn k.rc)∧w.cell? ⟨b,off+i*9+7,none⟩=some (.slice k.ea k.en k.ec)∧w.cell? ⟨b,off+i*9+8,none⟩=some (.slice k.ca k.cn k.cc)):=by
 obtain ⟨b,off,d,hA,hd,k,hC,h1,h2⟩:=h.at_ hi;exact ⟨b,off,d,k,hA,hd,h1,h2,by simpa using hC 0 _ rfl,hC 1 _ rfl,hC 2 _ rfl,hC 3 _ rfl,hC 4 _ rfl,hC 5 _ rfl,hC 6 _ rfl,hC 7 _ rfl,hC 8 _ rfl⟩
theorem qEt.docs {w:World} {A:Option Addr} {n:Nat} {l:List RDoc} (h:qEt w A n l) (hr:∀ d∈l,d.doc.regs.length≤1000000):qCw w A n l:=by
 refine ⟨h.1,fun hn=>?_⟩;obtain ⟨b,off,hA,hC⟩:=h.2 hn;refine ⟨b,off,hA,fun i d hd=>?_⟩;obtain ⟨k,h1,h2,h3⟩:=hC i d hd;exact ⟨k,h1,h2,by have:=hr d (List.mem_of_getElem? hd);have:=h2.regs.len;omega,h3.en,h3.cn⟩
theorem qEt.fit {w:World} {A:Option Addr} {n:Nat} {l:List RDoc} (h:qEt w A n l):∀ d∈l,DocFit d.doc:=by
 intro d hd;obtain ⟨i,hi⟩:=List.getElem?_of_mem hd;(have hlt:i<n:=by have:=h.1;have:=(List.getElem?_eq_some_iff.1 hi).1;omega);obtain ⟨_,_,d',_,_,hd',_,hin,_⟩:=h.at_cells hlt;rw [hi] at hd'
 cases hd'
 exact hin.fit
theorem cells_rdoc:Tryz.prog.cellsOf 58=9:=by kernel_rfl
theorem bytes_rdoc:Tryz.prog.bytesOf 58=136:=by kernel_rfl
theorem openK_rdoc (W:World):qCa Tryz.prog W 58 (fun k cs (d:RDoc)=>1≤k∧(k≤1048576→(∃ h,cs=(d.cells h).toList∧qHy W d.doc h∧DocIn d.doc h)∧d.reel.size≤k)):=by
 intro H enc fuel cs x h hw;obtain ⟨hl,ks,hks,hkl,hf⟩:=qCa.fields Tryz.underlying58 h hw;rw [cells_rdoc] at hl;obtain ⟨k0,k1,rfl⟩:=qEo (show ks.length=2 from hkl);obtain ⟨a0,h0,s0⟩:=hf 0 _ rfl (qCa.string Tryz.underlying9);obtain ⟨a1,h1⟩:=hf 1 _ rfl (openK_doc W);simp [qCz,qJl] at h0 h1 s0 hks;refine ⟨⟨a0,a1⟩,by omega,fun hk=>⟨?_,by simp only;omega⟩⟩;obtain ⟨hh,h2,h3,h4⟩:=h1 (by omega);refine ⟨hh,?_,h3,h4⟩
 have e1:cs=cs.take 1++(cs.drop 1).take 8:=by
  rw [List.take_of_length_le (l:=cs.drop 1) (by simp;omega),List.take_append_drop]
 rw [e1,List.drop_one,h2,h0];rfl
theorem argK_rdocs {H:Type} {enc:TypeId × Value→H} {W:World} {base:Nat} {v:Value} {d:DataW H} {p:List MemPlace} (hv:Value.okWide Tryz.prog W .any base 44 v) (h:DataW.Trod enc Tryz.prog W 0 (fun _=>true) true 44 v d p)
 (hw:∀ n∈d.weights Tryz.prog 44,n≤reachBytes) (hk:Rows.uptoBulk d≤1048576):∃ A n c l,v = .slice A n c∧n≤c∧n≤1048576∧qEt W A n l∧∀ d∈l,d.reel.size≤1048576:=by
 obtain ⟨fuel,h⟩:=h;obtain ⟨A,n,c,l,hc,hnc,hcm,hb,hs,hbk⟩:=qCa.slice Tryz.underlying44 cells_rdoc (by decide) bytes_rdoc (openK_rdoc W) h hw;dsimp only at hbk
 have hv':v = .slice A n c:=by
  unfold Value.okWide at hv;rw [Tryz.underlying44] at hv
  cases v<;>simp [Value.cells] at hc<;>first | (obtain ⟨h1,h2,h3⟩:=hc;subst h1 h2 h3;rfl) | (simp [Cell.okWide,Tryz.underlying44,Cell.ok] at hv)
 have hall:=hs.all (p:=fun p:RDoc × Nat=>1≤p.2∧(p.2≤1048576→p.1.reel.size≤p.2)) (fun b o q hm=>by obtain ⟨_,_,h3,h4⟩:=hm;exact ⟨h3,fun hq=>(h4 hq).2⟩);have h2:=sum_ge (n:=1) (l:=l) (fun p hp=>(hall p hp).1);have hln:l.length=n:=hs.len;refine ⟨A,n,c,l.map (fun p:RDoc × Nat=>p.1),hv',hnc,by omega,?_,fun d hd=>?_⟩
 · refine ⟨by simpa using hs.1,fun hn=>?_⟩
   obtain ⟨b,off,hA,hC⟩:=hs.2 hn;refine ⟨b,off,hA,fun i x hx=>?_⟩;rw [List.getElem?_map,Option.map_eq_some_iff] at hx;obtain ⟨q,hq,rfl⟩:=hx;obtain ⟨cs,h1,h3,h4⟩:=hC i q hq;have h5:=mem_le (List.mem_of_getElem? hq);obtain ⟨⟨hh,h6,h7,h8⟩,_⟩:=h4 (by omega);subst h6;exact ⟨hh,h1,h7,h8⟩
 · obtain ⟨q,hq,rfl⟩:=List.mem_map.1 hd
   have h5:=mem_le hq;have:=(hall q hq).2 (by omega);omega
end
section
open Go.RowKit
def sumR (l:List RDoc):Nat:=(l.map fun d=>d.doc.evs.length+(d.doc.regs.length+d.doc.coms.length)).sum
theorem sumR_take {l:List RDoc} {k:Nat} {d:RDoc} (h:l[k]?=some d):sumR (l.take (k+1))=sumR (l.take k)+(d.doc.evs.length+(d.doc.regs.length+d.doc.coms.length)):=by
 unfold sumR;rw [take_snoc' _ _ _ h];simp
theorem sumR_mem:∀ {l:List RDoc} {d:RDoc},d∈l→d.doc.evs.length+(d.doc.regs.length+d.doc.coms.length)≤sumR l
 | [],_,h=>by simp at h
 | x :: l,d,h=>by
  unfold sumR;simp only [List.map_cons,List.sum_cons]
  rcases List.mem_cons.1 h with rfl | h
  · omega
  · have:=sumR_mem h
    unfold sumR at this;omega
def qEs (docs:List RDoc) (e:Edl):Bool:=decide (docs.length≤20∧e.cuts.length≤20∧e.title.size≤500∧sumR docs≤80)
theorem small46_1 {docs:List RDoc} {e:Edl} (h:¬ docs.length≤20):qEs docs e=false:=decide_eq_false fun k=>h k.1
theorem small46_2 {docs:List RDoc} {e:Edl} (h:¬ e.cuts.length≤20):qEs docs e=false:=decide_eq_false fun k=>h k.2.1
theorem small46_3 {docs:List RDoc} {e:Edl} (h:¬ e.title.size≤500):qEs docs e=false:=decide_eq_false fun k=>h k.2.2.1
theorem small46_4 {docs:List RDoc} {e:Edl} (h1:docs.length≤20) (h2:e.cuts.length≤20) (h3:e.title.size≤500):qEs docs e=decide (sumR docs≤80):=by
 unfold qEs
 by_cases h:sumR docs≤80
 · rw [decide_eq_true h,decide_eq_true ⟨h1,h2,h3,h⟩]
 · rw [decide_eq_false h,decide_eq_false fun k=>h k.2.2.2]
def SmlRel (w:World) (n:Nat) (l:List RDoc) (v i:Value) (wr:World):Prop:=∃ k:Nat,k≤n∧i = .int .i64 k∧v = .int .i64 (sumR (l.take k))∧sumR (l.take k)≤k*9223372036854∧Ext w wr
theorem docIn_sizes {d:Doc} {h:DocH} {w:World} (hi:DocIn d h) (ha:qHy w d h):d.evs.length=h.en∧d.regs.length=h.rn∧d.coms.length=h.cn∧h.en+(h.rn+h.cn)≤9223372036854:=by
 have h1:=ha.evs.len;have h2:=ha.regs.len;have h3:=ha.coms.len;have h4:=hi.en;have h5:=hi.cn;have h6:=hi.rc.2;exact ⟨h1,h2,h3,by omega⟩
set_option maxHeartbeats 2000000 in
theorem small46_any (docs:List RDoc) (A:Option Addr) (n c:Nat) (e:Edl) (B:Option Addr) (m d:Nat) (w:World) (hl:qEt w A n docs) (he:qBd w B m e.cuts) :
 Calls Tryz.prog 23 #[.slice A n c,.agg (e.cells B m d)] w fun en w'=>en = .returned (.bool (qEs docs e))∧Ext w w':=by
 have HX:=gH ((Ext.refl w).alloc (.cells (e.cells B m d) 25));(have hcb:=fun o=>(Blk.new w 25 (e.cells B m d)).cell o);have hL1:docs.length=n:=hl.1;have hL2:e.cuts.length=m:=he.1;have HL:=gH (hl.ext HX.out);unfold Edl.cells at *
 by_cases h1:n≤20
 case neg =>
  (have h1i:¬ (n:Int)≤20:=by omega);have HG:Hid (qEs docs e=false):=small46_1 (by omega);clear hL1 hL2 h1 hl he;go_enter Tryz.func23,Tryz.ntmps23;go_wp2_with fail;go_ret;exact ⟨by rw [HG.out];rfl,HX.out⟩
 have h1i:(n:Int)≤20:=by omega
 by_cases h2:m≤20
 case neg =>
  (have h2i:¬ (m:Int)≤20:=by omega);have HG:Hid (qEs docs e=false):=small46_2 (by omega);clear hL1 hL2 h2 hl he;go_enter Tryz.func23,Tryz.ntmps23;go_wp2_with fail;go_ret;exact ⟨by rw [HG.out];rfl,HX.out⟩
 have h2i:(m:Int)≤20:=by omega
 by_cases h3:e.title.size≤500
 case neg =>
  (have h3i:¬ (e.title.size:Int)≤500:=by omega);have HG:Hid (qEs docs e=false):=small46_3 h3;clear hL1 hL2 h3 hl he;go_enter Tryz.func23,Tryz.ntmps23;go_wp2_with fail;go_ret;exact ⟨by rw [HG.out];rfl,HX.out⟩
 (have h3i:(e.title.size:Int)≤500:=by omega);have HG:Hid (qEs docs e=decide (sumR docs≤80)):=small46_4 (by omega) (by omega) h3;have HLn:=gH hL1;clear hL1 hL2 h2 h3 hl he;rw [HG.out];go_enter Tryz.func23,Tryz.ntmps23;go_wp2_with fail;clear h2i h3i hcb;generalize w.alloc (.cells #[.string e.title,.int .u8 e.rate,.bool e.drop,.slice B m d] 25)=W1 at *
 go_loopw [5,25] (fun v i wr=>SmlRel W1 n docs v i wr) (fun _ i _=>n-(intOf i).toNat)
 case atStart=>exact ⟨0,Nat.zero_le _,rfl,by simp [sumR],by simp [sumR],Ext.refl _⟩
 case round =>
  obtain ⟨k,hk,rfl,rfl,hb,hx⟩:=hrel
  by_cases hlt:k<n
  · obtain ⟨b,off,x,hh,hA,hxx,hat,hin,c0,c1,c2,c3,c4,c5,c6,c7,c8⟩:=(HL.out.ext hx).at_cells hlt
    subst hA;obtain ⟨hs1,hs2,hs3,hs4⟩:=docIn_sizes hin hat;have hst:=sumR_take hxx;rw [hs1,hs2,hs3] at hst;clear hs1 hs2 hs3 hat hin hxx;obtain ⟨hra,nr,hrc,hea,hen,hec,hca,nc,hcc⟩:=hh;dsimp only at *;generalize sumR (docs.take k)=S at *;have HX2:=gH hx;clear hx;go_upto_region 7 with fail;clear c0 c1 c2 c3 c4 c5 c6 c7 c8;have HX3:=gH (HX2.out.alloc (.cells #[.string x.reel,.string x.doc.title,.string x.doc.lang,.int .u8 x.doc.rate,.bool x.doc.drop,.int .i64 x.doc.last,.slice hra nr hrc,.slice hea hen hec,.slice hca nc hcc] 58));(have hcb:=fun o=>(Blk.new wr 58 #[.string x.reel,.string x.doc.title,.string x.doc.lang,.int .u8 x.doc.rate,.bool x.doc.drop,.int .i64 x.doc.last,.slice hra nr hrc,.slice hea hen hec,.slice hca nc hcc]).cell o);go_wp2_with fail;exact ⟨⟨k+1,by omega,by go_num,by rw [hst];go_num,by rw [hst];omega,HX3.out⟩,by simp [intOf];omega⟩
  · obtain rfl:k=n:=by omega
    have HT:Hid (docs.take k=docs):=List.take_of_length_le (by rw [HLn.out];omega);rw [HT.out] at hb ⊢;have HX2:=gH (HX.out.trans hx);clear hx
    by_cases h4:sumR docs≤80
    · have h4i:((sumR docs:Nat):Int)≤80:=by omega
      clear hb;go_wp2_with fail;go_ret;exact ⟨by first | rfl | (rw [decide_eq_true h4];rfl),HX2.out⟩
    · have h4i:¬ ((sumR docs:Nat):Int)≤80:=by omega
      clear hb;go_wp2_with fail;go_ret;exact ⟨by first | rfl | (rw [decide_eq_false h4];rfl),HX2.out⟩
end
end Go.Proofs.YtablhmobekmflaaGreatDoor