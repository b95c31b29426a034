/- Texts laid together. -/
import Derived.Test.YtneffpbodfjceaaGreatDoorRows
import Derived.WalkKit
import Derived.WalkSpells
import Derived.WalkLawsBesides
import Derived.Deep.QuietTactic
import Derived.BigQuiet
import Derived.Deep.RegionHeld3
import Derived.Deep.RegionWith
import Derived.Deep.Draws
import Derived.Deep.LoopGhost
import Derived.Deep.DeepCutAuto
import Derived.Lib.Hide
import Derived.Laws.RangeAny
import Derived.Shelf.Unicode.DecodeSlow
import Derived.Deep.MidRow
import Derived.Maps.AppendAt
import Derived.OpenShut
import Derived.ProofKit
import Derived.Carry
set_option linter.unusedVariables false
set_option linter.unusedSimpArgs false
set_option maxRecDepth 100000
set_option maxHeartbeats 16000000
namespace Go.Proofs.YtneffpbodfjceaaGreatDoor
theorem gA.{u} {α : Type u} {l : List α} {i : Nat} : l.toArray[i]? = l[i]? := List.getElem?_toArray
theorem gB.{u} {α : Type u} {a : α} {l : List α} : (a :: l)[0]? = some a := List.getElem?_cons_zero
theorem gC.{u} {α : Type u} {a : α} {l : List α} {i : Nat} : (a :: l)[i + 1]? = l[i]? := List.getElem?_cons_succ
theorem gH {p : Prop} (h : p) : Go.RowKit.Hid p := Go.Lib.hid h
theorem gD.{u} {α : Type u} {a b : α} : (some a = some b) = (a = b) := Option.some.injEq a b
section
open Go.RowKit
theorem qAf {k:IntKind} {a b:Int} (h:a=b):Ending.returned (.int k a) = .returned (.int k b):=by rw [h]
theorem qBh {a b:Bool} (h:a=b):Ending.returned (.bool a) = .returned (.bool b):=by rw [h]
def Ext (w w':World):Prop:=Below w.heap.size w w'
section
variable {w w1 w2:World}
theorem Ext.refl (w:World):Ext w w:=Below.refl _ _
theorem Ext.trans (h:Ext w w1) (k:Ext w1 w2):Ext w w2:=Below.trans h (Below.mono k h.size)
theorem Ext.size (h:Ext w w1):w.heap.size<=w1.heap.size:=Below.size h
theorem Ext.drew (h:Ext w w1):Ext w w1.drew:=Below.drew h
theorem Ext.drewN (h:Ext w w1) (n:Nat):Ext w (w1.drewN n):=⟨h.os,h.tape,h.output,h.size,h.block⟩
theorem Ext.alloc (h:Ext w w1) (o:Obj):Ext w (w1.alloc o):=Below.alloc h h.size o
theorem Ext.iter (h:Ext w w1) (s:ByteArray) (p:Nat):Ext w (w1.iter s p):=Below.alloc h h.size _
theorem Ext.setCell (h:Ext w w1) {p:Addr} (hp:w.heap.size<=p.block) (u:Value):Ext w (w1.setCell p u):=Below.setCell h hp u
theorem Ext.grown {row:Option Nat} (h:Ext w w1) (hg:w1.grownBy w2 row) (hr:∀ k,row=some k->w.heap.size<=k):Ext w w2:=Below.grown h hg h.size hr
theorem Ext.cell {p:Addr} {u:Value} (h:Ext w w1) (hc:w.cell? p=some u):w1.cell? p=some u :=
 (Below.cell h (World.block_lt_of_cell? w p hc)).trans hc
theorem Ext.frozen {p:Addr} {u:Value} (h:Ext w w1) (hc:w.cell? p=some u) (hf:w.frozen? p=false):w1.frozen? p=false :=
 (Below.frozen h (World.block_lt_of_cell? w p hc)).trans hf
theorem Ext.bcell (h:Ext w w1):(∀ b o,b<w.heap.size->w1.cell? ⟨b,o,none⟩=w.cell? ⟨b,o,none⟩)/\(∀ b o,b<w.heap.size->w1.frozen? ⟨b,o,none⟩=w.frozen? ⟨b,o,none⟩) :=
 ⟨fun _ _ hb=>Below.cell h (p:=⟨_,_,none⟩) hb,fun _ _ hb=>Below.frozen h (p:=⟨_,_,none⟩) hb⟩
theorem Ext.below {B:Nat} (h:Ext w w1) (k:Below B w1 w2) (hB:w.heap.size<=B):Ext w w2:=Below.trans h (Below.mono k hB)
end
def Env (w:World):Prop:=Lib.Utf8Tabs 0 1 w/\∃ m:Int,w.cell? ⟨2,0,none⟩=some (.int .i64 m)
theorem Env.ext {w w1:World} (h:Env w) (k:Ext w w1):Env w1 :=
 ⟨⟨fun c hc=>k.cell (h.1.1 c hc),fun i hi=>⟨k.cell (h.1.2 i hi).1,k.cell (h.1.2 i hi).2⟩⟩,h.2.elim fun m hm=>⟨m,k.cell hm⟩⟩
theorem take_snoc' {α:Type} (l:List α) (k:Nat) (x:α) (hx:l[k]?=some x):l.take (k+1)=l.take k++[x]:=by
 have hkl:=(List.getElem?_eq_some_iff.1 hx).1;rw [List.take_succ_eq_append_getElem hkl,(List.getElem?_eq_some_iff.1 hx).2]
theorem qDh {α:Type} (l:List α) (k:Nat) (x:α) (h:l[k]?=some x):l.drop k=x :: l.drop (k+1):=by
 have hkl:=(List.getElem?_eq_some_iff.1 h).1;rw [List.drop_eq_getElem_cons hkl,(List.getElem?_eq_some_iff.1 h).2]
def Sl (w:World) (size:Nat) {α:Type} (C:World->Nat->Nat->α->Prop) (A:Option Addr) (n:Nat) (l:List α):Prop :=
 l.length=n/\(0<n->∃ b off,A=some ⟨b,off,none⟩/\∀ i x,l[i]?=some x->C w b (off+i*size) x)
def zBh {α:Type} (C:World->Nat->Nat->α->Prop):Prop:=∀ w w' b o x,Ext w w'->C w b o x->C w' b o x
section
variable {α:Type} {C:World->Nat->Nat->α->Prop} {w w1:World} {size n:Nat} {A:Option Addr} {l:List α}
theorem Sl.len (h:Sl w size C A n l):l.length=n:=h.1
theorem Sl.nil:Sl w size C A 0 ([]:List α):=⟨rfl,fun h=>absurd h (by omega)⟩
theorem Sl.ext (hC:zBh C) (h:Sl w size C A n l) (k:Ext w w1):Sl w1 size C A n l :=
 ⟨h.1,fun hn=>(h.2 hn).elim fun b hb=>hb.elim fun off ho=>⟨b,off,ho.1,fun i x hx=>hC _ _ _ _ _ k (ho.2 i x hx)⟩⟩
theorem Sl.at_ (h:Sl w size C A n l) {i:Nat} (hi:i<n):∃ b off x,A=some ⟨b,off,none⟩/\l[i]?=some x/\C w b (off+i*size) x:=by
 obtain ⟨b,off,hA,hc⟩:=h.2 (by omega);(have hl:i<l.length:=by rw [h.1];exact hi);exact ⟨b,off,l[i],hA,List.getElem?_eq_getElem hl,hc i _ (List.getElem?_eq_getElem hl)⟩
end
structure Run where
 text:ByteArray
 color:Int
 italic:Bool
 under:Bool
 ruby:ByteArray
 deriving DecidableEq
def RunC (w:World) (b o:Nat) (r:Run):Prop :=
 w.cell? ⟨b,o,none⟩=some (.string r.text)/\w.cell? ⟨b,o+1,none⟩=some (.int .u8 r.color)/\w.cell? ⟨b,o+2,none⟩=some (.bool r.italic) /\
 w.cell? ⟨b,o+3,none⟩=some (.bool r.under)/\w.cell? ⟨b,o+4,none⟩=some (.string r.ruby)
theorem RunC.stays:zBh RunC:=fun _ _ _ _ _ k h=>⟨k.cell h.1,k.cell h.2.1,k.cell h.2.2.1,k.cell h.2.2.2.1,k.cell h.2.2.2.2⟩
def qBj (w:World) (A:Option Addr) (n:Nat) (l:List Run):Prop:=Sl w 5 RunC A n l
theorem qBj.ext {w w1:World} {A:Option Addr} {n:Nat} {l:List Run} (h:qBj w A n l) (k:Ext w w1):qBj w1 A n l:=Sl.ext RunC.stays h k
def Run.val (r:Run):Value:=.agg #[.string r.text,.int .u8 r.color,.bool r.italic,.bool r.under,.string r.ruby]
abbrev Row:=List Run
def RowC (w:World) (b o:Nat) (r:Row):Prop:=∃ A n c,w.cell? ⟨b,o,none⟩=some (.slice A n c)/\n<=c/\n*40<=140737488355328/\qBj w A n r
theorem RowC.stays:zBh RowC:=fun _ _ _ _ _ k ⟨A,n,c,h1,h2,h3,h4⟩=>⟨A,n,c,k.cell h1,h2,h3,h4.ext k⟩
def qCb (w:World) (A:Option Addr) (n:Nat) (l:List Row):Prop:=Sl w 1 RowC A n l
theorem qCb.ext {w w1:World} {A:Option Addr} {n:Nat} {l:List Row} (h:qCb w A n l) (k:Ext w w1):qCb w1 A n l:=Sl.ext RowC.stays h k
def Blk (w:World) (g:Nat) (t:TypeId) (cs:Array Value):Prop:=w.heap[g]?=some (.cells cs t (0,0))
def putB (w:World) (g:Nat) (t:TypeId) (cs:Array Value):World:={ w with heap:=w.heap.setIfInBounds g (.cells cs t (0,0)) }
section
variable {w w1:World} {g:Nat} {t:TypeId} {cs:Array Value}
theorem Blk.lt (h:Blk w g t cs):g<w.heap.size:=(Array.getElem?_eq_some_iff.1 h).1
theorem Blk.cell (h:Blk w g t cs) (i:Nat):w.cell? ⟨g,i,none⟩=cs[i]?:=by simp [World.cell?,show w.heap[g]?=_ from h]
theorem Blk.frozen (h:Blk w g t cs) (i:Nat):w.frozen? ⟨g,i,none⟩=false:=by simp [World.frozen?,show w.heap[g]?=_ from h]
theorem Blk.new (w:World) (t:TypeId) (cs:Array Value):Blk (w.alloc (.cells cs t)) w.heap.size t cs:=by
 show (w.heap.push _)[w.heap.size]?=_
 simp
theorem Blk.new' (hg:g=w.heap.size):Blk (w.alloc (.cells cs t)) g t cs:=by subst hg;exact Blk.new w t cs
theorem Blk.ext (h:Blk w g t cs) (k:Ext w w1):Blk w1 g t cs:=(k.block g h.lt).trans h
theorem Blk.alloc (h:Blk w g t cs) (o:Obj):Blk (w.alloc o) g t cs:=h.ext ((Ext.refl w).alloc o)
theorem Blk.drew (h:Blk w g t cs):Blk w.drew g t cs:=h
theorem Blk.drewN (h:Blk w g t cs) (n:Nat):Blk (w.drewN n) g t cs:=h
theorem Blk.put (h:Blk w g t cs) (cs':Array Value):Blk (putB w g t cs') g t cs':=by
 unfold Blk putB;simp [h.lt]
theorem Blk.put_other {g':Nat} {t':TypeId} (h:Blk w g t cs) (hne:g'≠g) (cs':Array Value):Blk (putB w g' t' cs') g t cs:=by
 unfold Blk putB;simp only;rw [Array.getElem?_setIfInBounds_ne hne];exact h
theorem qGn (w:World) (g:Nat) (t:TypeId) (cs:Array Value):(putB w g t cs).heap.size=w.heap.size:=by simp [putB]
theorem qOj {p:Addr} (hne:p.block≠g):(putB w g t cs).cell? p=w.cell? p:=by
 unfold World.cell? putB;simp only;rw [Array.getElem?_setIfInBounds_ne (Ne.symm hne)]
theorem Ext.put {w0:World} (h:Ext w0 w) (hg:w0.heap.size<=g) (t:TypeId) (cs:Array Value):Ext w0 (putB w g t cs) :=
 ⟨h.os,h.tape,h.output,by rw [qGn];exact h.size,fun k hk=>by
  unfold putB;simp only;rw [Array.getElem?_setIfInBounds_ne (by omega)]
  exact h.block k hk⟩
theorem qAd (h:Blk w g t cs) (i:Nat) (u:Value):w.setCell ⟨g,i,none⟩ u=putB w g t (cs.setIfInBounds i u):=by
 unfold World.setCell putB
 congr 1
 apply Array.ext_getElem?;intro j;rw [Array.getElem?_modify]
 by_cases hj:g=j
 . subst hj
   simp only [if_true,show w.heap[g]?=_ from h,Option.map_some];rw [Array.getElem?_setIfInBounds_self_of_lt h.lt];simp
 . rw [if_neg hj,Array.getElem?_setIfInBounds_ne hj]
theorem qBa (w:World) (g:Nat) (t t':TypeId) (cs cs':Array Value):putB (putB w g t cs) g t' cs'=putB w g t' cs':=by
 unfold putB;simp
theorem qEv (h:Blk w g t cs):putB w g t cs=w:=by
 have e:w.heap.setIfInBounds g (.cells cs t (0,0))=w.heap:=by
  apply Array.ext_getElem?;intro j
  by_cases hj:g=j
  . subst hj
    rw [Array.getElem?_setIfInBounds_self_of_lt h.lt];exact h.symm
  . rw [Array.getElem?_setIfInBounds_ne hj]
 unfold putB;rw [e]
theorem qMf:∀ (vs pre old:List Value) (w:World),Blk w g t (pre++old).toArray->old.length=vs.length ->
 w.setCells g pre.length vs=putB w g t (pre++vs).toArray
 | [],pre,old,w,h,hl=>by
  obtain rfl:old=[]:=List.eq_nil_of_length_eq_zero hl;simp only [World.setCells];exact (qEv h).symm
 | v :: vs,pre,[],w,h,hl=>by simp at hl
 | v :: vs,pre,x :: old,w,h,hl=>by
  simp only [World.setCells]
  have e:((pre++x :: old).toArray).setIfInBounds pre.length v=(pre++[v]++old).toArray:=by
   apply Array.ext';simp [List.set_append]
  rw [qAd h,e];have h2:=qMf vs (pre++[v]) old _ (by rw [← e];exact h.put _) (by simpa using hl);rw [List.length_append] at h2;simp only [List.length_cons,List.length_nil,Nat.zero_add] at h2;rw [← e,h2,qBa];simp
theorem qIg (h:Blk w g t cs) (cs':Array Value) (hl:cs.size=cs'.size):w.setCells g 0 cs'.toList=putB w g t cs':=by
 (have h':Blk w g t ([]++cs.toList).toArray:=by simpa using h);have:=qMf cs'.toList [] cs.toList w h' (by simpa using hl);simpa using this
end
section
variable {P:Program} {ops:Array Oper} {rest:List Oper} {op:Oper} {a:Act} {w:World} {Q:Exit->Act->World->Prop}
theorem qAc (hgd:op.guard=none) (ty:TypeId) (x y:Operand) (ho:op.op = .store ty x y) (g:Nat) (t:TypeId) (cs cs':Array Value) (hx:a.eval x = .pointer (some ⟨g,0,none⟩)) (hy:a.eval y = .agg cs')
 (hB:Blk w g t cs) (hl:cs.size=cs'.size) (hi:(P.info? ty).map (·.size)=some cs'.size) (h1:cs'.all (·.oneCell')=true)
 (h:wpList P ops Q rest (a.put op.dst undef) (putB w g t cs')):wpList P ops Q (op :: rest) a w:=by
 refine wpList_store_mid hgd ty x y ho g 0 cs' hx hy (fun j hj=>?_) hi h1 (by rw [qIg hB cs' hl];exact h);rw [hB.cell,hB.frozen];exact ⟨by simp;omega,rfl⟩
theorem qAa (hgd:op.guard=none) (ty:TypeId) (x:Operand) (ho:op.op = .load ty x) (g:Nat) (t:TypeId) (cs:Array Value) (d:TypeDesc) (hx:a.eval x = .pointer (some ⟨g,0,none⟩))
 (hB:Blk w g t cs) (hu:P.underlying ty=some d) (hd:d.isRow=true) (hi:(P.info? ty).map (·.size)=some cs.size)
 (h:wpList P ops Q rest (a.put op.dst (.agg cs)) w):wpList P ops Q (op :: rest) a w:=by
 refine wpList_load_mid hgd ty x ho g 0 hx cs.toList d (fun j v hv=>?_) hu hd (by simpa using hi) (by simpa using h);rw [hB.cell];simpa using hv
theorem qEw {w:World} (g:Nat) (t:TypeId) (ty:TypeId) (cs:Array Value) (d:TypeDesc) (hB:Blk w g t cs) (hu:P.underlying ty=some d) (hd:d.isRow=true) (hi:(P.info? ty).map (·.size)=some cs.size) :
 (loadVar ty ⟨g,0,none⟩).run P w = .ok (.agg cs) w:=by
 have:=run_loadVar_mid (P:=P) w g 0 ty cs.toList d (fun j v hv=>by rw [hB.cell];simpa using hv) hu hd (by simpa using hi);simpa using this
theorem qGq (w:World) (p:Addr):(asAddr (.pointer (some p))).run P w = .ok p w:=by simp [asAddr]
theorem qBz {fn:Func} {p:Tmp} {ty:TypeId} (h:fn.results=#[.cell p ty]) {tmps:Array Value} {w:World} {g:Nat} {t:TypeId} {cs:Array Value} {d:TypeDesc} (hp:tmps.getD p undef = .pointer (some ⟨g,0,none⟩))
 (hB:Blk w g t cs) (hu:P.underlying ty=some d) (hd:d.isRow=true) (hi:(P.info? ty).map (·.size)=some cs.size):(results fn tmps).run P w = .ok (.agg cs) w:=by
 have h1:=qEw (P:=P) g t ty cs d hB hu hd hi;simp only [results,h];(have e:tmps[p]?.getD undef = .pointer (some ⟨g,0,none⟩):=by simpa using hp);simp [Sem.run_bind,e,qGq,h1]
theorem qAq {fn:Func} {p u:Tmp} {ty:TypeId} (h:fn.results=#[.cell p ty,.tmp u]) {tmps:Array Value} {w:World} {g:Nat} {t:TypeId} {cs:Array Value} {d:TypeDesc} (hp:tmps.getD p undef = .pointer (some ⟨g,0,none⟩))
 (hB:Blk w g t cs) (hu:P.underlying ty=some d) (hd:d.isRow=true) (hi:(P.info? ty).map (·.size)=some cs.size):(results fn tmps).run P w = .ok (.tuple #[.agg cs,tmps.getD u undef]) w:=by
 have h1:=qEw (P:=P) g t ty cs d hB hu hd hi;simp only [results,h];(have e:tmps[p]?.getD undef = .pointer (some ⟨g,0,none⟩):=by simpa using hp);simp [Sem.run_bind,e,qGq,h1]
end
def Cells {α:Type} (f:α->List Value) (w:World) (b o:Nat) (x:α):Prop:=∀ j u,(f x)[j]?=some u->w.cell? ⟨b,o+j,none⟩=some u
theorem Cells.stays {α:Type} (f:α->List Value):zBh (Cells f):=fun _ _ _ _ _ k h j u hu=>k.cell (h j u hu)
theorem qDr {α:Type} (f:α->List Value) (size:Nat) (hf:∀ x,(f x).length=size):∀ (l:List α) (i:Nat) (x:α) (j:Nat),l[i]?=some x->j<size->(l.flatMap f)[i*size+j]?=(f x)[j]?
 | [],i,x,j,h,_=>by simp at h
 | a :: l,0,x,j,h,hj=>by
  simp at h;subst h;rw [List.flatMap_cons,List.getElem?_append_left (by rw [hf];omega)];simp
 | a :: l,i+1,x,j,h,hj=>by
  rw [List.flatMap_cons,List.getElem?_append_right (by rw [hf,Nat.succ_mul];omega)];rw [show (i+1)*size+j-(f a).length=i*size+j by rw [hf,Nat.succ_mul];omega];exact qDr f size hf l i x j (by simpa using h) hj
theorem qCc {α:Type} (f:α->List Value) (size:Nat) (hf:∀ x,(f x).length=size):∀ l:List α,(l.flatMap f).length=l.length*size
 | []=>by simp
 | a :: l=>by rw [List.flatMap_cons,List.length_append,hf,qCc f size hf l,List.length_cons,Nat.succ_mul];omega
theorem qBn {α:Type} {f:α->List Value} {size:Nat} (hf:∀ x,(f x).length=size) {w:World} {base:Nat} {e:TypeId} {v:Value} {n:Nat} {l:List α} (hl:l.length=n)
 (h:w.ownsRow base e size v n (l.flatMap f)):∃ A c,v = .slice A n c/\n<=c/\c<=maxLen/\Sl w size (Cells f) A n l/\(∀ ad,A=some ad->base<=ad.block):=by
 rcases h.2 with ⟨rfl,rfl⟩ | ⟨g,cap,cur,rfl,hg,hh,hn,hm,hs,ht⟩
 . exact ⟨none,0,rfl,Nat.le_refl _,by simp [maxLen],⟨hl,fun h=>absurd h (by omega)⟩,fun ad h=>by cases h⟩
 . refine ⟨_,cap,rfl,hn,hm,⟨hl,fun _=>⟨g,0,rfl,fun i x hx j u hu=>?_⟩⟩,fun ad h=>by cases h;exact hg⟩
   have hjs:j<size:=by
    have:=(List.getElem?_eq_some_iff.1 hu).1;rw [hf] at this;exact this
   have h1:=qDr f size hf l i x j hx hjs;rw [hu,← ht] at h1
   have hlt:i*size+j<n*size:=by
    have hi:=(List.getElem?_eq_some_iff.1 hx).1;rw [hl] at hi;have:=Nat.mul_le_mul_right size (show i+1<=n from hi);rw [Nat.succ_mul] at this;omega
   rw [List.getElem?_take_of_lt hlt] at h1;rw [show (0+i*size+j)=i*size+j by omega];simp only [World.cell?,hh];simpa using h1
theorem qAh {w w1:World} {base:Nat} {e:TypeId} {size:Nat} {v:Value} {n:Nat} {xs:List Value} (h:w.ownsRow base e size v n xs) (k:Ext w w1):w1.ownsRow base e size v n xs:=by
 refine ⟨h.1,?_⟩
 rcases h.2 with hn | ⟨g,cap,cur,rfl,hb,hg,rest⟩
 . exact .inl hn
 . exact .inr ⟨g,cap,cur,rfl,hb,(k.block g (Array.getElem?_eq_some_iff.1 hg).1).trans hg,rest⟩
theorem qBt {w:World} {base:Nat} {e:TypeId} {size:Nat} {v:Value} {n:Nat} {xs:List Value} (h:w.ownsRow base e size v n xs) (hn:0<n):∃ g cap,v = .slice (some ⟨g,0,none⟩) n cap/\base<=g/\g<w.heap.size:=by
 rcases h.2 with ⟨_,h0⟩ | ⟨g,cap,cur,rfl,hb,hg,_⟩
 . omega
 . exact ⟨g,cap,rfl,hb,(Array.getElem?_eq_some_iff.1 hg).1⟩
def qBc (w:World) (T:TypeId) (b:Nat):Prop:=∃ cur,w.heap[b]?=some (.cells cur T (0,0))
theorem qBc.ext {w w1:World} {T:TypeId} {b:Nat} (h:qBc w T b) (k:Ext w w1):qBc w1 T b:=by
 obtain ⟨cur,hb⟩:=h;exact ⟨cur,(k.block b (Array.getElem?_eq_some_iff.1 hb).1).trans hb⟩
theorem qBc.lt {w:World} {T:TypeId} {b:Nat} (h:qBc w T b):b<w.heap.size:=by
 obtain ⟨cur,hb⟩:=h;exact (Array.getElem?_eq_some_iff.1 hb).1
theorem qBc.ne {w:World} {T T':TypeId} {b b':Nat} (h:qBc w T b) (h':qBc w T' b') (hne:T≠T'):b≠b':=by
 rintro rfl;obtain ⟨cur,hb⟩:=h;obtain ⟨cur',hb'⟩:=h';rw [hb] at hb';injection hb' with e;injection e with _ e2;exact hne e2
theorem qBc.setCell {w:World} {T:TypeId} {b:Nat} (h:qBc w T b) (p:Addr) (u:Value):qBc (w.setCell p u) T b:=by
 obtain ⟨cur,hb⟩:=h;unfold qBc World.setCell;simp only [Array.getElem?_modify,hb]
 by_cases hp:p.block=b
 . rw [if_pos hp];exact ⟨_,rfl⟩
 . rw [if_neg hp];exact ⟨_,rfl⟩
theorem Blk.typed {w:World} {g:Nat} {t:TypeId} {cs:Array Value} (h:Blk w g t cs):qBc w t g:=⟨cs,h⟩
theorem qBc.put {w:World} {T t:TypeId} {b g:Nat} {cs:Array Value} (h:qBc w T b) (hB:Blk w g t cs) (cs':Array Value) (hne:T≠t):qBc (putB w g t cs') T b:=by
 have hn:g≠b:=(qBc.ne h hB.typed hne).symm;obtain ⟨cur,hb⟩:=h;refine ⟨cur,?_⟩;unfold putB;simp only;rw [Array.getElem?_setIfInBounds_ne hn];exact hb
theorem qBc.frozen {w:World} {T:TypeId} {b:Nat} (h:qBc w T b) (o:Nat):w.frozen? ⟨b,o,none⟩=false:=by
 obtain ⟨cur,hb⟩:=h;simp [World.frozen?,hb]
theorem qAt {w:World} {base:Nat} {e:TypeId} {size:Nat} {v:Value} {n:Nat} {xs:List Value} (h:w.ownsRow base e size v n xs):∀ k,v.ownBlock=some k->qBc w e k:=by
 rcases h.2 with ⟨rfl,_⟩ | ⟨g,cap,cur,rfl,hg,hh,_⟩
 . intro k hk;simp [Value.ownBlock] at hk
 . intro k hk;simp [Value.ownBlock] at hk;subst hk;exact ⟨cur,hh⟩
theorem qBg {w:World} {base:Nat} {e:TypeId} {size:Nat} {v:Value} {n:Nat} {xs:List Value} (h:w.ownsRow base e size v n xs):∀ k,v.ownBlock=some k->base<=k:=by
 rcases h.2 with ⟨rfl,_⟩ | ⟨g,cap,cur,rfl,hg,_⟩
 . intro k hk;simp [Value.ownBlock] at hk
 . intro k hk;simp [Value.ownBlock] at hk;omega
theorem qAi {P:Program} {ops:Array Oper} {rest:List Oper} {o:Oper} {a:Act} {w:World} {Q:Exit->Act->World->Prop} (hgd:o.guard=none) (s x:Operand) (t:TypeId)
 (ho:o.op = .call { callee:=.builtin .append,args:=#[s,x],argTypes:=#[t,t] })
 {base:Nat} {e:TypeId} {z:Value} {size bytes:Nat} (inf:(P.info? e).map (fun i=>(i.zero,i.size,i.bytes))=some (some z,size,bytes)) (ht:P.underlying t=some (.slice e)) (hzs:z.cells.size=size) (hsz:0<size)
 {v:Value} {n:Nat} {xs:List Value} (hown:w.ownsRow base e size v n xs) (hs:a.eval s=v) (g:Nat) (news:Array Value) (hx:a.eval x = .slice (some ⟨g,0,none⟩) 1 1) (hB:Blk w g e news) (hl:news.size=size) (h1:news.all (·.oneCell')=true)
 (hroom:(n+1)*bytes<=140737488355328) (hmax:n+1<=maxLen) (hbase:base<=w.heap.size)
 (h:∀ v' w',w'.ownsRow base e size v' (n+1) (xs++news.toList)->w.grownBy w' v.ownBlock->wpList P ops Q rest (a.put o.dst v') w'):wpList P ops Q (o :: rest) a w:=by
 obtain ⟨i,hi,hz0,hz1,hz2⟩:=info_parts inf;refine wpList_append_own w hgd s x t ho base e i z size bytes ht hi hz0 hz1 hz2 hzs hsz v n xs hs hown ⟨g,0,none⟩ 1 1 news.toList hx (by simpa using hl) (fun j u hu=>?_) (fun u hu=>?_) hmax hroom hbase (fun v' w' h2 h3 _=>h v' w' h2 h3)
 . rw [Addr.add_mid,Nat.zero_add,hB.cell]
   simpa using hu
 . exact (Array.all_eq_true_iff_forall_mem.1 h1) u (by simpa using hu)
theorem qNt {α:Type} {f:α->List Value} (h1:∀ x,∀ u∈f x,u.oneCell'=true) (l:List α):∀ u∈l.flatMap f,u.oneCell'=true:=by
 intro u hu;obtain ⟨x,_,hx⟩:=List.mem_flatMap.1 hu;exact h1 x u hx
theorem zIg {α:Type} {f:α->List Value} {size:Nat} (hf:∀ x,(f x).length=size) {w:World} {m b off:Nat} {l:List α} (hl:l.length=m) (hc:∀ i x,l[i]?=some x->Cells f w b (off+i*size) x) :
 ∀ j u,(l.flatMap f)[j]?=some u->w.cell? ((⟨b,off,none⟩:Addr).add j)=some u:=by
 intro j u hu
 have hj:j<l.length*size:=by
  have:=(List.getElem?_eq_some_iff.1 hu).1
  rwa [qCc f size hf] at this
 have hs:0<size:=by
  rcases Nat.eq_zero_or_pos size with h | h
  . subst h;omega
  . exact h
 have hi:j / size<l.length:=Nat.div_lt_of_lt_mul (by rw [Nat.mul_comm];exact hj);have hx:l[j / size]?=some l[j / size]:=List.getElem?_eq_getElem hi;have hm:j % size<size:=Nat.mod_lt _ hs;have e:j / size*size+j % size=j:=Nat.div_add_mod' j size;have h1:=qDr f size hf l (j / size) _ (j % size) hx hm;rw [e,hu] at h1;have h2:=hc (j / size) _ hx (j % size) u h1.symm;rw [Addr.add_mid];rw [show off+j=off+j / size*size+j % size by omega];exact h2
theorem qGp {P:Program} (w:World) (base:Nat) (t ty e:TypeId) (i:TypeInfo) (size:Nat) (ht:P.underlying t=some (.slice e)) (hi:P.info? e=some i)
 (v:Value) (n:Nat) (xs:List Value) (hown:w.ownsRow base e size v n xs) (c:Nat):(Builtin.append_ #[t,t] ty #[v,.slice none 0 c]).run P w = .ok v w:=by
 rcases hown.2 with ⟨rfl,rfl⟩ | ⟨g,cap,cur,rfl,_,_,hnc,_⟩
 . simp [Builtin.append_,run_underlying ht,sizeOf,typeInfo,hi,Builtin.lenOf,Builtin.firstCells]
 . simp [Builtin.append_,run_underlying ht,sizeOf,typeInfo,hi,Builtin.lenOf,Builtin.firstCells,hnc,storeCells]
theorem qAx {α:Type} {f:α->List Value} {P:Program} {ops:Array Oper} {rest:List Oper} {o:Oper} {a:Act} {w:World} {Q:Exit->Act->World->Prop} (hgd:o.guard=none) (s x:Operand) (t:TypeId)
 (ho:o.op = .call { callee:=.builtin .append,args:=#[s,x],argTypes:=#[t,t] })
 {base:Nat} {e:TypeId} {z:Value} {size bytes:Nat} (inf:(P.info? e).map (fun i=>(i.zero,i.size,i.bytes))=some (some z,size,bytes)) (ht:P.underlying t=some (.slice e)) (hzs:z.cells.size=size) (hsz:0<size)
 {v:Value} {n:Nat} {xs:List Value} (hown:w.ownsRow base e size v n xs) (hs:a.eval s=v) {A:Option Addr} {m c:Nat} {l:List α} (hx:a.eval x = .slice A m c) (hS:Sl w size (Cells f) A m l) (hf:∀ x,(f x).length=size) (h1:∀ x,∀ u∈f x,u.oneCell'=true)
 (hroom:(n+m)*bytes<=140737488355328) (hmax:n+m<=maxLen) (hbase:base<=w.heap.size)
 (h:∀ v' w',w'.ownsRow base e size v' (n+m) (xs++l.flatMap f)->w.grownBy w' v.ownBlock->(v' = .slice none 0 0↔v = .slice none 0 0/\m=0)->wpList P ops Q rest (a.put o.dst v') w'):wpList P ops Q (o :: rest) a w:=by
 obtain ⟨i,hi,hz0,hz1,hz2⟩:=info_parts inf;(have hlen:(l.flatMap f).length=m*size:=by rw [qCc f size hf,hS.len])
 cases A with
 | none =>
  have hm:m=0:=by
   rcases Nat.eq_zero_or_pos m with h0 | h0
   . exact h0
   . obtain ⟨_,_,h,_⟩:=hS.2 h0
     cases h
  subst hm;obtain rfl:l=[]:=List.eq_nil_of_length_eq_zero hS.len;(refine wpList_plain hgd fun K hK=>?_);have hrun:=qGp (P:=P) w base t o.type e i size ht hi v n xs hown c;unfold Oper.wp execOp;simp only [ho,resolve,invoke,builtin,Sem.run_bind,Sem.run_pure,Result.andThen_ok,List.map_toArray,List.map_cons,List.map_nil,hs,hx,hrun];exact hK _ _ (h v w (by simpa using hown) (World.grownBy.refl w _) ⟨fun e=>⟨e,rfl⟩,fun e=>e.1⟩)
 | some ad =>
  refine wpList_append_own w hgd s x t ho base e i z size bytes ht hi hz0 hz1 hz2 hzs hsz v n xs hs hown ad m c (l.flatMap f) hx hlen (fun j u hu=>?_) (qNt h1 l) hmax hroom hbase h
  rcases Nat.eq_zero_or_pos m with h0 | h0
  . subst h0
    obtain rfl:l=[]:=List.eq_nil_of_length_eq_zero hS.len;simp at hu
  . obtain ⟨b,off,hA,hc⟩:=hS.2 h0
    cases hA
    exact zIg hf hS.len hc j u hu
theorem qKo (w:World) (e:TypeId) (size base:Nat) (hb:base<=w.heap.size):(w.alloc (.cells #[] e)).ownsRow base e size (.slice (some ⟨w.heap.size,0,none⟩) 0 0) 0 [] :=
 ⟨by simp,.inr ⟨w.heap.size,0,#[],rfl,hb,Blk.new w e #[],Nat.le_refl _,by simp [maxLen],by simp,by simp⟩⟩
theorem Sl.change {α:Type} {C D:World->Nat->Nat->α->Prop} {w:World} {size n:Nat} {A:Option Addr} {l:List α} (h:Sl w size C A n l) (hcd:∀ b o x,C w b o x->D w b o x):Sl w size D A n l :=
 ⟨h.1,fun hn=>(h.2 hn).elim fun b hb=>hb.elim fun off ho=>⟨b,off,ho.1,fun i x hx=>hcd _ _ _ (ho.2 i x hx)⟩⟩
end
section
open Go.RowKit Go.ChangeShapes Go.WideShapes Go.ChangeAt
theorem qBv {α:Type} {l:List α} (h:l.length=1):∃ v0,l=[v0]:=by
 match l,h with
 | [v0],_=>exact ⟨v0,rfl⟩
theorem qCm {α:Type} {l:List α} (h:l.length=2):∃ v0 v1,l=[v0,v1]:=by
 match l,h with
 | [v0,v1],_=>exact ⟨v0,v1,rfl⟩
theorem qCn {α:Type} {l:List α} (h:l.length=3):∃ v0 v1 v2,l=[v0,v1,v2]:=by
 match l,h with
 | [v0,v1,v2],_=>exact ⟨v0,v1,v2,rfl⟩
theorem qEm {α:Type} {l:List α} (h:l.length=4):∃ v0 v1 v2 v3,l=[v0,v1,v2,v3]:=by
 match l,h with
 | [v0,v1,v2,v3],_=>exact ⟨v0,v1,v2,v3,rfl⟩
theorem qHz {α:Type} {l:List α} (h:l.length=5):∃ v0 v1 v2 v3 v4,l=[v0,v1,v2,v3,v4]:=by
 match l,h with
 | [v0,v1,v2,v3,v4],_=>exact ⟨v0,v1,v2,v3,v4,rfl⟩
theorem zAb {α:Type} {l:List α} (h:l.length=6):∃ v0 v1 v2 v3 v4 v5,l=[v0,v1,v2,v3,v4,v5]:=by
 match l,h with
 | [v0,v1,v2,v3,v4,v5],_=>exact ⟨v0,v1,v2,v3,v4,v5,rfl⟩
theorem zMl {α:Type} {l:List α} (h:l.length=7):∃ v0 v1 v2 v3 v4 v5 v6,l=[v0,v1,v2,v3,v4,v5,v6]:=by
 match l,h with
 | [v0,v1,v2,v3,v4,v5,v6],_=>exact ⟨v0,v1,v2,v3,v4,v5,v6,rfl⟩
theorem zAc {α:Type} {l:List α} (h:l.length=8):∃ v0 v1 v2 v3 v4 v5 v6 v7,l=[v0,v1,v2,v3,v4,v5,v6,v7]:=by
 match l,h with
 | [v0,v1,v2,v3,v4,v5,v6,v7],_=>exact ⟨v0,v1,v2,v3,v4,v5,v6,v7,rfl⟩
def qCa {α:Type} (P:Program) (W:World) (t:TypeId) (R:List Value->α->Prop):Prop :=
 ∀ (H:Type) (enc:TypeId × Value->H) (fuel:Nat) (cs:List Value) (x:DataW H × List MemPlace),DataW.trod enc P W 0 (fun _=>true) true fuel t cs=some x->(∀ n∈x.1.weights P t,n<=reachBytes)->∃ a,R cs a
theorem qGe {H:Type} {P:Program} {e:TypeId}:∀ {l:List (DataW H)} {d:DataW H} {n:Nat},d∈l->n∈d.weights P e->n∈DataW.weightsAll P e l
 | [],_,_,h,_=>by cases h
 | x :: l,d,n,h,hn=>by
  simp only [DataW.weightsAll,List.mem_append]
  cases List.mem_cons.1 h with
  | inl e=>subst e;exact .inl hn
  | inr e=>exact .inr (qGe e hn)
theorem qEj {H:Type} {P:Program}:∀ {ts:List TypeId} {l:List (DataW H)} {i:Nat} {t:TypeId} {d:DataW H} {n:Nat},ts[i]?=some t->l[i]?=some d->n∈d.weights P t->n∈DataW.weightsEach P ts l
 | [],_,_,_,_,_,h,_,_=>by simp at h
 | _ :: _,[],_,_,_,_,_,h,_=>by simp at h
 | t :: ts,x :: l,0,_,_,n,h1,h2,hn=>by
  simp only [List.getElem?_cons_zero,Option.some.injEq] at h1 h2;subst h1 h2;simp only [DataW.weightsEach,List.mem_append];exact .inl hn
 | t :: ts,x :: l,i+1,_,_,n,h1,h2,hn=>by
  simp only [List.getElem?_cons_succ] at h1 h2;simp only [DataW.weightsEach,List.mem_append];exact .inr (qEj h1 h2 hn)
theorem zPn {H:Type} {P:Program} {ts:List TypeId} {ds:List (DataW H)} (h:(DataW.weightsEach P ts ds).all (·<=reachBytes)=true) {i:Nat} {t:TypeId} {d:DataW H} (ht:ts[i]?=some t) (hd:ds[i]?=some d):∀ n∈d.weights P t,n<=reachBytes:=fun n hn=>by
 have:=List.all_eq_true.1 h n (qEj ht hd hn);simpa using this
theorem qKb {w:World} {b o:Nat} {sp:Option Nat} {v:Value} (h:w.cell? ⟨b,o,sp⟩=some v):sp=none:=by
 unfold World.cell? at h
 split at h
 . split at h
   . cases h
   . rename_i hs;simpa using hs
 . cases h
def Mem {α:Type} (R:List Value->α->Prop) (W:World) (b o:Nat) (a:α):Prop:=∃ cs,(∀ j u,cs[j]?=some u->W.cell? ⟨b,o+j,none⟩=some u)/\R cs a
theorem qCa.slice {α:Type} {P:Program} {W:World} {t e:TypeId} {s bts:Nat} {R:List Value->α->Prop} (ht:P.underlying t=some (.slice e)) (hc:P.cellsOf e=s) (hs:0<s) (hb:P.bytesOf e=bts) (hR:qCa P W e R)
 {H:Type} {enc:TypeId × Value->H} {fuel:Nat} {cs:List Value} {x:DataW H × List MemPlace} (h:DataW.trod enc P W 0 (fun _=>true) true fuel t cs=some x) (hw:∀ n∈x.1.weights P t,n<=reachBytes) :
 ∃ A n c l,cs=[.slice A n c]/\n<=c/\c<=maxLen/\c*bts<=reachBytes/\Sl W s (fun w=>Mem R w) A n l:=by
 rcases DataW.trod_slice ht h with ⟨rfl,rfl⟩ | ⟨ad,len,cap,elems,rest,n,rfl,rfl,rfl,_,hlc,hcm,hel,hat,hsp,_⟩
 . exact ⟨none,0,0,[],rfl,Nat.le_refl _,by simp [maxLen],by simp [reachBytes],Sl.nil⟩
 . obtain ⟨hrl,_⟩:=hsp rfl
   simp only [DataW.weights,ht,List.mem_cons,List.mem_append,List.length_map] at hw
   have hcap:cap*bts<=reachBytes:=by
    have:=hw _ (.inl rfl);rw [hel,hrl,hb,show len+(cap-len)=cap by omega] at this;exact this
   have hall:∀ i,i<len->∃ a b off,ad=⟨b,off,none⟩/\Mem R W b (off+i*s) a:=by
    intro i hi;have h1:=hat i hi;(have hie:i<elems.length:=by omega);rw [List.getElem?_eq_getElem hie,Option.bind_eq_some_iff] at h1;obtain ⟨cs',h2,h3⟩:=h1;obtain ⟨a,ha⟩:=hR H enc n cs' _ h3 (fun m hm=>hw m (.inr (.inl (qGe (List.mem_map.2 ⟨_,List.getElem_mem hie,rfl⟩) hm))));obtain ⟨_,hcl,hcc⟩:=World.cells?_some h2;rw [hc] at hcl hcc
    -- the spot
    obtain ⟨b,off,sp⟩:=ad;have h0:=hcc 0 hs;(have hspot:∀ (i:Nat),i*P.cellsOf e=i*s:=fun i=>by rw [hc]);refine ⟨a,b,off,?_,cs',fun j u hu=>?_,ha⟩
    . -- the first element's first cell is there
      have hz:=hat 0 (by omega);rw [List.getElem?_eq_getElem (show 0<elems.length by omega),Option.bind_eq_some_iff] at hz;obtain ⟨cz,hz2,_⟩:=hz;obtain ⟨_,hzl,hzc⟩:=World.cells?_some hz2;rw [hc] at hzl hzc;have:=hzc 0 hs;rw [List.getElem?_eq_getElem (show 0<cz.length by omega)] at this;simp only [Nat.zero_mul,Addr.add,if_true] at this;rw [qKb this]
    . have hj:j<s:=by rw [← hcl];exact (List.getElem?_eq_some_iff.1 hu).1
      have h4:=hcc j hj;rw [hu] at h4;(have e1:(⟨b,off+i*s+j,none⟩:Addr)=(Addr.add ⟨b,off,none⟩ (i*s)).add j:=by rw [Addr.add_mid,Addr.add_mid]);rw [e1]
      by_cases hz:i*s+j=0
      . have hi0:i*s=0:=by omega
        (have hj0:j=0:=by omega);rw [hi0,hj0] at h4 ⊢;simp only [Addr.add,if_true] at h4 ⊢;obtain rfl:=qKb h4;exact h4
      . have e2:(Addr.add ⟨b,off,sp⟩ (i*s)).add j=(Addr.add ⟨b,off,none⟩ (i*s)).add j:=by
         simp only [Addr.add]
         by_cases h5:i*s=0
         . rw [if_pos h5,if_pos h5,if_neg (by omega),if_neg (by omega)]
         . rw [if_neg h5,if_neg h5]
        rw [e2] at h4;exact h4
   by_cases h0:len=0
   . subst h0
     exact ⟨some ad,0,cap,[],rfl,hlc,hcm,hcap,Sl.nil⟩
   . obtain ⟨_,b,off,rfl,_⟩:=hall 0 (by omega)
     have hall':∀ i,∃ a:Option α,i<len->∃ a',a=some a'/\Mem R W b (off+i*s) a':=by
      intro i
      by_cases hi:i<len
      . obtain ⟨a,b',off',he,hm⟩:=hall i hi
        cases he
        exact ⟨some a,fun _=>⟨a,rfl,hm⟩⟩
      . exact ⟨none,fun h=>absurd h hi⟩
     obtain ⟨f,hf⟩:=Classical.axiomOfChoice hall'
     have hl:((List.range len).filterMap f).length=len/\∀ i,i<len->((List.range len).filterMap f)[i]?=f i:=by
      have key:∀ m,m<=len->((List.range m).filterMap f).length=m/\∀ i,i<m->((List.range m).filterMap f)[i]?=f i:=by
       intro m
       induction m with
       | zero=>intro _;exact ⟨rfl,fun i hi=>absurd hi (by omega)⟩
       | succ m ih =>
        intro hm;obtain ⟨h1,h2⟩:=ih (by omega);obtain ⟨a',ha',_⟩:=hf m (by omega);rw [List.range_succ,List.filterMap_append];simp only [List.filterMap_cons,ha',List.filterMap_nil];refine ⟨by simp [h1],fun i hi=>?_⟩
        by_cases him:i<m
        . rw [List.getElem?_append_left (by omega)];exact h2 i him
        . have:i=m:=by omega
          subst this;rw [List.getElem?_append_right (by omega),h1,ha'];simp
      exact key len (Nat.le_refl _)
     refine ⟨_,len,cap,(List.range len).filterMap f,rfl,hlc,hcm,hcap,hl.1,fun _=>⟨b,off,rfl,fun i a ha=>?_⟩⟩;(have hi:i<len:=by rw [← hl.1];exact (List.getElem?_eq_some_iff.1 ha).1);rw [hl.2 i hi] at ha;obtain ⟨a',ha',hm⟩:=hf i hi;rw [ha] at ha'
     cases ha'
     exact hm
theorem qCa.int {P:Program} {W:World} {t:TypeId} {k:IntKind} (ht:P.underlying t=some (.int k)):qCa P W t (fun cs (a:Int)=>cs=[.int k a]/\(Lit.int k a).wf=true) :=
 fun _ _ _ _ _ h _=>by obtain ⟨n,h1,_,h2⟩:=DataW.trod_int ht h;exact ⟨n,h1,h2⟩
theorem qCa.bool {P:Program} {W:World} {t:TypeId} (ht:P.underlying t=some .bool):qCa P W t (fun cs (a:Bool)=>cs=[.bool a]) :=
 fun _ _ _ _ _ h _=>by obtain ⟨n,h1,_⟩:=DataW.trod_bool ht h;exact ⟨n,h1⟩
theorem qCa.string {P:Program} {W:World} {t:TypeId} (ht:P.underlying t=some .string):qCa P W t (fun cs (a:ByteArray)=>cs=[.string a]/\a.size<=140737488351232) :=
 fun _ _ _ _ _ h hw=>by
  obtain ⟨s,h1,h2,_⟩:=DataW.trod_string ht h;subst h2;refine ⟨s,h1,?_⟩;have:=hw s.data.toList.length (by simp [DataW.weights]);simpa [reachBytes] using this
theorem qCa.fields {P:Program} {W:World} {t:TypeId} {fs:Array Field} (ht:P.underlying t=some (.struct fs)) {H:Type} {enc:TypeId × Value->H} {fuel:Nat} {cs:List Value} {x:DataW H × List MemPlace}
 (h:DataW.trod enc P W 0 (fun _=>true) true fuel t cs=some x) (hw:∀ n∈x.1.weights P t,n<=reachBytes) :
 cs.length=P.cellsOf t/\∀ (i:Nat) (f:Field),fs[i]?=some f->∀ {α:Type} {R:List Value->α->Prop},qCa P W f.type R->∃ a,R ((cs.drop f.offset).take (P.cellsOf f.type)) a:=by
 obtain ⟨xs,n,rfl,rfl,hl,hlen,hf⟩:=DataW.trod_struct ht h;refine ⟨hl,fun i f hif α R hR=>?_⟩;have h1:=hf i f hif;(have hi:i<xs.length:=by rw [hlen];exact (Array.getElem?_eq_some_iff.1 hif).1);rw [List.getElem?_eq_getElem hi] at h1;refine hR H enc n _ _ h1 (fun m hm=>hw m ?_);simp only [DataW.weights,ht];refine qEj (i:=i) (t:=f.type) (d:=xs[i].1) ?_ ?_ hm
 . rw [List.getElem?_map]
   (have:fs.toList[i]?=some f:=by simpa using hif);(rw [this];rfl)
 . rw [List.getElem?_map,List.getElem?_eq_getElem hi];rfl
end
end Go.Proofs.YtneffpbodfjceaaGreatDoor