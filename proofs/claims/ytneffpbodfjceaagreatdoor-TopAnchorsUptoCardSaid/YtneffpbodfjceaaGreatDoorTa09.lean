/- Texts laid together. -/
import Derived.Test.YtneffpbodfjceaaGreatDoorTa08
import Derived.Lib.ValidLaws
import Derived.Lib.TrimUEq
import Derived.Laws.OwnMore
set_option linter.unusedVariables false
set_option linter.unusedSimpArgs false
set_option maxRecDepth 100000
set_option maxHeartbeats 16000000
namespace Go.Proofs.YtneffpbodfjceaaGreatDoor
section
open Go.RowKit
def valA (chain al:List Nat) (pv us:List Value) (gs:Nat->Option Nat) (j:Nat):Value :=
 match chain.idxOf? j with
 | some i=>us.getD i undef
 | none=>if al.contains j then .pointer ((gs j).map fun g=>⟨g,0,none⟩) else pv.getD j undef
def upd (gs:Nat->Option Nat) (j g:Nat):Nat->Option Nat:=fun k=>if k=j then some g else gs k
theorem qCv (gs:Nat->Option Nat) (j g:Nat):upd gs j g j=some g:=by simp [upd]
theorem qEi (gs:Nat->Option Nat) {j k:Nat} (h:k≠j) (g:Nat):upd gs j g k=gs k:=by simp [upd,h]
def AlInv (ops:Array Oper) (chain al:List Nat) (pv:List Value) (a0:Act) (J:List Value->(Nat->Option Nat)->World->Prop) (l:Array Bool) (a:Act) (w:World):Prop :=
 l.size=ops.size/\a.defers=a0.defers/\a.tmps.size=a0.tmps.size/\(∀ s,(∀ j,dstO ops j=some s->l.getD j false=false)->a.tmps[s]?=a0.tmps[s]?) /\
 (∀ j o,l.getD j false=true->ops[j]?=some o->∀ d∈o.after,Region.binds .any d=true->l.getD d.on false=true) /\
 ∃ (us:List Value) (gs:Nat->Option Nat),us.length<=chain.length/\(∀ i c,chain[i]?=some c->(l.getD c false=true↔i<us.length))/\(∀ j,al.contains j=true->(l.getD j false=true↔(gs j).isSome=true)) /\
  (∀ j s,l.getD j false=true->dstO ops j=some s->a.tmps[s]?=some (valA chain al pv us gs j))/\J us gs w
structure zNf (slots:List (Option Nat)) (deps:List (List Nat)) (chain al:List Nat) (pv us:List Value) (gs:Nat->Option Nat) (a0 a:Act) (i:Nat):Prop where
 old:∀ (s:Nat) (v:Value),slots.contains (some s)=false->a0.eval (.tmp s)=v->a.eval (.tmp s)=v
 pure:∀ (j s:Nat) (v:Value),(deps.getD i []).contains j=true->slots[j]?=some (some s)->chain.contains j=false->al.contains j=false->pv[j]?=some v->a.eval (.tmp s)=v
 link:∀ (p j s:Nat) (v:Value),chain[p]?=some j->(deps.getD i []).contains j=true->slots[j]?=some (some s)->us[p]?=some v->a.eval (.tmp s)=v
 ptr:∀ (j s:Nat),(deps.getD i []).contains j=true->slots[j]?=some (some s)->chain.contains j=false->al.contains j=true->∃ g,gs j=some g/\a.eval (.tmp s) = .pointer (some ⟨g,0,none⟩)
 made:∀ (j:Nat),(deps.getD i []).contains j=true->al.contains j=true->(gs j).isSome=true
 did:∀ (p j:Nat),chain[p]?=some j->(deps.getD i []).contains j=true->p<us.length
 olds:∀ (p j s:Nat) (v:Value),chain[p]?=some j->slots[j]?=some (some s)->us.length<=p->a0.eval (.tmp s)=v->a.eval (.tmp s)=v
def qFy (ops:Array Oper) (chain al:List Nat) (pv us:List Value) (gs:Nat->Option Nat):List (Nat × Value):=(List.range ops.size).filterMap fun j=>(dstO ops j).map fun s=>(s,valA chain al pv us gs j)
theorem qBb {P:Program} {ops:Array Oper} {Q:Exit->Act->World->Prop} {id:Nat} {a0:Act} {W:World} (slots:List (Option Nat)) (deps:List (List Nat)) (chain al:List Nat) (pv:List Value) (obj:Nat->Obj) (J:List Value->(Nat->Option Nat)->World->Prop) (hm:P.follows .mixedOrders=true) (hdst:qGi ops a0.tmps.size=true) (hord:ordB 0 ops.toList=true)
 (hs:ops.toList.map (·.dst)=slots) (hd:ops.toList.map qFm=deps) (hg:ops.toList.all (fun o=>o.guard.isNone)=true) (hch:qEl ops chain=true) (hnd:chain.Nodup) (hal:(al.all fun j=>decide (j<ops.size) && !chain.contains j)=true) (h0:J [] (fun _=>none) W.drew)
 (halloc:∀ (i:Nat) (o:Oper),ops[i]?=some o->al.contains i=true->∀ (a:Act) (w:World) (K:Act->World->Prop),K (a.put o.dst (.pointer (some ⟨w.heap.size,0,none⟩))) (w.alloc (obj i))->Oper.wp P o a w K Q)
 (hJal:∀ (i:Nat),al.contains i=true->∀ us gs w,J us gs w->gs i=none->(∀ p c,chain[p]?=some c->(deps.getD c []).contains i=true->us.length<=p)->J us (upd gs i w.heap.size) (w.alloc (obj i)))
 (hpure:∀ (i:Nat) (o:Oper),ops[i]?=some o->chain.contains i=false->al.contains i=false->∀ (a:Act) (w:World) (us:List Value) (gs:Nat->Option Nat) (K:Act->World->Prop),J us gs w->zNf slots deps chain al pv us gs a0 a i->(∀ p c,chain[p]?=some c->(deps.getD c []).contains i=true->us.length<=p)->K (a.put o.dst (pv.getD i undef)) w->Oper.wp P o a w K Q)
 (hlink:∀ (p c:Nat) (o:Oper),chain[p]?=some c->ops[c]?=some o->∀ (a:Act) (w:World) (us:List Value) (gs:Nat->Option Nat) (K:Act->World->Prop),us.length=p->J us gs w->zNf slots deps chain al pv us gs a0 a c->(∀ v w',J (us++[v]) gs w'->K (a.put o.dst v) w')->Oper.wp P o a w K Q)
 (hQ:∀ us gs w,us.length=chain.length->(∀ j,al.contains j=true->(gs j).isSome=true)->J us gs w->Q .normal { a0 with tmps:=(qFy ops chain al pv us gs).foldl (fun t p=>t.setIfInBounds p.1 p.2) a0.tmps } w) :
 (Code.region id ops true).wp P Q a0 W:=by
 have hgd:∀ (i:Nat) (o:Oper),ops[i]?=some o->o.guard=none:=fun i o ho=>by
  have:=List.all_eq_true.1 hg o (by simpa using Array.mem_of_getElem? ho);simpa using this
 have hdep:∀ (i:Nat) (o:Oper),ops[i]?=some o->deps.getD i []=qFm o:=fun i o ho=>by
  rw [← hd,List.getD_eq_getElem?_getD,List.getElem?_map];(have:ops.toList[i]?=some o:=by simpa using ho);(rw [this];rfl)
 have hsl:∀ j s,slots[j]?=some (some s)->dstO ops j=some s:=fun j s h=>by
  rw [← hs,List.getElem?_map,Option.map_eq_some_iff] at h;obtain ⟨o',h1,h2⟩:=h;(have h1':ops[j]?=some o':=by simpa using h1);simp [dstO,h1',h2]
 have hallt:∀ j,al.contains j=true->j<ops.size/\chain.contains j=false:=fun j hj=>by
  have:=List.all_eq_true.1 hal j (by simpa using hj);simpa using this
 refine wp_region_any hm ?_;refine qGv (AlInv ops chain al pv a0 J) (fun l a w h=>h.1) ?_ (zGk hord) ?_ _ _ _ _ (by simp) ?_
 . intro l a w hI i o ho hl hall K hK
   obtain ⟨hsz0,hdf,hsz,hnot,hcl,us,gs,hul,hcu,hga,hval,hJ⟩:=hI;have hi:i<ops.size:=(Array.getElem?_eq_some_iff.1 ho).1;have hnl:=qIs hl;have hself:(l.setIfInBounds i true).getD i false=true:=qFc (by omega)
   have hdone:∀ j,(deps.getD i []).contains j=true->l.getD j false=true:=fun j hj=>by
    rw [hdep i o ho] at hj;obtain ⟨d,hd1,hd2,hd3⟩:=qDy (qDk hj);rw [← hd3];exact hall d hd1 hd2
   have hfind:zNf slots deps chain al pv us gs a0 a i:=by
    refine ⟨fun s v hc hv=>?_,fun j s v he hj hc ha hv=>?_,fun p j s v hp he hj hv=>?_,fun j s he hj hc ha=>?_,fun j he ha=>(hga j ha).1 (hdone j he),fun p j hp he=>(hcu p j hp).1 (hdone j he),fun p j s v hp hj hl0 hv=>by
     have:=hnot s fun j' hj'=>by
      have e:j'=j:=qHt hdst hj' (hsl j s hj);subst e
      cases hx:l.getD j' false
      . rfl
      . exact absurd ((hcu p _ hp).1 hx) (by omega)
     rw [← hv]
     simp [Act.eval,this]⟩
    . have hn:some s ∉ ops.toList.map (·.dst):=by rw [hs];simpa using hc
      have:=hnot s (fun j hj=>by
       unfold dstO at hj;rw [Option.bind_eq_some_iff] at hj;obtain ⟨o',h1,h2⟩:=hj
       exact absurd (List.mem_map.2 ⟨o',by simpa using Array.mem_of_getElem? h1,h2⟩) hn)
      rw [← hv];simp [Act.eval,this]
    . refine qAg ?_
      rw [hval j s (hdone j he) (hsl j s hj)];have:chain.idxOf? j=none:=qBx (by simpa using hc);simp only [valA,this,ha];simp [hv]
    . refine qAg ?_
      rw [hval j s (hdone j he) (hsl j s hj)];have:chain.idxOf? j=some p:=qBk hnd hp;simp only [valA,this];simp [hv]
    . obtain ⟨g,hg'⟩:=Option.isSome_iff_exists.1 ((hga j ha).1 (hdone j he))
      refine ⟨g,hg',qAg ?_⟩;rw [hval j s (hdone j he) (hsl j s hj)];have:chain.idxOf? j=none:=qBx (by simpa using hc);simp only [valA,this,ha,hg'];rfl
   have hclosed:∀ j o',(l.setIfInBounds i true).getD j false=true->ops[j]?=some o'->∀ d∈o'.after,Region.binds .any d=true->(l.setIfInBounds i true).getD d.on false=true:=by
    intro j o' hj ho' d hd hb
    have mono:∀ k,l.getD k false=true->(l.setIfInBounds i true).getD k false=true:=fun k hk=>by
     by_cases hik:i=k
     . subst hik;exact hself
     . rw [qAj hik];exact hk
    by_cases hij:i=j
    . subst hij
      rw [ho] at ho'
      cases ho'
      exact mono _ (hall d hd hb)
    . rw [qAj hij] at hj
      exact mono _ (hcl j o' hj ho' d hd hb)
   have hput:∀ v s,(∀ j,dstO ops j=some s->(l.setIfInBounds i true).getD j false=false)->(a.put o.dst v).tmps[s]?=a0.tmps[s]?:=fun v s hsn=>by
    have hsn':∀ j,dstO ops j=some s->l.getD j false=false:=fun j hj=>by
     have h1:=hsn j hj
     by_cases hij:i=j
     . subst hij;rw [hself] at h1;cases h1
     . rwa [qAj hij] at h1
    cases hd:o.dst with
    | none=>simp only [Act.put];exact hnot s hsn'
    | some t =>
     have:dstO ops i=some t:=by unfold dstO;rw [ho];exact hd
     have hts:t≠s:=fun e=>by
      have h1:=hsn i (by rw [this,e]);(rw [hself] at h1;cases h1)
     simp only [Act.put];rw [Array.getElem?_setIfInBounds_ne hts];exact hnot s hsn'
   have hputd:∀ v,(a.put o.dst v).defers=a0.defers/\(a.put o.dst v).tmps.size=a0.tmps.size:=fun v=>by
    cases hd:o.dst with
    | none=>exact ⟨hdf,hsz⟩
    | some t=>exact ⟨hdf,by simpa [Act.put] using hsz⟩
   have hputv:∀ us' gs' v,valA chain al pv us' gs' i=v->(∀ j,l.getD j false=true->valA chain al pv us' gs' j=valA chain al pv us gs j)->∀ j s,(l.setIfInBounds i true).getD j false=true->dstO ops j=some s->(a.put o.dst v).tmps[s]?=some (valA chain al pv us' gs' j):=by
    intro us' gs' v hv hsame j s hj hd
    by_cases hij:i=j
    . subst hij
      (have hod:o.dst=some s:=by unfold dstO at hd;rw [ho] at hd;exact hd);rw [hod,hv];have:=qZo hdst hd;simp [Act.put,hsz,this]
    . rw [qAj hij] at hj
      rw [hsame j hj]
      cases hod:o.dst with
      | none=>simp only [Act.put];exact hval j s hj hd
      | some t =>
       (have h1:dstO ops i=some t:=by unfold dstO;rw [ho];exact hod);(have hts:t≠s:=fun e=>hij (qHt hdst h1 (by rw [hd,e])));simp only [Act.put];rw [Array.getElem?_setIfInBounds_ne hts];exact hval j s hj hd
   have hlim:i ∉ chain->∀ p c,chain[p]?=some c->(deps.getD c []).contains i=true->us.length<=p:=fun hic p c hp he=>by
    rcases Nat.lt_or_ge p us.length with h | h
    . have hclt:=qEs hch hp
      (have hoc:ops[c]?=some ops[c]:=by simp [hclt]);rw [hdep c _ hoc] at he;obtain ⟨d,hd1,hd2,hd3⟩:=qDy (qDk he);have:=hcl c _ ((hcu p c hp).2 h) hoc d hd1 hd2;rw [hd3,hnl] at this
      cases this
    . exact h
   refine qAm (hgd i o ho) ?_
   by_cases hc:i∈chain
   . obtain ⟨p,hp⟩:=List.getElem?_of_mem hc
     have hle:us.length<=p:=by
      rcases Nat.lt_or_ge p us.length with h | h
      . have:=(hcu p i hp).2 h
        rw [hnl] at this
        cases this
      . exact h
     have hge:p<=us.length:=by
      cases p with
      | zero=>omega
      | succ q =>
       have hpl:=(List.getElem?_eq_some_iff.1 hp).1;have hq:chain[q]?=some chain[q]:=List.getElem?_eq_getElem (by omega);have:=(hcu q _ hq).1 (qIo hcl hall hch hq hp ho);omega
     have hpl:=(List.getElem?_eq_some_iff.1 hp).1;refine hlink p i o hp ho a w us gs K (by omega) hJ hfind (fun v w' hJ'=>?_);apply hK;(have hlen:(us++[v]).length=us.length+1:=by simp);refine ⟨by simpa using hsz0,(hputd v).1,(hputd v).2,hput v,hclosed,us++[v],gs,by rw [hlen];omega,fun q c hq=>?_,fun j hj=>?_,hputv _ gs v ?_ ?_,hJ'⟩
     . rw [hlen]
       by_cases hic:i=c
       . subst hic
         have:q=p:=by
          have h1:=qBk hnd hq;have h2:=qBk hnd hp;rw [h1] at h2;exact Option.some.inj h2
         rw [hself];simp;omega
       . rw [qAj hic,hcu q c hq]
         (have:q≠p:=fun e=>hic (by rw [e,hp] at hq;exact Option.some.inj hq));omega
     . have:i≠j:=fun e=>by
        have:=(hallt j hj).2;rw [← e] at this;exact absurd hc (by simpa using this)
       rw [qAj this];exact hga j hj
     . simp only [valA,qBk hnd hp]
       rw [List.getD_eq_getElem?_getD,List.getElem?_append_right (by omega)];(have:p-us.length=0:=by omega);simp [this]
     . intro j hj
       unfold valA
       cases hx:chain.idxOf? j with
       | none=>rfl
       | some q =>
        have hq:chain[q]?=some j:=by
         obtain ⟨h1,h2,_⟩:=List.idxOf?_eq_some_iff.1 hx;rw [List.getElem?_eq_getElem h1,h2]
        have:=(hcu q j hq).1 hj;simp only [List.getD_eq_getElem?_getD];rw [List.getElem?_append_left this]
   . have hcf:chain.contains i=false:=by simpa using hc
     have hcq:∀ q c,chain[q]?=some c->((l.setIfInBounds i true).getD c false=true↔q<us.length):=fun q c hq=>by
      (have:i≠c:=fun e=>hc (by rw [e];exact List.mem_of_getElem? hq));rw [qAj this];exact hcu q c hq
     cases ha:al.contains i with
     | true =>
      have hgn:gs i=none:=by
       have:=hga i ha;rw [hnl] at this
       cases h:gs i with
       | none=>rfl
       | some g=>rw [h] at this;simp at this
      refine halloc i o ho ha a w K ?_;apply hK;refine ⟨by simpa using hsz0,(hputd _).1,(hputd _).2,hput _,hclosed,us,upd gs i w.heap.size,hul,hcq,fun j hj=>?_,hputv us _ _ ?_ (fun j hj=>?_),hJal i ha us gs w hJ hgn (hlim hc)⟩
      . by_cases hij:j=i
        . subst hij
          rw [hself,qCv];simp
        . rw [qAj (Ne.symm hij),qEi _ hij]
          exact hga j hj
      . simp only [valA,qBx hc,ha,qCv]
        rfl
      . have hij:j≠i:=fun e=>by rw [e,hnl] at hj;cases hj
        simp only [valA,qEi _ hij]
     | false =>
      refine hpure i o ho hcf ha a w us gs K hJ hfind (hlim hc) ?_;apply hK;refine ⟨by simpa using hsz0,(hputd _).1,(hputd _).2,hput _,hclosed,us,gs,hul,hcq,fun j hj=>?_,hputv us gs _ ?_ (fun _ _=>rfl),hJ⟩
      . have:i≠j:=fun e=>by rw [e,hj] at ha;cases ha
        rw [qAj this];exact hga j hj
      . simp only [valA,qBx hc,ha]
        rfl
 . rintro l a w ⟨hsz0,hdf,hsz,hnot,hcl,us,gs,hul,hcu,hga,hval,hJ⟩ hall
   have hlen:us.length=chain.length:=by
    rcases Nat.lt_or_ge us.length chain.length with h | h
    . have hq:chain[us.length]?=some chain[us.length]:=List.getElem?_eq_getElem h
      have:=(hcu _ _ hq).1 (hall _ (qEs hch hq));omega
    . omega
   have hfr:=qIr (a0:=a0.tmps) (qFy ops chain al pv us gs) a.tmps a0.tmps hsz (fun p hp=>by
    obtain ⟨j,hj,hv⟩:=List.mem_filterMap.1 hp;rw [Option.map_eq_some_iff] at hv;obtain ⟨s,hd,rfl⟩:=hv
    exact hval j s (hall j (by simpa using hj)) hd) (fun s hsn=>hnot s fun j hj=>absurd (by
     have hjl:j<ops.size:=by
      unfold dstO at hj;rw [Option.bind_eq_some_iff] at hj;obtain ⟨o',h1,_⟩:=hj;exact (Array.getElem?_eq_some_iff.1 h1).1
     rw [List.mem_map]
     exact ⟨(s,valA chain al pv us gs j),List.mem_filterMap.2 ⟨j,by simpa using hjl,by rw [hj];rfl⟩,rfl⟩) hsn)
   have:a={ a0 with tmps:=(qFy ops chain al pv us gs).foldl (fun t p=>t.setIfInBounds p.1 p.2) a0.tmps }:=by
    obtain ⟨at_,ad⟩:=a;simp only at hfr hdf;rw [hfr,hdf]
   rw [this];exact hQ us gs w hlen (fun j hj=>(hga j hj).1 (hall j (hallt j hj).1)) hJ
 . refine ⟨by simp,rfl,rfl,fun _ _=>rfl,fun j o h=>?_,[],fun _=>none,by simp,fun i c hc=>?_,fun j hj=>?_,fun j s h=>?_,h0⟩
   . simp [Array.getElem?_replicate] at h
     split at h<;>simp at h
   . have:(Array.replicate ops.size false).getD c false=false:=by
      simp [Array.getElem?_replicate]
      split<;>rfl
     rw [this];simp
   . have:(Array.replicate ops.size false).getD j false=false:=by
      simp [Array.getElem?_replicate]
      split<;>rfl
     rw [this];simp
   . simp [Array.getElem?_replicate] at h
     split at h<;>simp at h
end
section
open Go.RowKit Go.Maps
section
variable {T T':TypeId} {w w1 w2:World}
end
section
variable {T:TypeId} {al p:Nat} {cs0 cs1:Array Value} {r0:Value} {W w w2:World} {us:List Value} {gs:Nat->Option Nat} {v:Value}
end
section
variable {T:TypeId} {size:Nat} {cells:Array Value} {base:Nat} {v:Value} {k:Nat} {xs:List Value} {W w' w2:World} {u0 u1:Value}
end
section
variable {g o:Nat} {i a b:Value} {W w':World} {u0 u1:Value}
end
end
section
open Go.RowKit
structure EW (W:World) where
 w:World
 ext:Ext W w
instance ewInh (W:World):Nonempty (EW W):=⟨⟨W,Ext.refl W⟩⟩
theorem EW.calls {P:Program} {W:World} {f:FuncId} {args:Array Value} {v:Value} (x:EW W) (h:Calls P f args x.w fun e w'=>e = .returned v/\Ext x.w w') :
 Calls P f args x.w fun e w''=>e = .returned v/\∃ y:EW W,w''=y.w :=
 h.mono fun _ w' ⟨he,hx⟩=>⟨he,⟨w',x.ext.trans hx⟩,rfl⟩
theorem qBr {P:Program} {id:Nat} {Q:Exit->Act->World->Prop} {a:Act} {w:World} {l:List Oper} (W:World) (hW:Ext W w) (hm:P.follows .mixedOrders=true) (hB:Region.lexB .any l.toArray=true)
 (h:wpQuiet P l.toArray (fun w'=>∃ x:EW W,w'=x.w) (fun a'=>∀ w',(∃ x:EW W,w'=x.w)->Q .normal a' w') l a):(Code.region id l.toArray true).wp P Q a w :=
 wp_region_quiet (C:=fun w'=>∃ x:EW W,w'=x.w) hm hB ⟨⟨{ w with drawn:=w.drawn+1 },hW.drew⟩,rfl⟩ (by simpa using h)
theorem zLb {w:World} {L:Nat} {e:TypeId} {size:Nat} {v:Value} {n:Nat} {xs ys:List Value} (h:w.ownsRow L e size v n xs) (k:w.ownsRow L e size v n ys):ys=xs:=by
 rcases h.2 with ⟨rfl,rfl⟩ | ⟨g,cap,cur,rfl,_,hb,_,_,_,hx⟩
 . have h1:=h.1
   have h2:=k.1;rw [Nat.zero_mul] at h1 h2;rw [List.eq_nil_of_length_eq_zero h1,List.eq_nil_of_length_eq_zero h2]
 . rcases k.2 with ⟨e1,_⟩ | ⟨g',cap',cur',e1,_,hb',_,_,_,hx'⟩
   . cases e1
   . cases e1
     rw [hb] at hb'
     cases hb'
     rw [← hx,← hx']
theorem qDq {w:World} {L:Nat} {e:TypeId} {size:Nat} {v:Value} {n:Nat} {xs:List Value} (h:w.ownsRow L e size v n xs):∃ A c,v = .slice A n c:=by
 rcases h.2 with ⟨rfl,rfl⟩ | ⟨g,cap,cur,rfl,_⟩
 . exact ⟨none,0,rfl⟩
 . exact ⟨_,_,rfl⟩
theorem qBs.push {w w1:World} {L k:Nat} {v v':Value} {l:List Ev} {e:Ev} {hs:List EH} {A':Option Addr} {n' c':Nat} (h1:w.ownsRow L 54 7 v k (hs.flatMap EH.vals)) (h:qBs w L v k l) (hg:qFu w L (EH.of e A' n' c') e) (hgr:w.grownBy w1 v.ownBlock)
 (hO:w1.ownsRow L 54 7 v' (k+1) (hs.flatMap EH.vals++(e.cells A' n' c').toList)):qBs w1 L v' (k+1) (l++[e]) :=
 h.snoc hg hgr fun xs hx=>by rw [zLb h1 hx];exact hO
theorem qBs.heads {w:World} {L n:Nat} {v:Value} {l:List Ev} (h:qBs w L v n l):∃ hs:List EH,w.ownsRow L 54 7 v n (hs.flatMap EH.vals):=h.elim fun hs h=>⟨hs,h.1⟩
section
variable {d:Doc} {cs:Array Value} {rn cn k:Nat} {w wr w1 w2:World} {v1 v2 v v':Value}
end
def Doc.zero:Doc:=⟨⟨#[]⟩,⟨#[]⟩,0,false,0,[],[],[]⟩
theorem zFd {d:Doc} (h:d.err=0):d.headErr=0/\qEc d.regs=0/\d.evs.length<=400/\qCr d.regs d.last [] d.evs=0/\d.coms.length<=64/\qCe d.last d.evs none d.coms=0:=by
 unfold Doc.err at h
 split at h
 . rename_i h1;exact absurd h h1
 . rename_i h1
   split at h
   . rename_i h2;exact absurd h h2
   . rename_i h2
     split at h
     . simp at h
     . rename_i h3
       split at h
       . rename_i h4;exact absurd h h4
       . rename_i h4
         split at h
         . simp at h
         . rename_i h5
           exact ⟨by simpa using h1,by simpa using h2,by omega,by simpa using h4,by omega,h⟩
theorem head_ok' {d:Doc} (h:d.headErr=0):vld d.title=true/\d.title.size<=400/\¬ (d.lang.toList.isEmpty=false/\qCt d.lang=false)/\qIb d.rate d.drop=true/\0<=d.last/\d.last<=1099511627776:=by
 unfold Doc.headErr at h
 split at h
 . simp at h
 . rename_i h1
   split at h
   . simp at h
   . rename_i h2
     split at h
     . simp at h
     . rename_i h3
       split at h
       . simp at h
       . rename_i h4
         split at h
         . simp at h
         . rename_i h5
           exact ⟨by simpa using h1,by omega,h3,by simpa using h4,by omega,by omega⟩
theorem zMj {regs:List Reg} {last:Int}:∀ {l pre:List Ev},qCr regs last pre l=0->∀ (k:Nat) (x:Ev),l[k]?=some x ->
 x.err regs=0/\x.id<=last/\¬ (((pre++l.take k).getLast?.map fun p=>qDw p x)=some false)/\qBd (pre++l.take k) x.id=none
 | [],pre,_,k,x,hx=>by simp at hx
 | y :: l,pre,h,0,x,hx=>by
  (simp at hx;subst hx);rw [qMr] at h
  split at h
  . rename_i h1;exact absurd h h1
  . rename_i h1
    (have h1':qGc regs last pre y=0:=by simpa using h1);unfold qGc at h1'
    split at h1'
    . rename_i h2;exact absurd h1' h2
    . rename_i h2
      split at h1'
      . simp at h1'
      . rename_i h3
        split at h1'
        . simp at h1'
        . rename_i h4
          split at h1'
          . simp at h1'
          . rename_i h5
            refine ⟨by simpa using h2,by omega,by simpa using h4,?_⟩;simp only [List.take_zero,List.append_nil]
            cases hf:qBd pre y.id with
            | none=>rfl
            | some j=>rw [hf] at h5;simp at h5
 | y :: l,pre,h,k+1,x,hx=>by
  rw [qMr] at h
  split at h
  . rename_i h1;exact absurd h h1
  . have:=zMj h k x (by simpa using hx)
    simpa using this
theorem zFu {regs:List Reg} {last:Int}:∀ {l pre:List Ev},(∀ (k:Nat) (x:Ev),l[k]?=some x->qGc regs last (pre++l.take k) x=0)->qCr regs last pre l=0
 | [],pre,_=>rfl
 | y :: l,pre,h=>by
  have h0:=h 0 y rfl;simp at h0;rw [qMr,if_neg (by simpa using h0)];(refine zFu fun k x hx=>?_);have:=h (k+1) x (by simpa using hx);simpa using this
theorem zFc {last:Int} {evs:List Ev} {l:List Com} (h:qCe last evs none l=0):∀ (k:Nat) (c:Com),l[k]?=some c->c.err last evs (qEp l k)=0:=by
 have key:∀ k,k<=l.length->qCe last evs (qEp l k) (l.drop k)=0:=by
  intro k
  induction k with
  | zero=>intro _;exact h
  | succ k ih =>
   intro hk;have h1:=ih (by omega);obtain ⟨c,hc⟩:∃ c,l[k]?=some c:=⟨_,List.getElem?_eq_getElem (by omega)⟩;obtain ⟨h2,h3⟩:=qNk hc h1.symm
   by_cases he:c.err last evs (qEp l k)=0
   . exact (h3 he).symm
   . exact absurd (h2 he).symm he
 intro k c hc;have hk:=(List.getElem?_eq_some_iff.1 hc).1;obtain ⟨h2,_⟩:=qNk hc (key k (by omega)).symm
 by_cases he:c.err last evs (qEp l k)=0
 . exact he
 . exact absurd (h2 he).symm he
theorem zFb {c:Com} {last:Int} {evs:List Ev} {p:Option Int} (h:c.err last evs p=0):1<=c.id/\c.id<=last/\¬ ((p.map fun q=>decide (c.id<=q))=some true)/\qBd evs c.id=none/\c.anchorErr last evs=0/\qCt c.author=true/\vld c.text=true/\c.text.toList.isEmpty=false/\c.text.size<=400:=by
 unfold Com.err at h
 split at h
 . simp at h
 . rename_i h1
   split at h
   . simp at h
   . rename_i h2
     split at h
     . simp at h
     . rename_i h3
       split at h
       . rename_i h4;exact absurd h h4
       . rename_i h4
         split at h
         . simp at h
         . rename_i h5
           split at h
           . simp at h
           . rename_i h6
             split at h
             . simp at h
             . rename_i h7
               split at h
               . simp at h
               . rename_i h8
                 refine ⟨by omega,by omega,h2,?_,by simpa using h4,by simpa using h5,by simpa using h6,by simpa using h7,by omega⟩
                 cases hf:qBd evs c.id with
                 | none=>rfl
                 | some j=>rw [hf] at h3;simp at h3
theorem qUj {c:Com} {last:Int} {evs:List Ev} (h:c.anchorErr last evs=0):1<=c.ev/\c.ev<=last/\(c.lost=true->c.fr=0/\c.til=0)/\(c.lost=false->∃ k e,qBd evs c.ev=some k/\evs[k]?=some e/\0<=c.fr/\c.fr<c.til/\c.til<=e.len):=by
 by_cases h1:c.ev<1\/last<c.ev
 . rw [zMh h1] at h;simp at h
 cases hl:c.lost
 . cases hf:qBd evs c.ev with
   | none=>rw [qZm h1 hl hf] at h;simp at h
   | some k =>
    have hk:=qSl hf;rw [qZn h1 hl hf (List.getElem?_eq_getElem hk)] at h
    split at h
    . simp at h
    . refine ⟨by omega,by omega,fun hh=>by simp at hh,fun _=>⟨k,_,rfl,List.getElem?_eq_getElem hk,by omega,by omega,by omega⟩⟩
 . rw [qZl h1 hl] at h
   split at h
   . simp at h
   . exact ⟨by omega,by omega,fun _=>by omega,fun hh=>by simp at hh⟩
theorem zQp {e:Ev} {regs:List Reg} (h:e.err regs=0):1<=e.id/\e.id<=1099511627776/\qIi e.inn e.out=true:=by
 unfold Ev.err at h
 split at h
 . simp at h
 . rename_i h1
   refine ⟨by omega,by omega,?_⟩
   cases hs:qIi e.inn e.out
   . exact absurd (.inr (.inr hs)) h1
   . rfl
end
section
open Go.RowKit Go.Maps
theorem qJf {P:Program} {fn:Func} {p u v:Tmp} {ty:TypeId} (h:fn.results=#[.cell p ty,.tmp u,.tmp v]) {tmps:Array Value} {w:World} {g:Nat} {t:TypeId} {cs:Array Value} {d:TypeDesc} (hp:tmps.getD p undef = .pointer (some ⟨g,0,none⟩))
 (hB:Blk w g t cs) (hu:P.underlying ty=some d) (hd:d.isRow=true) (hi:(P.info? ty).map (·.size)=some cs.size):(results fn tmps).run P w = .ok (.tuple #[.agg cs,tmps.getD u undef,tmps.getD v undef]) w:=by
 have h1:=qEw (P:=P) g t ty cs d hB hu hd hi;simp only [results,h];(have e:tmps[p]?.getD undef = .pointer (some ⟨g,0,none⟩):=by simpa using hp);simp [Sem.run_bind,e,qGq,h1]
def zJv:DocH:=⟨none,0,0,none,0,0,none,0,0⟩
theorem qKg:Doc.zero.cells zJv=qAl:=rfl
section
variable {d:Doc} {b m:Int} {drop:Bool}
end
section
variable {d:Doc} {h hh:DocH} {b m:Int} {oc:Array Value} {B M k:Nat} {w wr w1:World} {v:Value}
end
end
section
open Go.RowKit Go.ChangeShapes Go.WideShapes Go.ChangeAt
set_option maxRecDepth 100000
theorem qUo:Tryz.prog.cellsOf 29=5:=by kernel_rfl
theorem zBl {H:Type} {enc:TypeId × Value->H} {W:World} {base:Nat} {v:Value} {d:DataW H} {p:List MemPlace} (hv:Value.okWide Tryz.prog W .any base 29 v) (h:DataW.Trod enc Tryz.prog W 0 (fun _=>true) true 29 v d p)
 (hw:∀ n∈d.weights Tryz.prog 29,n<=reachBytes):∃ (ev fr til:Int) (au tx:ByteArray),v = .agg #[.int .i64 ev,.int .i64 fr,.int .i64 til,.string au,.string tx]/\IW ev/\IW fr/\IW til/\au.size<=140737488351232/\tx.size<=140737488351232:=by
 obtain ⟨cs,rfl⟩:=qLu Tryz.underlying29 hv;obtain ⟨fuel,h⟩:=h;obtain ⟨hl,hf⟩:=qCa.fields Tryz.underlying29 h hw;rw [qUo] at hl;obtain ⟨v0,v1,v2,v3,v4,he⟩:=qHz hl;obtain ⟨a0,h0,s0⟩:=hf 0 _ rfl (qCa.int Tryz.underlying2);obtain ⟨a1,h1,s1⟩:=hf 1 _ rfl (qCa.int Tryz.underlying3);obtain ⟨a2,h2,s2⟩:=hf 2 _ rfl (qCa.int Tryz.underlying3);obtain ⟨a3,h3,s3⟩:=hf 3 _ rfl (qCa.string Tryz.underlying9);obtain ⟨a4,h4,s4⟩:=hf 4 _ rfl (qCa.string Tryz.underlying9);rw [he] at h0 h1 h2 h3 h4;simp [qFl,qKd,qCy] at h0 h1 h2 h3 h4;subst h0 h1 h2 h3 h4;refine ⟨a0,a1,a2,a3,a4,?_,bounds_i64 s0,bounds_i64 s1,bounds_i64 s2,s3,s4⟩;have:cs=#[.int .i64 a0,.int .i64 a1,.int .i64 a2,.string a3,.string a4]:=Array.toList_inj.1 he;rw [this]
end
section
open Go.RowKit
def qGz (l:List Ev) (id:Int):Int:=match qBd l id with | none=>-1 | some k=>(k:Int)
theorem zCj {l:List Ev} {id:Int} {k:Nat} {x:Ev} (h:qBd (l.take k) id=none) (hx:l[k]?=some x) (he:x.id=id):qBd l id=some k:=by
 obtain ⟨hk,hxk⟩:=List.getElem?_eq_some_iff.1 hx;unfold qBd at h ⊢;rw [List.findIdx?_eq_some_iff_getElem];refine ⟨hk,by rw [hxk];simpa using he,fun j hj=>?_⟩;have h2:=List.findIdx?_eq_none_iff.1 h (l[j]'(by omega)) (List.mem_of_getElem? (i:=j) (by rw [List.getElem?_take,if_pos hj];exact List.getElem?_eq_getElem _));simpa using h2
theorem zKd {l:List Ev} {id:Int} {k:Nat} {x:Ev} (h:qBd (l.take k) id=none) (hx:l[k]?=some x) (he:x.id≠id):qBd (l.take (k+1)) id=none:=by
 rw [take_snoc' l k x hx,qLh,h];simp [he]
theorem zBa (x:Ev) (A':Option Addr) (n' c':Nat) (g:Nat) (id:Int) (w:World) (hB:Blk w g 2 #[.int .i64 id]) :
 Calls Tryz.prog 132 #[.agg #[.int .i64 x.id,.int .i64 x.inn,.int .i64 x.out,.string x.region,.int .u8 x.kind,.string x.speaker,.slice A' n' c'],.pointer (some ⟨g,0,none⟩)] w fun e w'=>e = .returned (.bool (x.id == id))/\Ext w w':=by
 have HX:=gH ((Ext.refl w).alloc (.cells #[.int .i64 x.id,.int .i64 x.inn,.int .i64 x.out,.string x.region,.int .u8 x.kind,.string x.speaker,.slice A' n' c'] 54));(have hg:∀ o,(w.alloc o).cell? ⟨g,0,none⟩=some (.int .i64 id):=fun o=>(hB.alloc o).cell 0);have hlt:=hB.lt;clear hB;go_enter Tryz.func132,Tryz.ntmps132;go_wp2_with fail;go_ret;exact ⟨rfl,HX.out⟩
def zPs (w1:World) (n:Nat) (id:Int) (l:List Ev) (i:Value) (wr:World):Prop:=∃ k:Nat,k<=n/\i = .int .i64 k/\qBd (l.take k) id=none/\Ext w1 wr
theorem zBb (A:Option Addr) (n c:Nat) (l:List Ev) (g:Nat) (id:Int) (w:World) (hl:qGw w A n l) (hn:n<=4611686018427387904) (hB:Blk w g 2 #[.int .i64 id]) :
 Calls Tryz.prog 131 #[.slice A n c,.func (.func 132) #[] #[.pointer (some ⟨g,0,none⟩)]] w fun e w'=>e = .returned (.int .i64 (qGz l id))/\Ext w w':=by
 have HE:=gH hl;have HLn:=gH hl.len;have HBg:=gH hB;clear hl hB;go_enter Tryz.func131,Tryz.ntmps131;go_wp2_with fail
 go_loopw [8] (fun i wr=>zPs w n id l i wr) (fun i _=>n-(intOf i).toNat)
 case atStart=>exact ⟨0,Nat.zero_le _,rfl,rfl,Ext.refl _⟩
 case round =>
  obtain ⟨k,hk,rfl,hF,hx⟩:=hrel;have HF:=gH hF;clear hF
  by_cases hlt:k<n
  . obtain ⟨b,off,x,A',n',c',rfl,hxx,-,c0,c1,c2,c3,c4,c5,c6⟩:=(HE.out.ext hx).at_ev hlt
    have HXx:=gH hxx;have HCl:=gH (zBa x A' n' c' g id wr (HBg.out.ext hx));clear hxx
    by_cases he:x.id=id
    . have hb:(x.id == id)=true:=by simpa using he
      have HV:=gH (zCj HF.out HXx.out he);rw [hb] at HCl;clear he hb;go_wp2_with fail;refine HCl.out.mono ?_;rintro en w2 ⟨rfl,hx2⟩;go_wp2_with fail;go_ret;exact ⟨qAf (by unfold qGz;rw [HV.out]),hx.trans hx2⟩
    . have hb:(x.id == id)=false:=by simpa using he
      have HV:=gH (zKd HF.out HXx.out he);rw [hb] at HCl;clear he hb;go_wp2_with fail;refine HCl.out.mono ?_;rintro en w2 ⟨rfl,hx2⟩;go_wp2_with fail;exact ⟨⟨k+1,by omega,by go_num,HV.out,hx.trans hx2⟩,by simp [intOf];omega⟩
  . have hkn:k=n:=by omega
    have HV:Hid (qBd l id=none):=by
     show _=_
     have h1:=HF.out
     rwa [List.take_of_length_le (by rw [HLn.out];omega)] at h1
    subst hkn;go_wp2_with fail;go_ret;exact ⟨qAf (by unfold qGz;rw [HV.out]),hx⟩
theorem qHo (d:Doc) (h:DocH) (id:Int) (w:World) (hat:qGw w h.ea h.en d.evs) (hn:h.en<=4611686018427387904) :
 Calls Tryz.prog 45 #[.agg (d.cells h),.int .i64 id] w fun e w'=>e = .returned (.int .i64 (qGz d.evs id))/\Ext w w':=by
 have HX:Hid (Ext w ((w.alloc (.cells (d.cells h) 27)).alloc (.cells #[.int .i64 id] 2))):=((Ext.refl w).alloc _).alloc _;have HI:=gH (fun w' (hx:Ext w w') g hB=>zBb h.ea h.en h.ec d.evs g id w' (hat.ext hx) hn hB);clear hat;unfold Doc.cells at *;go_enter Tryz.func45,Tryz.ntmps45;go_wp2_with fail;refine (HI.out _ HX.out (w.heap.size+1) (Blk.new' (by simp))).mono ?_;rintro en w2 ⟨rfl,hx2⟩;go_wp2_with fail;go_ret;exact ⟨rfl,HX.out.trans hx2⟩
def qFb (l:List Com) (id:Int):Option Nat:=l.findIdx? fun e=>e.id == id
def qHu (l:List Com) (id:Int):Int:=match qFb l id with | none=>-1 | some k=>(k:Int)
theorem qQj (l:List Com) (x:Com) (id:Int):qFb (l++[x]) id=match qFb l id with | some k=>some k | none=>if x.id == id then some l.length else none:=by
 unfold qFb;rw [List.findIdx?_append]
 cases h:l.findIdx? (fun e=>e.id == id) with
 | some k=>simp
 | none=>simp [List.findIdx?_cons]
theorem zCi {l:List Com} {id:Int} {k:Nat} {x:Com} (h:qFb (l.take k) id=none) (hx:l[k]?=some x) (he:x.id=id):qFb l id=some k:=by
 obtain ⟨hk,hxk⟩:=List.getElem?_eq_some_iff.1 hx;unfold qFb at h ⊢;rw [List.findIdx?_eq_some_iff_getElem];refine ⟨hk,by rw [hxk];simpa using he,fun j hj=>?_⟩;have h2:=List.findIdx?_eq_none_iff.1 h (l[j]'(by omega)) (List.mem_of_getElem? (i:=j) (by rw [List.getElem?_take,if_pos hj];exact List.getElem?_eq_getElem _));simpa using h2
theorem zKc {l:List Com} {id:Int} {k:Nat} {x:Com} (h:qFb (l.take k) id=none) (hx:l[k]?=some x) (he:x.id≠id):qFb (l.take (k+1)) id=none:=by
 rw [take_snoc' l k x hx,qQj,h];simp [he]
theorem zAw (x:Com) (g:Nat) (id:Int) (w:World) (hB:Blk w g 2 #[.int .i64 id]) :
 Calls Tryz.prog 201 #[.agg #[.int .i64 x.id,.int .i64 x.ev,.int .i64 x.fr,.int .i64 x.til,.string x.author,.string x.text,.bool x.done,.bool x.lost],.pointer (some ⟨g,0,none⟩)] w fun e w'=>e = .returned (.bool (x.id == id))/\Ext w w':=by
 have HX:=gH ((Ext.refl w).alloc (.cells #[.int .i64 x.id,.int .i64 x.ev,.int .i64 x.fr,.int .i64 x.til,.string x.author,.string x.text,.bool x.done,.bool x.lost] 95));(have hg:∀ o,(w.alloc o).cell? ⟨g,0,none⟩=some (.int .i64 id):=fun o=>(hB.alloc o).cell 0);have hlt:=hB.lt;clear hB;go_enter Tryz.func201,Tryz.ntmps201;go_wp2_with fail;go_ret;exact ⟨rfl,HX.out⟩
def zPp (w1:World) (n:Nat) (id:Int) (l:List Com) (i:Value) (wr:World):Prop:=∃ k:Nat,k<=n/\i = .int .i64 k/\qFb (l.take k) id=none/\Ext w1 wr
theorem zAx (A:Option Addr) (n c:Nat) (l:List Com) (g:Nat) (id:Int) (w:World) (hl:qHj w A n l) (hn:n<=4611686018427387904) (hB:Blk w g 2 #[.int .i64 id]) :
 Calls Tryz.prog 200 #[.slice A n c,.func (.func 201) #[] #[.pointer (some ⟨g,0,none⟩)]] w fun e w'=>e = .returned (.int .i64 (qHu l id))/\Ext w w':=by
 have HE:=gH hl;have HLn:=gH hl.len;have HBg:=gH hB;clear hl hB;go_enter Tryz.func200,Tryz.ntmps200;go_wp2_with fail
 go_loopw [8] (fun i wr=>zPp w n id l i wr) (fun i _=>n-(intOf i).toNat)
 case atStart=>exact ⟨0,Nat.zero_le _,rfl,rfl,Ext.refl _⟩
 case round =>
  obtain ⟨k,hk,rfl,hF,hx⟩:=hrel;have HF:=gH hF;clear hF
  by_cases hlt:k<n
  . obtain ⟨b,off,x,rfl,hxx,c0,c1,c2,c3,c4,c5,c6,c7⟩:=(HE.out.ext hx).at8 hlt
    have HXx:=gH hxx;have HCl:=gH (zAw x g id wr (HBg.out.ext hx));clear hxx
    by_cases he:x.id=id
    . have hb:(x.id == id)=true:=by simpa using he
      have HV:=gH (zCi HF.out HXx.out he);rw [hb] at HCl;clear he hb;go_wp2_with fail;refine HCl.out.mono ?_;rintro en w2 ⟨rfl,hx2⟩;go_wp2_with fail;go_ret;exact ⟨qAf (by unfold qHu;rw [HV.out]),hx.trans hx2⟩
    . have hb:(x.id == id)=false:=by simpa using he
      have HV:=gH (zKc HF.out HXx.out he);rw [hb] at HCl;clear he hb;go_wp2_with fail;refine HCl.out.mono ?_;rintro en w2 ⟨rfl,hx2⟩;go_wp2_with fail;exact ⟨⟨k+1,by omega,by go_num,HV.out,hx.trans hx2⟩,by simp [intOf];omega⟩
  . have hkn:k=n:=by omega
    have HV:Hid (qFb l id=none):=by
     show _=_
     have h1:=HF.out
     rwa [List.take_of_length_le (by rw [HLn.out];omega)] at h1
    subst hkn;go_wp2_with fail;go_ret;exact ⟨qAf (by unfold qHu;rw [HV.out]),hx⟩
theorem zDw (d:Doc) (h:DocH) (id:Int) (w:World) (hat:qHj w h.ca h.cn d.coms) (hn:h.cn<=4611686018427387904) :
 Calls Tryz.prog 129 #[.agg (d.cells h),.int .i64 id] w fun e w'=>e = .returned (.int .i64 (qHu d.coms id))/\Ext w w':=by
 have HX:Hid (Ext w ((w.alloc (.cells (d.cells h) 27)).alloc (.cells #[.int .i64 id] 2))):=((Ext.refl w).alloc _).alloc _;have HI:=gH (fun w' (hx:Ext w w') g hB=>zAx h.ca h.cn h.cc d.coms g id w' (hat.ext hx) hn hB);clear hat;unfold Doc.cells at *;go_enter Tryz.func129,Tryz.ntmps129;go_wp2_with fail;refine (HI.out _ HX.out (w.heap.size+1) (Blk.new' (by simp))).mono ?_;rintro en w2 ⟨rfl,hx2⟩;go_wp2_with fail;go_ret;exact ⟨rfl,HX.out.trans hx2⟩
theorem qUl (s:ByteArray):∀ (f pos:Nat),s.size-pos<=f->Lib.validD (s.data.toList.drop pos)=false->((qAo s pos).all fun r=>decide (0<=idx r))=false
 | f,pos,hf,hv=>by
  by_cases hlt:pos<s.size
  . have hl:s.data.toList.length=s.size:=by simp
    have hne:s.data.toList.drop pos≠[]:=by
     intro h;have:=congrArg List.length h;rw [List.length_drop,hl] at this;simp at this;omega
    rw [Lib.validD_step _ hne,Lib.decodeL_drop,List.drop_drop] at hv;rw [qDf s pos hlt,List.all_cons];have hw:=qGy s pos hlt
    by_cases hc:(Utf8.decode s pos).1=65533/\(Utf8.decode s pos).2=1
    . rw [hc.1]
      (have:decide (0<=idx ((65533:Nat):Int))=false:=by decide +kernel);(rw [this];rfl)
    . rw [if_neg hc] at hv
      match f,hf with
      | 0,hf=>omega
      | f+1,hf=>rw [qUl s f (pos+(Utf8.decode s pos).2) (by omega) (by rw [Nat.add_comm] at hv;rw [Nat.add_comm];exact hv),Bool.and_false]
  . have hl:s.data.toList.length=s.size:=by simp
    have:s.data.toList.drop pos=[]:=List.drop_eq_nil_of_le (by omega);rw [this,Lib.validD_nil] at hv
    cases hv
theorem qPa (s:ByteArray):vld s=((qAo s 0).all fun r=>decide (0<=idx r)):=by
 unfold vld
 cases hv:Lib.validD s.data.toList
 . rw [qUl s s.size 0 (by omega) (by simpa using hv)];rfl
 . rfl
theorem qNy:(Tryz.prog.info? 21).map (fun i=>(i.zero,i.size,i.bytes))=some (some (.int .i32 0),1,4):=by kernel_rfl
theorem qKq (s:ByteArray):∀ f pos,Lib.runeCountFrom s f pos=(qDi s f pos).length
 | 0,_=>rfl
 | f+1,pos=>by
  unfold Lib.runeCountFrom qDi
  split
  . rw [qKq s f,List.length_cons];omega
  . rfl
theorem qJt (s:ByteArray):Lib.runeCount s=(qAo s 0).length:=qKq s s.size 0
theorem qLk {w:World} {base:Nat} {e:TypeId} {size:Nat} {v:Value} {n:Nat} {xs:List Value} (h:w.ownsRow base e size v n xs) {k:Nat} (hk:k<base) (s:ByteArray) (p:Nat):(w.iterAt k s p).ownsRow base e size v n xs:=by
 obtain ⟨h1,h2⟩:=h;refine ⟨h1,?_⟩
 rcases h2 with h2 | ⟨g,cap,cur,a,b,c,d⟩
 . exact .inl h2
 . exact .inr ⟨g,cap,cur,a,b,by rw [Lib.iterAt_other _ _ _ _ _ (by omega)];exact c,d⟩
def qRq (s:ByteArray) (w:World) (g:Nat) (v:Value) (wr:World):Prop :=
 ∃ (pos:Nat) (l:List Int),wr.heap[g]?=some (.stringIter s pos)/\Ext w wr/\qAo s 0=l++qAo s pos/\l.length<=pos/\wr.ownsRow (g+1) 21 1 v l.length (l.flatMap fun x=>[Value.int .i32 x])
def qCp (w:World) (A:Option Addr) (n:Nat) (l:List Int):Prop:=Sl w 1 (Cells fun x=>[.int .i32 x]) A n l
def qHq (s:ByteArray) (w:World) (en:Ending) (w':World):Prop:=∃ A n c,en = .returned (.slice A n c)/\qCp w' A n (qAo s 0)/\n<=c/\Ext w w'
end
end Go.Proofs.YtneffpbodfjceaaGreatDoor
namespace Go.Proofs.YtneffpbodfjceaaGreatDoor.Mv
def pre:List Int->List Int->Nat
 | x :: a,y :: b=>if x=y then pre a b+1 else 0
 | _,_=>0
theorem pre_le:∀ a b:List Int,pre a b<=a.length/\pre a b<=b.length
 | [],b=>by simp [pre]
 | x :: a,[]=>by simp [pre]
 | x :: a,y :: b=>by
  have:=pre_le a b;(simp only [pre,List.length_cons];split<;>omega)
theorem pre_eq:∀ (a b:List Int) (k:Nat),k<pre a b->a[k]?=b[k]?
 | [],b,k,h=>by simp [pre] at h
 | x :: a,[],k,h=>by simp [pre] at h
 | x :: a,y :: b,k,h=>by
  simp only [pre] at h
  split at h
  . rename_i e
    subst e
    cases k with
    | zero=>rfl
    | succ k=>simpa using pre_eq a b k (by omega)
  . omega
theorem zMp:∀ (a b:List Int) (x y:Int),a[pre a b]?=some x->b[pre a b]?=some y->x≠y
 | [],b,x,y,h,_=>by simp at h
 | u :: a,[],x,y,_,h=>by simp at h
 | u :: a,v :: b,x,y,h1,h2=>by
  simp only [pre] at h1 h2
  split at h1
  . rename_i e
    rw [if_pos e] at h2;simp only [List.getElem?_cons_succ] at h1 h2;exact zMp a b x y h1 h2
  . rename_i e
    rw [if_neg e] at h2;simp only [List.getElem?_cons_zero,Option.some.injEq] at h1 h2;subst h1 h2;exact e
theorem pre_step {a b:List Int} {k:Nat} {x y:Int} (h:k<=pre a b) (h1:a[k]?=some x) (h2:b[k]?=some y) (he:x=y):k+1<=pre a b:=by
 rcases Nat.lt_or_ge k (pre a b) with hl | hl
 . exact hl
 . obtain rfl:k=pre a b:=by omega
   exact absurd he (zMp a b x y h1 h2)
theorem pre_stop {a b:List Int} {k:Nat} (h:k<=pre a b) (hs:a.length<=k\/b.length<=k\/∃ x y,a[k]?=some x/\b[k]?=some y/\x≠y):k=pre a b:=by
 have:=pre_le a b
 rcases hs with hs | hs | ⟨x,y,h1,h2,hne⟩
 . omega
 . omega
 . rcases Nat.lt_or_ge k (pre a b) with hl | hl
   . have:=pre_eq a b k hl
     rw [h1,h2] at this;exact absurd (Option.some.inj this) hne
   . omega
def suf (a b:List Int) (p:Nat):Nat:=pre (a.drop p).reverse (b.drop p).reverse
theorem suf_le (a b:List Int) (p:Nat):suf a b p<=a.length-p/\suf a b p<=b.length-p:=by
 have:=pre_le (a.drop p).reverse (b.drop p).reverse;simpa [suf] using this
theorem zAn (a:List Int) (p k:Nat) (h:k<a.length-p):(a.drop p).reverse[k]?=a[a.length-1-k]?:=by
 rw [List.getElem?_reverse (by simpa using h),List.getElem?_drop]
 congr 1
 simp only [List.length_drop];omega
theorem suf_step {a b:List Int} {p k:Nat} {x y:Int} (h:k<=suf a b p) (ha:k<a.length-p) (hb:k<b.length-p) (h1:a[a.length-1-k]?=some x) (h2:b[b.length-1-k]?=some y) (he:x=y):k+1<=suf a b p :=
 pre_step h (by rw [zAn a p k ha];exact h1) (by rw [zAn b p k hb];exact h2) he
theorem suf_stop {a b:List Int} {p k:Nat} (h:k<=suf a b p) (hs:a.length-p<=k\/b.length-p<=k\/∃ x y,k<a.length-p/\k<b.length-p/\a[a.length-1-k]?=some x/\b[b.length-1-k]?=some y/\x≠y):k=suf a b p:=by
 refine pre_stop h ?_
 rcases hs with hs | hs | ⟨x,y,g1,g2,h1,h2,hne⟩
 . exact .inl (by simpa using hs)
 . exact .inr (.inl (by simpa using hs))
 . exact .inr (.inr ⟨x,y,by rw [zAn a p k g1];exact h1,by rw [zAn b p k g2];exact h2,hne⟩)
def from_ (n m p s:Nat) (i:Int):Int:=if (n:Int)-s<=i then i+m-n else if i<p then i else m-s
def to_ (n m p s:Nat) (i:Int):Int:=if i<=p then i else if (n:Int)-s<i then i+m-n else p
def zQj (n:Nat) (i:Int):Int:=min (max i 0) n
def move (a b:List Int) (i:Int) (e:Bool):Int :=
 if e=true then to_ a.length b.length (pre a b) (suf a b (pre a b)) (zQj a.length i) else from_ a.length b.length (pre a b) (suf a b (pre a b)) (zQj a.length i)
theorem ends (a b:List Int):pre a b+suf a b (pre a b)<=a.length/\pre a b+suf a b (pre a b)<=b.length:=by
 have h1:=pre_le a b;have h2:=suf_le a b (pre a b);omega
end Go.Proofs.YtneffpbodfjceaaGreatDoor.Mv
namespace Go.Proofs.YtneffpbodfjceaaGreatDoor
section
open Go.RowKit
theorem zAy (s:ByteArray) (w:World) (hs:s.size<=35184372088831) :
 Calls Tryz.prog 43 #[.string s] w (qHq s w):=by
 have h1:=Ext.refl w;go_enter Tryz.func43,Tryz.ntmps43;go_wp2_with fail
 go_loopw [3] (fun v wr=>qRq s w w.heap.size v wr) (fun _ wr=>s.size-wr.iterPos w.heap.size)
 case atStart=>exact ⟨0,[],w.iter_heap s 0,h1.iter s 0,rfl,Nat.le_refl _,⟨rfl,.inl ⟨rfl,rfl⟩⟩⟩
 case round =>
  obtain ⟨pos,l,hk,hx,hp,hle,hown⟩:=hrel;have hpos0:=gH (iterPos_of hk);have HP:=gH hp;clear hp
  by_cases hlt:pos<s.size
  . have hn:=fun ty=>Lib.run_next_any_at (P:=Tryz.prog) wr _ s pos ty hk hlt
    have hstep:=gH (qDf s pos hlt);have hw:=qGy s pos hlt;have hk2:=Lib.iterAt_heap wr _ s pos (pos+(Utf8.decode s pos).2) hk;have hx2:=hx.iterAt (Nat.le_refl _) s (pos+(Utf8.decode s pos).2);have hown2:=qLk hown (k:=w.heap.size) (by omega) s (pos+(Utf8.decode s pos).2);obtain ⟨W1,hW1⟩:∃ W1,W1=wr.iterAt w.heap.size s (pos+(Utf8.decode s pos).2):=⟨_,rfl⟩;rw [← hW1] at hn hk2 hx2 hown2;have hlt9:w.heap.size<W1.heap.size:=(Array.getElem?_eq_some_iff.1 hk2).1;clear hW1 hk hown hx;have HK:=gH hk2;clear hk2;go_wp2_with (at_builtin;refine qAi rfl (.tmp 11) (.tmp 13) 96 rfl qNy Tryz.underlying96 rfl (by decide) (hown2.alloc _) (by exact rfl) W1.heap.size _ (by exact rfl) (by exact Blk.new' rfl) (by exact rfl) (by simp [Value.oneCell']) (by omega) (by simp [maxLen];omega) (by simp;omega) ?_;intro v' w3 hown3 hgr)
    have hk3:w3.heap[w.heap.size]?=some (.stringIter s (pos+(Utf8.decode s pos).2)):=by
     rw [hgr.block w.heap.size (by simp;omega) (fun h=>by have:=qBg hown2 _ h.symm;omega),Below.heap_alloc _ _ _ hlt9];exact HK.out
    refine ⟨⟨pos+(Utf8.decode s pos).2,l++[((Utf8.decode s pos).1:Int)],hk3,(hx2.alloc _).grown hgr (fun q hq=>by have:=qBg hown2 q hq;omega),?_,?_,?_⟩,?_⟩
    . rw [HP.out,hstep.out];simp
    . rw [List.length_append,List.length_singleton];omega
    . rw [List.length_append,List.flatMap_append];exact hown3
    . rw [iterPos_of hk3,hpos0.out];omega
  . have hn:=fun ty=>Lib.run_next_end_at (P:=Tryz.prog) wr _ s pos ty hk hlt
    (have hl:qAo s 0=l:=by rw [HP.out,qEe s pos hlt];simp);obtain ⟨A,c,rfl,hc,_,hsl,_⟩:=qBn (f:=fun x:Int=>[Value.int .i32 x]) (size:=1) (fun _=>rfl) rfl hown;have HL:=gH hl;have HX:=gH hx;clear hl hx hown HP;go_wp2_with fail;go_ret;exact ⟨A,l.length,c,rfl,by rw [HL.out];exact hsl,hc,HX.out⟩
theorem qPt (s:ByteArray) (w:World) (hs:s.size<=35184372088831) :
 Calls Tryz.prog 235 #[.string s] w (qHq s w):=by
 have h1:=Ext.refl w;go_enter Tryz.func235,Tryz.ntmps235;go_wp2_with fail
 go_loopw [3] (fun v wr=>qRq s w w.heap.size v wr) (fun _ wr=>s.size-wr.iterPos w.heap.size)
 case atStart=>exact ⟨0,[],w.iter_heap s 0,h1.iter s 0,rfl,Nat.le_refl _,⟨rfl,.inl ⟨rfl,rfl⟩⟩⟩
 case round =>
  obtain ⟨pos,l,hk,hx,hp,hle,hown⟩:=hrel;have hpos0:=gH (iterPos_of hk);have HP:=gH hp;clear hp
  by_cases hlt:pos<s.size
  . have hn:=fun ty=>Lib.run_next_any_at (P:=Tryz.prog) wr _ s pos ty hk hlt
    have hstep:=gH (qDf s pos hlt);have hw:=qGy s pos hlt;have hk2:=Lib.iterAt_heap wr _ s pos (pos+(Utf8.decode s pos).2) hk;have hx2:=hx.iterAt (Nat.le_refl _) s (pos+(Utf8.decode s pos).2);have hown2:=qLk hown (k:=w.heap.size) (by omega) s (pos+(Utf8.decode s pos).2);obtain ⟨W1,hW1⟩:∃ W1,W1=wr.iterAt w.heap.size s (pos+(Utf8.decode s pos).2):=⟨_,rfl⟩;rw [← hW1] at hn hk2 hx2 hown2;have hlt9:w.heap.size<W1.heap.size:=(Array.getElem?_eq_some_iff.1 hk2).1;clear hW1 hk hown hx;have HK:=gH hk2;clear hk2;go_wp2_with (at_builtin;refine qAi rfl (.tmp 11) (.tmp 13) 96 rfl qNy Tryz.underlying96 rfl (by decide) (hown2.alloc _) (by exact rfl) W1.heap.size _ (by exact rfl) (by exact Blk.new' rfl) (by exact rfl) (by simp [Value.oneCell']) (by omega) (by simp [maxLen];omega) (by simp;omega) ?_;intro v' w3 hown3 hgr)
    have hk3:w3.heap[w.heap.size]?=some (.stringIter s (pos+(Utf8.decode s pos).2)):=by
     rw [hgr.block w.heap.size (by simp;omega) (fun h=>by have:=qBg hown2 _ h.symm;omega),Below.heap_alloc _ _ _ hlt9];exact HK.out
    refine ⟨⟨pos+(Utf8.decode s pos).2,l++[((Utf8.decode s pos).1:Int)],hk3,(hx2.alloc _).grown hgr (fun q hq=>by have:=qBg hown2 q hq;omega),?_,?_,?_⟩,?_⟩
    . rw [HP.out,hstep.out];simp
    . rw [List.length_append,List.length_singleton];omega
    . rw [List.length_append,List.flatMap_append];exact hown3
    . rw [iterPos_of hk3,hpos0.out];omega
  . have hn:=fun ty=>Lib.run_next_end_at (P:=Tryz.prog) wr _ s pos ty hk hlt
    (have hl:qAo s 0=l:=by rw [HP.out,qEe s pos hlt];simp);obtain ⟨A,c,rfl,hc,_,hsl,_⟩:=qBn (f:=fun x:Int=>[Value.int .i32 x]) (size:=1) (fun _=>rfl) rfl hown;have HL:=gH hl;have HX:=gH hx;clear hl hx hown HP;go_wp2_with fail;go_ret;exact ⟨A,l.length,c,rfl,by rw [HL.out];exact hsl,hc,HX.out⟩
theorem qCp.ext {w w1:World} {A:Option Addr} {n:Nat} {l:List Int} (h:qCp w A n l) (k:Ext w w1):qCp w1 A n l:=Sl.ext (Cells.stays _) h k
theorem qCp.cell {w:World} {A:Option Addr} {n:Nat} {l:List Int} (h:qCp w A n l) {i:Nat} (hi:i<n):∃ b off x,A=some ⟨b,off,none⟩/\l[i]?=some x/\w.cell? ⟨b,off+i,none⟩=some (.int .i32 x):=by
 obtain ⟨b,off,x,hA,hx,hc⟩:=h.at_ hi;exact ⟨b,off,x,hA,hx,by simpa using hc 0 (.int .i32 x) rfl⟩
theorem qOs (s:ByteArray):∀ f pos,(qDi s f pos).length<=f
 | 0,_=>Nat.le_refl _
 | f+1,pos=>by
  unfold qDi
  split
  . have:=qOs s f (pos+(Utf8.decode s pos).2);simp only [List.length_cons];omega
  . simp
theorem qGr (s:ByteArray):(qAo s 0).length<=s.size:=qOs s s.size 0
theorem qZr (r:Int):(Utf8.encode r).size<=4:=by
 unfold Utf8.encode;dsimp only;generalize (if Utf8.valid r=true then r.toNat else Utf8.runeError)=c
 split
 . exact Nat.le_of_ble_eq_true rfl
 split
 . exact Nat.le_of_ble_eq_true rfl
 split
 . exact Nat.le_of_ble_eq_true rfl
 . exact Nat.le_of_ble_eq_true rfl
def qVz (fr til:Int) (acc:ByteArray) (p:Int × Nat):ByteArray:=if fr<=(p.2:Int)/\(p.2:Int)<til then acc++Utf8.encode p.1 else acc
def qCz (fr til:Int) (l:List Int):ByteArray:=l.zipIdx.foldl (qVz fr til) ⟨#[]⟩
theorem qHc {fr til:Int} {l:List Int} {k:Nat} {x:Int} (h:l[k]?=some x):qCz fr til (l.take (k+1))=qVz fr til (qCz fr til (l.take k)) (x,k):=by
 have hk:=(List.getElem?_eq_some_iff.1 h).1;unfold qCz;rw [take_snoc' l k x h,List.zipIdx_append,List.foldl_append];simp [List.length_take,Nat.min_eq_left (Nat.le_of_lt hk)]
theorem qJp (fr til:Int) (l:List Int):∀ k,k<=l.length->(qCz fr til (l.take k)).size<=4*k
 | 0,_=>Nat.le_of_eq (rfl:(qCz fr til (l.take 0)).size=0)
 | k+1,h=>by
  have hx:l[k]?=some l[k]:=List.getElem?_eq_getElem h;have ih:=qJp fr til l k (by omega);have he:=qZr l[k];rw [qHc hx];unfold qVz;dsimp only
  split
  . rw [ByteArray.size_append];omega
  . omega
def Doc.cfErr (d:Doc) (id:Int):Int:=if d.err≠0 then d.err else if qHu d.coms id<0 then 6 else 0
def Doc.cfIdx (d:Doc) (id:Int):Int:=if d.cfErr id=0 then qHu d.coms id else 0
def Doc.quX (d:Doc) (id:Int):ByteArray × Int :=
 if d.err≠0 then (⟨#[]⟩,d.err) else match qFb d.coms id with
  | none=>(⟨#[]⟩,6)
  | some k=>match d.coms[k]? with
   | none=>(⟨#[]⟩,6)
   | some c=>if c.lost=true then (⟨#[]⟩,17) else match qBd d.evs c.ev with
    | none=>(⟨#[]⟩,6)
    | some m=>match d.evs[m]? with
     | none=>(⟨#[]⟩,6)
     | some x=>(qCz c.fr c.til (qAo ⟨x.text.toArray⟩ 0),0)
section
variable {d:Doc} {id:Int} {k m:Nat} {c:Com} {x:Ev}
theorem qu_1 (h:d.err≠0):d.quX id=(⟨#[]⟩,d.err):=by unfold Doc.quX;rw [if_pos h]
theorem qu_2 (h:d.err=0) (h2:qFb d.coms id=none):d.quX id=(⟨#[]⟩,6):=by unfold Doc.quX;rw [if_neg (by simpa using h),h2]
theorem qu_3 (h:d.err=0) (h2:qFb d.coms id=some k) (h3:d.coms[k]?=some c) (h4:c.lost=true):d.quX id=(⟨#[]⟩,17):=by unfold Doc.quX;rw [if_neg (by simpa using h),h2];simp only [h3,h4,if_true]
theorem qu_4 (h:d.err=0) (h2:qFb d.coms id=some k) (h3:d.coms[k]?=some c) (h4:c.lost=false) (h5:qBd d.evs c.ev=some m) (h6:d.evs[m]?=some x):d.quX id=(qCz c.fr c.til (qAo ⟨x.text.toArray⟩ 0),0):=by
 unfold Doc.quX;rw [if_neg (by simpa using h),h2];simp only [h3,h4,h5,h6,Bool.false_eq_true,if_false]
theorem qQg (h:d.err=0) (h3:d.coms[k]?=some c) (h4:c.lost=false):∃ m e,qBd d.evs c.ev=some m/\d.evs[m]?=some e/\0<=c.fr/\c.fr<c.til/\c.til<=e.len :=
 (qUj (zFb (zFc (zFd h).2.2.2.2.2 k c h3)).2.2.2.2.1).2.2.2 h4
end
structure QJ (ps:List (Value->World->Prop)) (W:World) (us:List Value) (w':World):Prop where
 ext:Ext W w'
 val:∀ (i:Nat) (u:Value) (p:Value->World->Prop),us[i]?=some u->ps[i]?=some p->p u w'
def QSt (ps:List (Value->World->Prop)):Prop:=∀ p∈ps,∀ u w w',Ext w w'->p u w->p u w'
theorem QJ.start (ps:List (Value->World->Prop)) (W:World):QJ ps W [] W.drew:=⟨(Ext.refl W).drew,fun i u p h=>by simp at h⟩
theorem QJ.push {ps:List (Value->World->Prop)} {W w' w2:World} {us:List Value} {v:Value} (h:QJ ps W us w') (hst:QSt ps) (hx:Ext w' w2) (hv:∀ p:Value->World->Prop,ps[us.length]?=some p->p v w2):QJ ps W (us++[v]) w2 :=
 ⟨h.ext.trans hx,fun i u p hu hp=>by
  by_cases hi:i<us.length
  . rw [List.getElem?_append_left hi] at hu
    exact hst p (List.mem_of_getElem? hp) u w' w2 hx (h.val i u p hu hp)
  . rw [List.getElem?_append_right (by omega)] at hu
    have hl:=(List.getElem?_eq_some_iff.1 hu).1;simp at hl;(have hi':i=us.length:=by omega);subst hi';simp at hu;subst hu
    exact hv p hp⟩
def Doc.addErr (d:Doc) (id fr til:Int) (au tx:ByteArray):Int :=
 if d.err≠0 then d.err else match qBd d.evs id with
  | none=>6
  | some k=>if fr<0\/til<=fr\/(d.evs[k]?.map fun e=>decide (e.len<til))=some true then 2 else if qCt au=false then 5 else if vld tx=false then 10 else if tx.toList.isEmpty=true then 4 else
   if 400<tx.size\/64<=d.coms.length\/1099511627776<=d.last then 9 else 0
def Doc.addD (d:Doc) (id fr til:Int) (au tx:ByteArray):Doc:=⟨d.title,d.lang,d.rate,d.drop,d.last+1,d.regs,d.evs,d.coms++[⟨d.last+1,id,fr,til,au,tx,false,false⟩]⟩
def Doc.added (d:Doc) (id fr til:Int) (au tx:ByteArray):Doc:=if d.addErr id fr til au tx=0 then d.addD id fr til au tx else Doc.zero
def Doc.addId (d:Doc) (id fr til:Int) (au tx:ByteArray):Int:=if d.addErr id fr til au tx=0 then d.last+1 else 0
def qWx (d:Doc) (id fr til:Int) (au tx:ByteArray) (w:World) (en:Ending) (w':World):Prop :=
 ∃ h',en = .returned (.tuple #[.agg ((d.added id fr til au tx).cells h'),.int .i64 (d.addId id fr til au tx),.int .i64 (d.addErr id fr til au tx)])/\qAw w' w.heap.size (d.added id fr til au tx) h'/\Ext w w'
theorem qNm (w:World) (L:Nat):qAw w L Doc.zero zJv:=⟨⟨rfl,.inl ⟨rfl,rfl⟩⟩,rfl,qBs.nil _ _,⟨rfl,.inl ⟨rfl,rfl⟩⟩,rfl⟩
theorem qXe {d:Doc} {id fr til e:Int} {au tx:ByteArray} {w w':World} (he:d.addErr id fr til au tx=e) (h0:e≠0) (hx:Ext w w'):qWx d id fr til au tx w (.returned (.tuple #[.agg qAl,.int .i64 0,.int .i64 e])) w':=by
 (have h1:d.added id fr til au tx=Doc.zero:=by unfold Doc.added;rw [if_neg (by rw [he];exact h0)]);(have h2:d.addId id fr til au tx=0:=by unfold Doc.addId;rw [if_neg (by rw [he];exact h0)]);exact ⟨zJv,by rw [h1,h2,qKg,he],by rw [h1];exact qNm _ _,hx⟩
section
variable {d:Doc} {id fr til:Int} {au tx:ByteArray} {k:Nat} {x:Ev}
theorem add_1 (h:d.err≠0):d.addErr id fr til au tx=d.err:=by unfold Doc.addErr;rw [if_pos h]
theorem add_2 (h:d.err=0) (h2:qBd d.evs id=none):d.addErr id fr til au tx=6:=by unfold Doc.addErr;rw [if_neg (by simpa using h),h2]
theorem add_r (h:d.err=0) (h2:qBd d.evs id=some k) (hx:d.evs[k]?=some x):d.addErr id fr til au tx =
 if fr<0\/til<=fr\/x.len<til then 2 else if qCt au=false then 5 else if vld tx=false then 10 else if tx.toList.isEmpty=true then 4 else if 400<tx.size\/64<=d.coms.length\/1099511627776<=d.last then 9 else 0:=by
 unfold Doc.addErr;rw [if_neg (by simpa using h),h2];simp only [hx,Option.map_some,Option.some.injEq,decide_eq_true_eq]
end
structure RdJ (g:Nat) (cs:Array Value) (W:World) (us:List Value) (w':World):Prop where
 any:(us=[]/\Ext W w')\/(us≠[]/\∃ w5,Ext W w5/\w'=putB w5 g 27 cs)
theorem RdJ.start (g:Nat) (cs:Array Value) (W:World):RdJ g cs W [] W.drew:=⟨.inl ⟨rfl,(Ext.refl W).drew⟩⟩
theorem RdJ.nil {g:Nat} {cs:Array Value} {W w':World} (h:RdJ g cs W [] w'):Ext W w':=by
 rcases h.any with ⟨_,h⟩ | ⟨h,_⟩
 . exact h
 . exact absurd rfl h
theorem RdJ.one {g:Nat} {cs:Array Value} {W w':World} {u:Value} (h:RdJ g cs W [u] w'):∃ w5,Ext W w5/\w'=putB w5 g 27 cs:=by
 rcases h.any with ⟨h,_⟩ | ⟨_,h⟩
 . cases h
 . exact h
theorem RdJ.blk {g b:Nat} {T:TypeId} {cs cs':Array Value} {W w':World} {us:List Value} (h:RdJ g cs W us w') (hB:Blk W b T cs') (hne:b≠g):Blk w' b T cs':=by
 rcases h.any with ⟨_,hx⟩ | ⟨_,w5,hx,rfl⟩
 . exact hB.ext hx
 . exact (hB.ext hx).put_other (Ne.symm hne) _
theorem RdJ.blk_nil {g b:Nat} {T:TypeId} {cs cs':Array Value} {W w':World} (h:RdJ g cs W [] w') (hB:Blk W b T cs'):Blk w' b T cs':=hB.ext h.nil
theorem RdJ.store {g:Nat} {cs:Array Value} {W w':World} {u:Value} (h:RdJ g cs W [] w'):RdJ g cs W ([]++[u]) (putB w' g 27 cs):=⟨.inr ⟨by simp,w',h.nil,rfl⟩⟩
abbrev DE:=Doc × Int
def qHk (X:DE) (w:World) (en:Ending) (w':World):Prop :=
 ∃ h',en = .returned (.tuple #[.agg (X.1.cells h'),.int .i64 X.2])/\qAw w' w.heap.size X.1 h'/\Ext w w'
theorem qIp {X:DE} {e:Int} {w w':World} (he:X=(Doc.zero,e)) (hx:Ext w w'):qHk X w (.returned (.tuple #[.agg qAl,.int .i64 e])) w':=by
 subst he;exact ⟨zJv,by rw [qKg],qNm _ _,hx⟩
def Doc.withComs (d:Doc) (l:List Com):Doc:=⟨d.title,d.lang,d.rate,d.drop,d.last,d.regs,d.evs,l⟩
section
variable {d:Doc} {id:Int} {k:Nat} {c:Com}
end
end
end Go.Proofs.YtneffpbodfjceaaGreatDoor