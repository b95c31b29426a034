/- Texts laid together. -/
import Derived.Test.YtablhmobekmflaaGreatDoorCm05
set_option linter.unusedVariables false
set_option linter.unusedSimpArgs false
set_option maxRecDepth 100000
namespace Go.Proofs.YtablhmobekmflaaGreatDoor
section
open Go.RowKit
def dstO (ops:Array Oper) (j:Nat):Option Nat:=(ops[j]?).bind Oper.dst
def qLf (ops:Array Oper) (n:Nat):Bool:=(ops.toList.filterMap Oper.dst).all (fun s=>decide (s<n)) && decide ((ops.toList.filterMap Oper.dst).Nodup)
def edgeB (o:Oper) (j:Nat):Bool:=o.after.toList.any (fun d=>Region.binds .any d && d.on == j)
def reachB (ops:Array Oper):Nat→Oper→Nat→Bool
 | 0,o,c=>edgeB o c
 | f+1,o,c=>edgeB o c || o.after.toList.any (fun d=>Region.binds .any d && ((ops[d.on]?).map (fun o'=>reachB ops f o' c)).getD false)
def qGr (ops:Array Oper):List Nat→Bool
 | []=>true
 | [c]=>decide (c<ops.size)
 | c :: c' :: l=>decide (c<ops.size) && ((ops[c']?).map (fun o=>reachB ops 6 o c)).getD false && qGr ops (c' :: l)
def qGj (chain:List Nat) (pv us:List Value) (j:Nat):Value:=match chain.idxOf? j with | some i=>us.getD i undef | none=>pv.getD j undef
theorem qHf {ops:Array Oper}:∀ {l:List Nat} {p c:Nat},qGr ops l=true→l[p]?=some c→c<ops.size
 | [],_,_,_,h=>by simp at h
 | [x],0,c,h,hc=>by simp [qGr] at h hc;omega
 | [x],p+1,c,_,hc=>by simp at hc
 | x :: y :: l,0,c,h,hc=>by simp [qGr] at h hc;omega
 | x :: y :: l,p+1,c,h,hc=>by
  simp only [qGr,Bool.and_eq_true] at h;exact qHf (p:=p) h.2 (by simpa using hc)
theorem qOv {ops:Array Oper}:∀ {l:List Nat} {p c c':Nat},qGr ops l=true→l[p]?=some c→l[p+1]?=some c'→∃ o,ops[c']?=some o∧reachB ops 6 o c=true
 | [],_,_,_,_,h,_=>by simp at h
 | [x],p,c,c',_,_,h=>by simp at h
 | x :: y :: l,0,c,c',h,hc,hc'=>by
  simp only [qGr,Bool.and_eq_true] at h;simp at hc hc';subst hc hc'
  cases ho:ops[y]? with
  | none=>rw [ho] at h;simp at h
  | some o=>rw [ho] at h;exact ⟨o,rfl,by simpa using h.1.2⟩
 | x :: y :: l,p+1,c,c',h,hc,hc'=>by
  simp only [qGr,Bool.and_eq_true] at h;exact qOv (p:=p) h.2 (by simpa using hc) (by simpa using hc')
theorem qCn {l:List Nat} (hn:l.Nodup) {p c:Nat} (h:l[p]?=some c):l.idxOf? c=some p:=by
 have hp:=(List.getElem?_eq_some_iff.1 h).1;have hc:l[p]=c:=(List.getElem?_eq_some_iff.1 h).2;subst hc;rw [List.idxOf?_eq_some_iff]
 exact ⟨hp,rfl,fun j hj he=>by
  have:=(List.getElem_inj hn).1 he
  omega⟩
theorem qEf {l:List Nat} {c:Nat} (h:c ∉ l):l.idxOf? c=none:=List.idxOf?_eq_none_iff.2 h
theorem qMk {ops:Array Oper} {n i j s:Nat} (h:qLf ops n=true) (hi:dstO ops i=some s) (hj:dstO ops j=some s):i=j:=by
 simp only [qLf,Bool.and_eq_true,decide_eq_true_eq] at h;obtain ⟨_,hnd⟩:=h
 have key:∀ (l:List Oper) (i j:Nat),(l.filterMap Oper.dst).Nodup→(l[i]?).bind Oper.dst=some s→(l[j]?).bind Oper.dst=some s→i=j:=by
  intro l
  induction l with
  | nil=>intro i j _ h;simp at h
  | cons o l ih =>
   intro i j hn h1 h2
   have mem:∀ k,(l[k]?).bind Oper.dst=some s→s∈l.filterMap Oper.dst:=fun k hk=>by
    rw [Option.bind_eq_some_iff] at hk;obtain ⟨o',h3,h4⟩:=hk;exact List.mem_filterMap.2 ⟨o',List.mem_of_getElem? h3,h4⟩
   cases hd:o.dst with
   | none =>
    have hn':(l.filterMap Oper.dst).Nodup:=by simpa [List.filterMap_cons,hd] using hn
    match i,j with
    | 0,_=>simp [hd] at h1
    | _+1,0=>simp [hd] at h2
    | i+1,j+1=>have:=ih i j hn' (by simpa using h1) (by simpa using h2);omega
   | some s' =>
    have hn':s' ∉ l.filterMap Oper.dst∧(l.filterMap Oper.dst).Nodup:=by
     rw [List.filterMap_cons,hd] at hn;exact List.nodup_cons.1 hn
    match i,j with
    | 0,0=>rfl
    | 0,j+1 =>
     simp [hd] at h1;subst h1;exact absurd (mem j (by simpa using h2)) hn'.1
    | i+1,0 =>
     simp [hd] at h2;subst h2;exact absurd (mem i (by simpa using h1)) hn'.1
    | i+1,j+1=>have:=ih i j hn'.2 (by simpa using h1) (by simpa using h2);omega
 exact key ops.toList i j hnd (by simpa [dstO] using hi) (by simpa [dstO] using hj)
theorem dst_lt {ops:Array Oper} {n i s:Nat} (h:qLf ops n=true) (hi:dstO ops i=some s):s<n:=by
 simp only [qLf,Bool.and_eq_true,List.all_eq_true] at h;unfold dstO at hi;rw [Option.bind_eq_some_iff] at hi;obtain ⟨o,ho,hd⟩:=hi;have:=h.1 s (List.mem_filterMap.2 ⟨o,by simpa using Array.mem_of_getElem? ho,hd⟩);simpa using this
theorem qFf {o:Oper} {j:Nat} (h:edgeB o j=true):∃ d∈o.after,Region.binds .any d=true∧d.on=j:=edge h
theorem reach_done {ops:Array Oper} {l:Array Bool} (hcl:∀ j o,l.getD j false=true→ops[j]?=some o→∀ d∈o.after,Region.binds .any d=true→l.getD d.on false=true) {c:Nat} :
 ∀ (f:Nat) (o:Oper),(∀ d∈o.after,Region.binds .any d=true→l.getD d.on false=true)→reachB ops f o c=true→l.getD c false=true
 | 0,o,hall,h=>by
  obtain ⟨d,hd1,hd2,hd3⟩:=qFf (show edgeB o c=true from h);(rw [← hd3];exact hall d hd1 hd2)
 | f+1,o,hall,h=>by
  unfold reachB at h
  rcases Bool.or_eq_true_iff.1 h with h | h
  · obtain ⟨d,hd1,hd2,hd3⟩:=qFf h
    rw [← hd3];exact hall d hd1 hd2
  · obtain ⟨d,hd1,hd2⟩:=List.any_eq_true.1 h
    rw [Bool.and_eq_true] at hd2;(have hdm:d∈o.after:=by simpa using hd1);have hdone:=hall d hdm hd2.1
    cases ho':ops[d.on]? with
    | none=>rw [ho'] at hd2;simp at hd2
    | some o' =>
     rw [ho'] at hd2;exact reach_done hcl f o' (hcl _ _ hdone ho') (by simpa using hd2.2)
theorem qMl {ops:Array Oper} {l:Array Bool} {chain:List Nat} {q c c':Nat} {o:Oper} (hcl:∀ j o,l.getD j false=true→ops[j]?=some o→∀ d∈o.after,Region.binds .any d=true→l.getD d.on false=true)
 (hall:∀ d∈o.after,Region.binds .any d=true→l.getD d.on false=true) (hch:qGr ops chain=true) (hq:chain[q]?=some c) (hp:chain[q+1]?=some c') (ho:ops[c']?=some o):l.getD c false=true:=by
 obtain ⟨o',ho',he⟩:=qOv hch hq hp;rw [ho] at ho'
 cases ho'
 exact reach_done hcl 6 o hall he
def ChInv (ops:Array Oper) (chain:List Nat) (pv:List Value) (a0:Act) (J:List Value→World→Prop) (l:Array Bool) (a:Act) (w:World):Prop :=
 l.size=ops.size∧a.defers=a0.defers∧a.tmps.size=a0.tmps.size∧(∀ s,(∀ j,dstO ops j=some s→l.getD j false=false)→a.tmps[s]?=a0.tmps[s]?) ∧
 (∀ j o,l.getD j false=true→ops[j]?=some o→∀ d∈o.after,Region.binds .any d=true→l.getD d.on false=true) ∧
 ∃ us:List Value,us.length≤chain.length∧(∀ i c,chain[i]?=some c→(l.getD c false=true↔i<us.length))∧(∀ j s,l.getD j false=true→dstO ops j=some s→a.tmps[s]?=some (qGj chain pv us j))∧J us w
structure Finds (ops:Array Oper) (chain:List Nat) (pv us:List Value) (a0 a:Act) (o:Oper):Prop where
 old:∀ s:Nat,ops.toList.all (fun o=>o.dst != some s)=true→a.eval (.tmp s)=a0.eval (.tmp s)
 pure:∀ (j s:Nat) (v:Value),edgeB o j=true→dstO ops j=some s→chain.contains j=false→pv[j]?=some v→a.tmps[s]?=some v
 link:∀ (p j s:Nat) (v:Value),chain[p]?=some j→edgeB o j=true→dstO ops j=some s→us[p]?=some v→a.tmps[s]?=some v
 did:∀ (p j:Nat),chain[p]?=some j→edgeB o j=true→p<us.length
 olds:∀ (p j s:Nat),chain[p]?=some j→dstO ops j=some s→us.length≤p→a.tmps[s]?=a0.tmps[s]?
def qDx (ops:Array Oper) (chain:List Nat) (pv us:List Value):List (Nat × Value):=(List.range ops.size).filterMap fun j=>(dstO ops j).map fun s=>(s,qGj chain pv us j)
theorem wp_region_chain {P:Program} {ops:Array Oper} {Q:Exit→Act→World→Prop} {id:Nat} {a0:Act} {W:World} (chain:List Nat) (pv:List Value) (J:List Value→World→Prop) (hm:P.follows .mixedOrders=true) (hdst:qLf ops a0.tmps.size=true) (hord:ordB 0 ops.toList=true)
 (hch:qGr ops chain=true) (hnd:chain.Nodup) (h0:J [] W.drew)
 (hpure:∀ (i:Nat) (o:Oper),ops[i]?=some o→chain.contains i=false→∀ (a:Act) (w:World) (us:List Value) (K:Act→World→Prop),J us w→Finds ops chain pv us a0 a o→(∀ p c oc,chain[p]?=some c→ops[c]?=some oc→edgeB oc i=true→us.length≤p)→K (a.put o.dst (pv.getD i undef)) w →
  if Region.wanted o (yielded ops a.tmps)=true then Oper.wp P o a w K Q else K (a.put o.dst undef) w)
 (hlink:∀ (p c:Nat) (o:Oper),chain[p]?=some c→ops[c]?=some o→∀ (a:Act) (w:World) (us:List Value) (K:Act→World→Prop),us.length=p→J us w→Finds ops chain pv us a0 a o→(∀ v w',J (us++[v]) w'→K (a.put o.dst v) w') →
  if Region.wanted o (yielded ops a.tmps)=true then Oper.wp P o a w K Q else K (a.put o.dst undef) w)
 (hQ:∀ us w,us.length=chain.length→J us w→Q .normal { a0 with tmps:=(qDx ops chain pv us).foldl (fun t p=>t.setIfInBounds p.1 p.2) a0.tmps } w) :
 (Code.region id ops true).wp P Q a0 W:=by
 refine wp_region_any hm ?_;refine qIj (ChInv ops chain pv a0 J) (fun l a w h=>h.1) ?_ (hordB hord) ?_ _ _ _ _ (by simp) ?_
 · intro l a w hI i o ho hl hall K hK
   obtain ⟨hs,hdf,hsz,hnot,hcl,us,hul,hcu,hval,hJ⟩:=hI;have hi:i<ops.size:=(Array.getElem?_eq_some_iff.1 ho).1;have hnl:=qMu hl;have hself:(l.setIfInBounds i true).getD i false=true:=qHv (by omega)
   have hfind:Finds ops chain pv us a0 a o:=by
    refine ⟨fun s hsn=>?_,fun j s v he hd hc hv=>?_,fun p j s v hp he hd hv=>?_,fun p j hp he=>by obtain ⟨d,hd1,hd2,rfl⟩:=qFf he;exact (hcu p _ hp).1 (hall d hd1 hd2),fun p j s hp hj hl0=>hnot s fun j' hj'=>by
     have e:j'=j:=qMk hdst hj' hj;subst e
     cases hx:l.getD j' false
     · rfl
     · exact absurd ((hcu p _ hp).1 hx) (by omega)⟩
    · have:=hnot s (fun j hj=>by
       unfold dstO at hj;rw [Option.bind_eq_some_iff] at hj;obtain ⟨o',h1,h2⟩:=hj;have h3:=List.all_eq_true.1 hsn o' (by simpa using Array.mem_of_getElem? h1);rw [h2] at h3
       simp at h3)
      simp [Act.eval,this]
    · obtain ⟨d,hd1,hd2,rfl⟩:=qFf he
      rw [hval _ s (hall d hd1 hd2) hd];have:chain.idxOf? d.on=none:=qEf (by simpa using hc);simp only [qGj,this];simp [hv]
    · obtain ⟨d,hd1,hd2,rfl⟩:=qFf he
      rw [hval _ s (hall d hd1 hd2) hd];have:chain.idxOf? d.on=some p:=qCn hnd hp;simp only [qGj,this];simp [hv]
   have hclosed:∀ j o',(l.setIfInBounds i true).getD j false=true→ops[j]?=some o'→∀ d∈o'.after,Region.binds .any d=true→(l.setIfInBounds i true).getD d.on false=true:=by
    intro j o' hj ho' d hd hb
    have mono:∀ k,l.getD k false=true→(l.setIfInBounds i true).getD k false=true:=fun k hk=>by
     by_cases hik:i=k
     · subst hik;exact hself
     · rw [qAm hik];exact hk
    by_cases hij:i=j
    · subst hij
      rw [ho] at ho'
      cases ho'
      exact mono _ (hall d hd hb)
    · rw [qAm hij] at hj
      exact mono _ (hcl j o' hj ho' d hd hb)
   have hput:∀ v s,(∀ j,dstO ops j=some s→(l.setIfInBounds i true).getD j false=false)→(a.put o.dst v).tmps[s]?=a0.tmps[s]?:=fun v s hsn=>by
    have hsn':∀ j,dstO ops j=some s→l.getD j false=false:=fun j hj=>by
     have h1:=hsn j hj
     by_cases hij:i=j
     · subst hij;rw [hself] at h1;cases h1
     · rwa [qAm hij] at h1
    cases hd:o.dst with
    | none=>simp only [Act.put];exact hnot s hsn'
    | some t =>
     have:dstO ops i=some t:=by unfold dstO;rw [ho];exact hd
     have hts:t≠s:=fun e=>by
      have h1:=hsn i (by rw [this,e]);(rw [hself] at h1;cases h1)
     simp only [Act.put];rw [Array.getElem?_setIfInBounds_ne hts];exact hnot s hsn'
   have hputd:∀ v,(a.put o.dst v).defers=a0.defers∧(a.put o.dst v).tmps.size=a0.tmps.size:=fun v=>by
    cases hd:o.dst with
    | none=>exact ⟨hdf,hsz⟩
    | some t=>exact ⟨hdf,by simpa [Act.put] using hsz⟩
   have hputv:∀ us' v,qGj chain pv us' i=v→(∀ j,l.getD j false=true→qGj chain pv us' j=qGj chain pv us j)→∀ j s,(l.setIfInBounds i true).getD j false=true→dstO ops j=some s→(a.put o.dst v).tmps[s]?=some (qGj chain pv us' j):=by
    intro us' v hv hsame j s hj hd
    by_cases hij:i=j
    · subst hij
      (have hod:o.dst=some s:=by unfold dstO at hd;rw [ho] at hd;exact hd);rw [hod,hv];have:=dst_lt hdst hd;simp [Act.put,hsz,this]
    · rw [qAm hij] at hj
      rw [hsame j hj]
      cases hod:o.dst with
      | none=>simp only [Act.put];exact hval j s hj hd
      | some t =>
       (have h1:dstO ops i=some t:=by unfold dstO;rw [ho];exact hod);(have hts:t≠s:=fun e=>hij (qMk hdst h1 (by rw [hd,e])));simp only [Act.put];rw [Array.getElem?_setIfInBounds_ne hts];exact hval j s hj hd
   by_cases hc:i∈chain
   · obtain ⟨p,hp⟩:=List.getElem?_of_mem hc
     have hle:us.length≤p:=by
      rcases Nat.lt_or_ge p us.length with h | h
      · have:=(hcu p i hp).2 h
        rw [hnl] at this
        cases this
      · exact h
     have hge:p≤us.length:=by
      cases p with
      | zero=>omega
      | succ q =>
       have hpl:=(List.getElem?_eq_some_iff.1 hp).1;have hq:chain[q]?=some chain[q]:=List.getElem?_eq_getElem (by omega);have:=(hcu q _ hq).1 (qMl hcl hall hch hq hp ho);omega
     have hpl:=(List.getElem?_eq_some_iff.1 hp).1;refine hlink p i o hp ho a w us K (by omega) hJ hfind (fun v w' hJ'=>?_);apply hK;(have hlen:(us++[v]).length=us.length+1:=by simp);refine ⟨by simpa using hs,(hputd v).1,(hputd v).2,hput v,hclosed,us++[v],by rw [hlen];omega,fun q c hq=>?_,hputv _ v ?_ ?_,hJ'⟩
     · rw [hlen]
       by_cases hic:i=c
       · subst hic
         have:q=p:=by
          have h1:=qCn hnd hq;have h2:=qCn hnd hp;rw [h1] at h2;exact Option.some.inj h2
         rw [hself];simp;omega
       · rw [qAm hic,hcu q c hq]
         (have:q≠p:=fun e=>hic (by rw [e,hp] at hq;exact Option.some.inj hq));omega
     · simp only [qGj,qCn hnd hp]
       rw [List.getD_eq_getElem?_getD,List.getElem?_append_right (by omega)];(have:p-us.length=0:=by omega);simp [this]
     · intro j hj
       unfold qGj
       cases hx:chain.idxOf? j with
       | none=>rfl
       | some q =>
        have hq:chain[q]?=some j:=by
         obtain ⟨h1,h2,_⟩:=List.idxOf?_eq_some_iff.1 hx;rw [List.getElem?_eq_getElem h1,h2]
        have:=(hcu q j hq).1 hj;simp only [List.getD_eq_getElem?_getD];rw [List.getElem?_append_left this]
   · refine hpure i o ho (by simpa using hc) a w us K hJ hfind (fun p c oc hp hoc he=>?_) ?_
     · rcases Nat.lt_or_ge p us.length with h | h
       · obtain ⟨d,hd1,hd2,hd3⟩:=qFf he
         have:=hcl c oc ((hcu p c hp).2 h) hoc d hd1 hd2;rw [hd3,hnl] at this
         cases this
       · exact h
     · apply hK
       refine ⟨by simpa using hs,(hputd _).1,(hputd _).2,hput _,hclosed,us,hul,fun q c hq=>?_,hputv us _ ?_ (fun _ _=>rfl),hJ⟩
       · have:i≠c:=fun e=>hc (by rw [e];exact List.mem_of_getElem? hq)
         rw [qAm this];exact hcu q c hq
       · simp only [qGj,qEf hc]
 · rintro l a w ⟨hs,hdf,hsz,hnot,hcl,us,hul,hcu,hval,hJ⟩ hall
   have hlen:us.length=chain.length:=by
    rcases Nat.lt_or_ge us.length chain.length with h | h
    · have hq:chain[us.length]?=some chain[us.length]:=List.getElem?_eq_getElem h
      have:=(hcu _ _ hq).1 (hall _ (qHf hch hq));omega
    · omega
   have hfr:=qLo (a0:=a0.tmps) (qDx ops chain pv us) a.tmps a0.tmps hsz (fun p hp=>by
    obtain ⟨j,hj,hv⟩:=List.mem_filterMap.1 hp;rw [Option.map_eq_some_iff] at hv;obtain ⟨s,hd,rfl⟩:=hv
    exact hval j s (hall j (by simpa using hj)) hd) (fun s hsn=>hnot s fun j hj=>absurd (by
     have hjl:j<ops.size:=by
      unfold dstO at hj;rw [Option.bind_eq_some_iff] at hj;obtain ⟨o',h1,_⟩:=hj;exact (Array.getElem?_eq_some_iff.1 h1).1
     rw [List.mem_map]
     exact ⟨(s,qGj chain pv us j),List.mem_filterMap.2 ⟨j,by simpa using hjl,by rw [hj];rfl⟩,rfl⟩) hsn)
   have:a={ a0 with tmps:=(qDx ops chain pv us).foldl (fun t p=>t.setIfInBounds p.1 p.2) a0.tmps }:=by
    obtain ⟨at_,ad⟩:=a;simp only at hfr hdf;rw [hfr,hdf]
   rw [this];exact hQ us w hlen hJ
 · refine ⟨by simp,rfl,rfl,fun _ _=>rfl,fun j o h=>?_,[],by simp,fun i c hc=>?_,fun j s h=>?_,h0⟩
   · simp [Array.getElem?_replicate] at h
     split at h<;>simp at h
   · have:(Array.replicate ops.size false).getD c false=false:=by
      simp [Array.getElem?_replicate]
      split<;>rfl
     rw [this];simp
   · simp [Array.getElem?_replicate] at h
     split at h<;>simp at h
theorem wp_loadBk {P:Program} {op:Oper} {a:Act} {w:World} {K:Act→World→Prop} {Q:Exit→Act→World→Prop} (ty:TypeId) (x:Operand) (ho:op.op = .load ty x) (g:Nat) (t:TypeId) (cs:Array Value) (d:TypeDesc) (hx:a.eval x = .pointer (some ⟨g,0,none⟩))
 (hB:Blk w g t cs) (hu:P.underlying ty=some d) (hd:d.isRow=true) (hi:(P.info? ty).map (·.size)=some cs.size) (h:K (a.put op.dst (.agg cs)) w):op.wp P a w K Q:=by
 refine wp_load_mid ty x ho g 0 hx cs.toList d (fun j v hv=>?_) hu hd (by simpa using hi) (by simpa using h);rw [hB.cell];simpa using hv
def qLb (o:Oper):List Nat:=(o.after.toList.filter (fun d=>Region.binds .any d)).map (·.on)
theorem qFt {o:Oper} {j:Nat} (h:(qLb o).contains j=true):edgeB o j=true:=by
 (have h':j∈qLb o:=by simpa using h);obtain ⟨d,hd,rfl⟩:=List.mem_map.1 h';rw [List.mem_filter] at hd;exact List.any_eq_true.2 ⟨d,hd.1,by simp [hd.2]⟩
structure Sees (slots:List (Option Nat)) (deps:List (List Nat)) (chain:List Nat) (pv us:List Value) (a0 a:Act) (i:Nat):Prop where
 old:∀ (s:Nat) (v:Value),slots.contains (some s)=false→a0.eval (.tmp s)=v→a.eval (.tmp s)=v
 pure:∀ (j s:Nat) (v:Value),(deps.getD i []).contains j=true→slots[j]?=some (some s)→chain.contains j=false→pv[j]?=some v→a.eval (.tmp s)=v
 link:∀ (p j s:Nat) (v:Value),chain[p]?=some j→(deps.getD i []).contains j=true→slots[j]?=some (some s)→us[p]?=some v→a.eval (.tmp s)=v
 did:∀ (p j:Nat),chain[p]?=some j→(deps.getD i []).contains j=true→p<us.length
 olds:∀ (p j s:Nat) (v:Value),chain[p]?=some j→slots[j]?=some (some s)→us.length≤p→a0.eval (.tmp s)=v→a.eval (.tmp s)=v
theorem Finds.sees {ops:Array Oper} {chain:List Nat} {pv us:List Value} {a0 a:Act} {o:Oper} {slots:List (Option Nat)} {deps:List (List Nat)} {i:Nat} (hs:ops.toList.map (·.dst)=slots) (hd:ops.toList.map qLb=deps) (ho:ops[i]?=some o) (h:Finds ops chain pv us a0 a o):Sees slots deps chain pv us a0 a i:=by
 have hdo:deps.getD i []=qLb o:=by
  rw [← hd,List.getD_eq_getElem?_getD,List.getElem?_map];(have:ops.toList[i]?=some o:=by simpa using ho);(rw [this];rfl)
 have hsl:∀ j s,slots[j]?=some (some s)→dstO ops j=some s:=fun j s h=>by
  rw [← hs,List.getElem?_map,Option.map_eq_some_iff] at h;obtain ⟨o',h1,h2⟩:=h;(have h1':ops[j]?=some o':=by simpa using h1);simp [dstO,h1',h2]
 refine ⟨fun s v hc hv=>(h.old s ?_).trans hv,fun j s v he hj hc hv=>qAb (h.pure j s v (qFt (by rw [← hdo];exact he)) (hsl j s hj) hc hv),fun p j s v hp he hj hv=>qAb (h.link p j s v hp (qFt (by rw [← hdo];exact he)) (hsl j s hj) hv),fun p j hp he=>h.did p j hp (qFt (by rw [← hdo];exact he)),fun p j s v hp hj hl0 hv=>by rw [← hv];simp [Act.eval,h.olds p j s hp (hsl j s hj) hl0]⟩;(have hn:some s ∉ ops.toList.map (·.dst):=by rw [hs];simpa using hc);(refine List.all_eq_true.2 fun o' ho'=>?_);(have:o'.dst≠some s:=fun e=>hn (List.mem_map.2 ⟨o',ho',e⟩));simp [this]
theorem qAy {P:Program} {ops:Array Oper} {Q:Exit→Act→World→Prop} {id:Nat} {a0:Act} {W:World} (slots:List (Option Nat)) (deps:List (List Nat)) (chain:List Nat) (pv:List Value) (J:List Value→World→Prop) (hm:P.follows .mixedOrders=true) (hdst:qLf ops a0.tmps.size=true) (hord:ordB 0 ops.toList=true)
 (hs:ops.toList.map (·.dst)=slots) (hd:ops.toList.map qLb=deps) (hg:ops.toList.all (fun o=>o.guard.isNone)=true) (hch:qGr ops chain=true) (hnd:chain.Nodup) (h0:J [] W.drew)
 (hpure:∀ (i:Nat) (o:Oper),ops[i]?=some o→chain.contains i=false→∀ (a:Act) (w:World) (us:List Value) (K:Act→World→Prop),J us w→Sees slots deps chain pv us a0 a i→(∀ p c,chain[p]?=some c→(deps.getD c []).contains i=true→us.length≤p)→K (a.put o.dst (pv.getD i undef)) w→Oper.wp P o a w K Q)
 (hlink:∀ (p c:Nat) (o:Oper),chain[p]?=some c→ops[c]?=some o→∀ (a:Act) (w:World) (us:List Value) (K:Act→World→Prop),us.length=p→J us w→Sees slots deps chain pv us a0 a c→(∀ v w',J (us++[v]) w'→K (a.put o.dst v) w')→Oper.wp P o a w K Q)
 (hQ:∀ us w,us.length=chain.length→J us w→Q .normal { a0 with tmps:=(qDx ops chain pv us).foldl (fun t p=>t.setIfInBounds p.1 p.2) a0.tmps } w) :
 (Code.region id ops true).wp P Q a0 W:=by
 have hgd:∀ (i:Nat) (o:Oper),ops[i]?=some o→o.guard=none:=fun i o ho=>by
  have:=List.all_eq_true.1 hg o (by simpa using Array.mem_of_getElem? ho);simpa using this
 refine wp_region_chain chain pv J hm hdst hord hch hnd h0 (fun i o ho hc a w us K hJ hF hl hk=>?_) (fun p c o hp ho a w us K hl hJ hF hk=>?_) hQ
 · refine qAd (hgd i o ho) (hpure i o ho hc a w us K hJ (hF.sees hs hd ho) (fun p c hp he=>?_) hk)
   have hcl:=qHf hch hp;(have hoc:ops[c]?=some ops[c]:=by simp [hcl]);refine hl p c _ hp hoc (qFt ?_)
   have:deps.getD c []=qLb ops[c]:=by
    rw [← hd,List.getD_eq_getElem?_getD,List.getElem?_map];(have:ops.toList[c]?=some ops[c]:=by simp [hcl]);(rw [this];rfl)
   rw [← this];exact he
 · exact qAd (hgd c o ho) (hlink p c o hp ho a w us K hl hJ (hF.sees hs hd ho) hk)
end
section
open Go.RowKit
theorem qCq {a:Int} (h1:-9223372036854775808≤a) (h2:a≤9223372036854775807):IntKind.i64.wrap a=a:=by
 simp [IntKind.wrap,IntKind.bits,IntKind.signed];omega
section
variable {P:Program} {o:Oper} {a:Act} {w:World} {K:Act→World→Prop} {Q:Exit→Act→World→Prop}
theorem qEk {f:FuncId} {x:Operand} {ts:Array TypeId} {v:Value} (ho:o.op = .call { callee:=.value (.func f),args:=#[x],argTypes:=ts }) (hx:a.eval x=v)
 (hent:∀ args w,(callFunc f args).run P w = .ok (.enter f args) w) {r:Value} (hc:Calls P f #[v] w fun en w'=>en = .returned r∧Ext w w') (h:∀ w',Ext w w'→K (a.put o.dst r) w'):o.wp P a w K Q :=
 qDz ho hx hent hc fun _ w' hr=>⟨r,hr.1,h w' hr.2⟩
theorem qCh {op:BinOp} {x y:Operand} {ty ty':TypeId} {u v r:Value} (ho:o.op = .binOp op ty x y ty') (hx:a.eval x=u) (hy:a.eval y=v) (hr:(do eqGuard op ty x y u v;binOp op ty u v:Sem Value).run P w = .ok r w) (h:K (a.put o.dst r) w):o.wp P a w K Q:=by
 unfold Oper.wp execOp;simp only [ho,hx,hy];simp only [Sem.run_bind] at hr ⊢;rw [hr];exact h
theorem wp_un {op:UnOp} {x:Operand} {ty:TypeId} {u r:Value} (ho:o.op = .unOp op ty x) (hx:a.eval x=u) (hr:(Op.unary op u).run P w = .ok r w) (h:K (a.put o.dst r) w):o.wp P a w K Q:=by
 unfold Oper.wp execOp;simp only [ho,hx,Sem.run_bind];rw [hr];exact h
end
end
end Go.Proofs.YtablhmobekmflaaGreatDoor