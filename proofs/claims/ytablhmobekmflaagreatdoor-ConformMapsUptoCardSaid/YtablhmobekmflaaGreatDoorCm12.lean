/- Texts laid together. -/
import Derived.Test.YtablhmobekmflaaGreatDoorCm02
import Derived.Test.YtablhmobekmflaaGreatDoorCm11
import Derived.Test.YtablhmobekmflaaGreatDoorCm06
import Derived.Shelf.SlGeneric
import Derived.Shelf.SlSortCmp.KitK
import Derived.Ground.SlsfProg
import Derived.Test.YtablhmobekmflaaGreatDoorProg
import Derived.Test.YtablhmobekmflaaGreatDoorRows
import Derived.Test.YtablhmobekmflaaGreatDoorCm01
import Derived.Sort.Grow
import Derived.Sort.WalkB2
import Derived.Sort.WalkB12
import Derived.Deep.LoopGhost
set_option linter.unusedVariables false
set_option linter.unusedSimpArgs false
set_option maxRecDepth 100000
namespace Go.Proofs.YtablhmobekmflaaGreatDoor
section
open Go.RowKit Go.ChangeShapes Go.WideShapes Go.ChangeAt
set_option maxRecDepth 100000
theorem cells_rate:Tryz.prog.cellsOf 22=1:=by kernel_rfl
theorem cells_ratio:Tryz.prog.cellsOf 89=2:=by kernel_rfl
theorem cells_cut:Tryz.prog.cellsOf 91=7:=by kernel_rfl
theorem cells_cuts:Tryz.prog.cellsOf 23=1:=by kernel_rfl
theorem cells_list:Tryz.prog.cellsOf 25=4:=by kernel_rfl
theorem bytes_cut:Tryz.prog.bytesOf 91=64:=by kernel_rfl
theorem open_ratio (W:World):qBr Tryz.prog W 89 (fun cs (a:Int × Int)=>cs=[.int .i64 a.1,.int .i64 a.2]∧I64 a.1∧I64 a.2):=by
 intro H enc fuel cs x h hw;obtain ⟨hl,hf⟩:=qBr.fields Tryz.underlying89 h hw;rw [cells_ratio] at hl;obtain ⟨v0,v1,rfl⟩:=qEo hl;obtain ⟨a0,h0,s0⟩:=hf 0 _ rfl (qBr.int Tryz.underlying2);obtain ⟨a1,h1,s1⟩:=hf 1 _ rfl (qBr.int Tryz.underlying2);simp [qEw] at h0 h1;subst h0 h1;exact ⟨(a0,a1),rfl,bounds_i64 s0,bounds_i64 s1⟩
theorem open_cut7 (W:World):qBr Tryz.prog W 91 (fun cs (c:Cut)=>cs=c.vals∧c.Fits):=by
 intro H enc fuel cs x h hw;obtain ⟨hl,hf⟩:=qBr.fields Tryz.underlying91 h hw;rw [cells_cut] at hl;obtain ⟨v0,v1,v2,v3,v4,v5,v6,rfl⟩:=list_7 hl;obtain ⟨a0,h0,s0⟩:=hf 0 _ rfl (qBr.int Tryz.underlying3);obtain ⟨a1,h1,s1⟩:=hf 1 _ rfl (qBr.string Tryz.underlying9);obtain ⟨a2,h2,s2⟩:=hf 2 _ rfl (qBr.int Tryz.underlying2);obtain ⟨⟨a3,a4⟩,h3,s3,s4⟩:=hf 3 _ rfl (open_span W);obtain ⟨⟨a5,a6⟩,h5,s5,s6⟩:=hf 4 _ rfl (open_ratio W);simp [qEw,cells_int,qCz,qMq,cells_ratio] at h0 h1 h2 h3 h5;obtain ⟨h3,h4⟩:=h3;obtain ⟨h5,h6⟩:=h5;subst h0 h1 h2 h3 h4 h5 h6;exact ⟨⟨a0,a1,a2,a3,a4,a5,a6⟩,rfl,bounds_i64 s0,bounds_i64 s2,s3,s4,s5,s6,s1⟩
theorem mem_cut7 {w:World} {b o:Nat} {c:Cut} (h:Mem (fun cs (c:Cut)=>cs=c.vals∧c.Fits) w b o c):Cells Cut.vals w b o c∧c.Fits:=by
 obtain ⟨cs,h1,rfl,h2⟩:=h;exact ⟨fun j u hu=>h1 j u hu,h2⟩
theorem open_list (W:World):qBr Tryz.prog W 25 (fun cs (e:Edl)=>(∃ A n c,cs=(e.cells A n c).toList∧qBd W A n e.cuts∧n≤c∧c≤maxLen)∧qJr e):=by
 intro H enc fuel cs x h hw;obtain ⟨hl,hf⟩:=qBr.fields Tryz.underlying25 h hw;rw [cells_list] at hl;obtain ⟨v0,v1,v2,v3,rfl⟩:=qLr hl;obtain ⟨a0,h0,s0⟩:=hf 0 _ rfl (qBr.string Tryz.underlying9);obtain ⟨a1,h1,s1⟩:=hf 1 _ rfl (qBr.int Tryz.underlying22);obtain ⟨a2,h2⟩:=hf 2 _ rfl (qBr.bool Tryz.underlying4)
 obtain ⟨l,h3⟩:=hf 3 _ rfl (R:=fun cs (l:List Cut)=>(∃ A n c,cs=[.slice A n c]∧n≤c∧c≤maxLen∧qBd W A n l)∧∀ x∈l,x.Fits) (fun H enc fuel cs x h hw=>by
  obtain ⟨A,n,c,l,rfl,hnc,hcm,hb,hs⟩:=qBr.slice Tryz.underlying23 cells_cut (by decide) bytes_cut (open_cut7 W) h hw
  exact ⟨l,⟨A,n,c,rfl,hnc,hcm,Sl.change hs fun _ _ _ hm=>(mem_cut7 hm).1⟩,hs.all fun _ _ _ hm=>(mem_cut7 hm).2⟩)
 simp [qCz,cells_rate,qHe,cells_cuts] at h0 h1 h2 h3;obtain ⟨⟨A,n,c,h3,hnc,hcm,hr⟩,hfit⟩:=h3;subst h0 h1 h2 h3;exact ⟨⟨a0,a1,a2,l⟩,⟨A,n,c,rfl,hr,hnc,hcm⟩,(bounds_u8 s1).1,(bounds_u8 s1).2,s0,hfit⟩
theorem arg_list {H:Type} {enc:TypeId × Value→H} {W:World} {base:Nat} {v:Value} {d:DataW H} {p:List MemPlace} (hv:Value.okWide Tryz.prog W .any base 25 v) (h:DataW.Trod enc Tryz.prog W 0 (fun _=>true) true 25 v d p)
 (hw:∀ n∈d.weights Tryz.prog 25,n≤reachBytes):∃ e A n c,v = .agg (e.cells A n c)∧qBd W A n e.cuts∧n≤c∧c≤maxLen∧qJr e:=by
 obtain ⟨cs,rfl⟩:=agg_of_cells Tryz.underlying25 hv;obtain ⟨fuel,h⟩:=h;obtain ⟨e,⟨A,n,c,hc,hat,hnc,hcm⟩,hf⟩:=open_list W H enc fuel _ _ h hw;refine ⟨e,A,n,c,?_,hat,hnc,hcm,hf⟩;have:cs=e.cells A n c:=Array.toList_inj.1 hc;rw [this]
theorem arg_int64 {H:Type} {enc:TypeId × Value→H} {W:World} {base:Nat} {v:Value} {d:DataW H} {p:List MemPlace} (hv:Value.okWide Tryz.prog W .any base 2 v) (h:DataW.Trod enc Tryz.prog W 0 (fun _=>true) true 2 v d p)
 (hw:∀ n∈d.weights Tryz.prog 2,n≤reachBytes):∃ k:Int,v = .int .i64 k∧I64 k:=by
 obtain ⟨fuel,h⟩:=h;obtain ⟨a,ha,hb⟩:=qBr.int Tryz.underlying2 H enc fuel _ _ h hw;unfold Value.okWide at hv;rw [Tryz.underlying2] at hv
 cases v with
 | agg cs=>exact absurd hv (by unfold Cell.okWide;rw [Tryz.underlying2];simp [Cell.ok])
 | _=>first | (refine ⟨a,?_,bounds_i64 hb⟩;exact (List.cons.inj ha).1) | (simp at hv;done)
def wlist {H:Type}:DataW H:=.agg [.lit (.string []),.lit (.int .u8 0),.lit (.bool false),.nil]
end
section
open Go.RowKit
def valA (chain al:List Nat) (pv us:List Value) (gs:Nat→Option Nat) (j:Nat):Value :=
 match chain.idxOf? j with
 | some i=>us.getD i undef
 | none=>if al.contains j then .pointer ((gs j).map fun g=>⟨g,0,none⟩) else pv.getD j undef
def upd (gs:Nat→Option Nat) (j g:Nat):Nat→Option Nat:=fun k=>if k=j then some g else gs k
theorem qGo (gs:Nat→Option Nat) (j g:Nat):upd gs j g j=some g:=by simp [upd]
theorem qGz (gs:Nat→Option Nat) {j k:Nat} (h:k≠j) (g:Nat):upd gs j g k=gs k:=by simp [upd,h]
def AlInv (ops:Array Oper) (chain al:List Nat) (pv:List Value) (a0:Act) (J:List Value→(Nat→Option Nat)→World→Prop) (l:Array Bool) (a:Act) (w:World):Prop :=
 l.size=ops.size∧a.defers=a0.defers∧a.tmps.size=a0.tmps.size∧(∀ s,(∀ j,dstO ops j=some s→l.getD j false=false)→a.tmps[s]?=a0.tmps[s]?) ∧
 (∀ j o,l.getD j false=true→ops[j]?=some o→∀ d∈o.after,Region.binds .any d=true→l.getD d.on false=true) ∧
 ∃ (us:List Value) (gs:Nat→Option Nat),us.length≤chain.length∧(∀ i c,chain[i]?=some c→(l.getD c false=true↔i<us.length))∧(∀ j,al.contains j=true→(l.getD j false=true↔(gs j).isSome=true)) ∧
  (∀ j s,l.getD j false=true→dstO ops j=some s→a.tmps[s]?=some (valA chain al pv us gs j))∧J us gs w
structure SeesA (slots:List (Option Nat)) (deps:List (List Nat)) (chain al:List Nat) (pv us:List Value) (gs:Nat→Option Nat) (a0 a:Act) (i:Nat):Prop where
 old:∀ (s:Nat) (v:Value),slots.contains (some s)=false→a0.eval (.tmp s)=v→a.eval (.tmp s)=v
 pure:∀ (j s:Nat) (v:Value),(deps.getD i []).contains j=true→slots[j]?=some (some s)→chain.contains j=false→al.contains j=false→pv[j]?=some v→a.eval (.tmp s)=v
 link:∀ (p j s:Nat) (v:Value),chain[p]?=some j→(deps.getD i []).contains j=true→slots[j]?=some (some s)→us[p]?=some v→a.eval (.tmp s)=v
 ptr:∀ (j s:Nat),(deps.getD i []).contains j=true→slots[j]?=some (some s)→chain.contains j=false→al.contains j=true→∃ g,gs j=some g∧a.eval (.tmp s) = .pointer (some ⟨g,0,none⟩)
 made:∀ (j:Nat),(deps.getD i []).contains j=true→al.contains j=true→(gs j).isSome=true
 did:∀ (p j:Nat),chain[p]?=some j→(deps.getD i []).contains j=true→p<us.length
 olds:∀ (p j s:Nat) (v:Value),chain[p]?=some j→slots[j]?=some (some s)→us.length≤p→a0.eval (.tmp s)=v→a.eval (.tmp s)=v
def frameA (ops:Array Oper) (chain al:List Nat) (pv us:List Value) (gs:Nat→Option Nat):List (Nat × Value):=(List.range ops.size).filterMap fun j=>(dstO ops j).map fun s=>(s,valA chain al pv us gs j)
theorem qFe {P:Program} {ops:Array Oper} {Q:Exit→Act→World→Prop} {id:Nat} {a0:Act} {W:World} (slots:List (Option Nat)) (deps:List (List Nat)) (chain al:List Nat) (pv:List Value) (obj:Nat→Obj) (J:List Value→(Nat→Option Nat)→World→Prop) (hm:P.follows .mixedOrders=true) (hdst:qLf ops a0.tmps.size=true) (hord:ordB 0 ops.toList=true)
 (hs:ops.toList.map (·.dst)=slots) (hd:ops.toList.map qLb=deps) (hg:ops.toList.all (fun o=>o.guard.isNone)=true) (hch:qGr ops chain=true) (hnd:chain.Nodup) (hal:(al.all fun j=>decide (j<ops.size) && !chain.contains j)=true) (h0:J [] (fun _=>none) W.drew)
 (halloc:∀ (i:Nat) (o:Oper),ops[i]?=some o→al.contains i=true→∀ (a:Act) (w:World) (K:Act→World→Prop),K (a.put o.dst (.pointer (some ⟨w.heap.size,0,none⟩))) (w.alloc (obj i))→Oper.wp P o a w K Q)
 (hJal:∀ (i:Nat),al.contains i=true→∀ us gs w,J us gs w→gs i=none→(∀ p c,chain[p]?=some c→(deps.getD c []).contains i=true→us.length≤p)→J us (upd gs i w.heap.size) (w.alloc (obj i)))
 (hpure:∀ (i:Nat) (o:Oper),ops[i]?=some o→chain.contains i=false→al.contains i=false→∀ (a:Act) (w:World) (us:List Value) (gs:Nat→Option Nat) (K:Act→World→Prop),J us gs w→SeesA slots deps chain al pv us gs a0 a i→(∀ p c,chain[p]?=some c→(deps.getD c []).contains i=true→us.length≤p)→K (a.put o.dst (pv.getD i undef)) w→Oper.wp P o a w K Q)
 (hlink:∀ (p c:Nat) (o:Oper),chain[p]?=some c→ops[c]?=some o→∀ (a:Act) (w:World) (us:List Value) (gs:Nat→Option Nat) (K:Act→World→Prop),us.length=p→J us gs w→SeesA slots deps chain al pv us gs a0 a c→(∀ v w',J (us++[v]) gs w'→K (a.put o.dst v) w')→Oper.wp P o a w K Q)
 (hQ:∀ us gs w,us.length=chain.length→(∀ j,al.contains j=true→(gs j).isSome=true)→J us gs w→Q .normal { a0 with tmps:=(frameA ops chain al pv us gs).foldl (fun t p=>t.setIfInBounds p.1 p.2) a0.tmps } w) :
 (Code.region id ops true).wp P Q a0 W:=by
 have hgd:∀ (i:Nat) (o:Oper),ops[i]?=some o→o.guard=none:=fun i o ho=>by
  have:=List.all_eq_true.1 hg o (by simpa using Array.mem_of_getElem? ho);simpa using this
 have hdep:∀ (i:Nat) (o:Oper),ops[i]?=some o→deps.getD i []=qLb o:=fun i o ho=>by
  rw [← hd,List.getD_eq_getElem?_getD,List.getElem?_map];(have:ops.toList[i]?=some o:=by simpa using ho);(rw [this];rfl)
 have hsl:∀ j s,slots[j]?=some (some s)→dstO ops j=some s:=fun j s h=>by
  rw [← hs,List.getElem?_map,Option.map_eq_some_iff] at h;obtain ⟨o',h1,h2⟩:=h;(have h1':ops[j]?=some o':=by simpa using h1);simp [dstO,h1',h2]
 have hallt:∀ j,al.contains j=true→j<ops.size∧chain.contains j=false:=fun j hj=>by
  have:=List.all_eq_true.1 hal j (by simpa using hj);simpa using this
 refine wp_region_any hm ?_;refine qIj (AlInv ops chain al pv a0 J) (fun l a w h=>h.1) ?_ (hordB hord) ?_ _ _ _ _ (by simp) ?_
 · intro l a w hI i o ho hl hall K hK
   obtain ⟨hsz0,hdf,hsz,hnot,hcl,us,gs,hul,hcu,hga,hval,hJ⟩:=hI;have hi:i<ops.size:=(Array.getElem?_eq_some_iff.1 ho).1;have hnl:=qMu hl;have hself:(l.setIfInBounds i true).getD i false=true:=qHv (by omega)
   have hdone:∀ j,(deps.getD i []).contains j=true→l.getD j false=true:=fun j hj=>by
    rw [hdep i o ho] at hj;obtain ⟨d,hd1,hd2,hd3⟩:=qFf (qFt hj);rw [← hd3];exact hall d hd1 hd2
   have hfind:SeesA slots deps chain al pv us gs a0 a i:=by
    refine ⟨fun s v hc hv=>?_,fun j s v he hj hc ha hv=>?_,fun p j s v hp he hj hv=>?_,fun j s he hj hc ha=>?_,fun j he ha=>(hga j ha).1 (hdone j he),fun p j hp he=>(hcu p j hp).1 (hdone j he),fun p j s v hp hj hl0 hv=>by
     have:=hnot s fun j' hj'=>by
      have e:j'=j:=qMk hdst hj' (hsl j s hj);subst e
      cases hx:l.getD j' false
      · rfl
      · exact absurd ((hcu p _ hp).1 hx) (by omega)
     rw [← hv]
     simp [Act.eval,this]⟩
    · have hn:some s ∉ ops.toList.map (·.dst):=by rw [hs];simpa using hc
      have:=hnot s (fun j hj=>by
       unfold dstO at hj;rw [Option.bind_eq_some_iff] at hj;obtain ⟨o',h1,h2⟩:=hj
       exact absurd (List.mem_map.2 ⟨o',by simpa using Array.mem_of_getElem? h1,h2⟩) hn)
      rw [← hv];simp [Act.eval,this]
    · refine qAb ?_
      rw [hval j s (hdone j he) (hsl j s hj)];have:chain.idxOf? j=none:=qEf (by simpa using hc);simp only [valA,this,ha];simp [hv]
    · refine qAb ?_
      rw [hval j s (hdone j he) (hsl j s hj)];have:chain.idxOf? j=some p:=qCn hnd hp;simp only [valA,this];simp [hv]
    · obtain ⟨g,hg'⟩:=Option.isSome_iff_exists.1 ((hga j ha).1 (hdone j he))
      refine ⟨g,hg',qAb ?_⟩;rw [hval j s (hdone j he) (hsl j s hj)];have:chain.idxOf? j=none:=qEf (by simpa using hc);simp only [valA,this,ha,hg'];rfl
   have hclosed:∀ j o',(l.setIfInBounds i true).getD j false=true→ops[j]?=some o'→∀ d∈o'.after,Region.binds .any d=true→(l.setIfInBounds i true).getD d.on false=true:=by
    intro j o' hj ho' d hd hb
    have mono:∀ k,l.getD k false=true→(l.setIfInBounds i true).getD k false=true:=fun k hk=>by
     by_cases hik:i=k
     · subst hik;exact hself
     · rw [qAm hik];exact hk
    by_cases hij:i=j
    · subst hij
      rw [ho] at ho'
      cases ho'
      exact mono _ (hall d hd hb)
    · rw [qAm hij] at hj
      exact mono _ (hcl j o' hj ho' d hd hb)
   have hput:∀ v s,(∀ j,dstO ops j=some s→(l.setIfInBounds i true).getD j false=false)→(a.put o.dst v).tmps[s]?=a0.tmps[s]?:=fun v s hsn=>by
    have hsn':∀ j,dstO ops j=some s→l.getD j false=false:=fun j hj=>by
     have h1:=hsn j hj
     by_cases hij:i=j
     · subst hij;rw [hself] at h1;cases h1
     · rwa [qAm hij] at h1
    cases hd:o.dst with
    | none=>simp only [Act.put];exact hnot s hsn'
    | some t =>
     have:dstO ops i=some t:=by unfold dstO;rw [ho];exact hd
     have hts:t≠s:=fun e=>by
      have h1:=hsn i (by rw [this,e]);(rw [hself] at h1;cases h1)
     simp only [Act.put];rw [Array.getElem?_setIfInBounds_ne hts];exact hnot s hsn'
   have hputd:∀ v,(a.put o.dst v).defers=a0.defers∧(a.put o.dst v).tmps.size=a0.tmps.size:=fun v=>by
    cases hd:o.dst with
    | none=>exact ⟨hdf,hsz⟩
    | some t=>exact ⟨hdf,by simpa [Act.put] using hsz⟩
   have hputv:∀ us' gs' v,valA chain al pv us' gs' i=v→(∀ j,l.getD j false=true→valA chain al pv us' gs' j=valA chain al pv us gs j)→∀ j s,(l.setIfInBounds i true).getD j false=true→dstO ops j=some s→(a.put o.dst v).tmps[s]?=some (valA chain al pv us' gs' j):=by
    intro us' gs' v hv hsame j s hj hd
    by_cases hij:i=j
    · subst hij
      (have hod:o.dst=some s:=by unfold dstO at hd;rw [ho] at hd;exact hd);rw [hod,hv];have:=dst_lt hdst hd;simp [Act.put,hsz,this]
    · rw [qAm hij] at hj
      rw [hsame j hj]
      cases hod:o.dst with
      | none=>simp only [Act.put];exact hval j s hj hd
      | some t =>
       (have h1:dstO ops i=some t:=by unfold dstO;rw [ho];exact hod);(have hts:t≠s:=fun e=>hij (qMk hdst h1 (by rw [hd,e])));simp only [Act.put];rw [Array.getElem?_setIfInBounds_ne hts];exact hval j s hj hd
   have hlim:i ∉ chain→∀ p c,chain[p]?=some c→(deps.getD c []).contains i=true→us.length≤p:=fun hic p c hp he=>by
    rcases Nat.lt_or_ge p us.length with h | h
    · have hclt:=qHf hch hp
      (have hoc:ops[c]?=some ops[c]:=by simp [hclt]);rw [hdep c _ hoc] at he;obtain ⟨d,hd1,hd2,hd3⟩:=qFf (qFt he);have:=hcl c _ ((hcu p c hp).2 h) hoc d hd1 hd2;rw [hd3,hnl] at this
      cases this
    · exact h
   refine qAd (hgd i o ho) ?_
   by_cases hc:i∈chain
   · obtain ⟨p,hp⟩:=List.getElem?_of_mem hc
     have hle:us.length≤p:=by
      rcases Nat.lt_or_ge p us.length with h | h
      · have:=(hcu p i hp).2 h
        rw [hnl] at this
        cases this
      · exact h
     have hge:p≤us.length:=by
      cases p with
      | zero=>omega
      | succ q =>
       have hpl:=(List.getElem?_eq_some_iff.1 hp).1;have hq:chain[q]?=some chain[q]:=List.getElem?_eq_getElem (by omega);have:=(hcu q _ hq).1 (qMl hcl hall hch hq hp ho);omega
     have hpl:=(List.getElem?_eq_some_iff.1 hp).1;refine hlink p i o hp ho a w us gs K (by omega) hJ hfind (fun v w' hJ'=>?_);apply hK;(have hlen:(us++[v]).length=us.length+1:=by simp);refine ⟨by simpa using hsz0,(hputd v).1,(hputd v).2,hput v,hclosed,us++[v],gs,by rw [hlen];omega,fun q c hq=>?_,fun j hj=>?_,hputv _ gs v ?_ ?_,hJ'⟩
     · rw [hlen]
       by_cases hic:i=c
       · subst hic
         have:q=p:=by
          have h1:=qCn hnd hq;have h2:=qCn hnd hp;rw [h1] at h2;exact Option.some.inj h2
         rw [hself];simp;omega
       · rw [qAm hic,hcu q c hq]
         (have:q≠p:=fun e=>hic (by rw [e,hp] at hq;exact Option.some.inj hq));omega
     · have:i≠j:=fun e=>by
        have:=(hallt j hj).2;rw [← e] at this;exact absurd hc (by simpa using this)
       rw [qAm this];exact hga j hj
     · simp only [valA,qCn hnd hp]
       rw [List.getD_eq_getElem?_getD,List.getElem?_append_right (by omega)];(have:p-us.length=0:=by omega);simp [this]
     · intro j hj
       unfold valA
       cases hx:chain.idxOf? j with
       | none=>rfl
       | some q =>
        have hq:chain[q]?=some j:=by
         obtain ⟨h1,h2,_⟩:=List.idxOf?_eq_some_iff.1 hx;rw [List.getElem?_eq_getElem h1,h2]
        have:=(hcu q j hq).1 hj;simp only [List.getD_eq_getElem?_getD];rw [List.getElem?_append_left this]
   · have hcf:chain.contains i=false:=by simpa using hc
     have hcq:∀ q c,chain[q]?=some c→((l.setIfInBounds i true).getD c false=true↔q<us.length):=fun q c hq=>by
      (have:i≠c:=fun e=>hc (by rw [e];exact List.mem_of_getElem? hq));rw [qAm this];exact hcu q c hq
     cases ha:al.contains i with
     | true =>
      have hgn:gs i=none:=by
       have:=hga i ha;rw [hnl] at this
       cases h:gs i with
       | none=>rfl
       | some g=>rw [h] at this;simp at this
      refine halloc i o ho ha a w K ?_;apply hK;refine ⟨by simpa using hsz0,(hputd _).1,(hputd _).2,hput _,hclosed,us,upd gs i w.heap.size,hul,hcq,fun j hj=>?_,hputv us _ _ ?_ (fun j hj=>?_),hJal i ha us gs w hJ hgn (hlim hc)⟩
      · by_cases hij:j=i
        · subst hij
          rw [hself,qGo];simp
        · rw [qAm (Ne.symm hij),qGz _ hij]
          exact hga j hj
      · simp only [valA,qEf hc,ha,qGo]
        rfl
      · have hij:j≠i:=fun e=>by rw [e,hnl] at hj;cases hj
        simp only [valA,qGz _ hij]
     | false =>
      refine hpure i o ho hcf ha a w us gs K hJ hfind (hlim hc) ?_;apply hK;refine ⟨by simpa using hsz0,(hputd _).1,(hputd _).2,hput _,hclosed,us,gs,hul,hcq,fun j hj=>?_,hputv us gs _ ?_ (fun _ _=>rfl),hJ⟩
      · have:i≠j:=fun e=>by rw [e,hj] at ha;cases ha
        rw [qAm this];exact hga j hj
      · simp only [valA,qEf hc,ha]
        rfl
 · rintro l a w ⟨hsz0,hdf,hsz,hnot,hcl,us,gs,hul,hcu,hga,hval,hJ⟩ hall
   have hlen:us.length=chain.length:=by
    rcases Nat.lt_or_ge us.length chain.length with h | h
    · have hq:chain[us.length]?=some chain[us.length]:=List.getElem?_eq_getElem h
      have:=(hcu _ _ hq).1 (hall _ (qHf hch hq));omega
    · omega
   have hfr:=qLo (a0:=a0.tmps) (frameA ops chain al pv us gs) a.tmps a0.tmps hsz (fun p hp=>by
    obtain ⟨j,hj,hv⟩:=List.mem_filterMap.1 hp;rw [Option.map_eq_some_iff] at hv;obtain ⟨s,hd,rfl⟩:=hv
    exact hval j s (hall j (by simpa using hj)) hd) (fun s hsn=>hnot s fun j hj=>absurd (by
     have hjl:j<ops.size:=by
      unfold dstO at hj;rw [Option.bind_eq_some_iff] at hj;obtain ⟨o',h1,_⟩:=hj;exact (Array.getElem?_eq_some_iff.1 h1).1
     rw [List.mem_map]
     exact ⟨(s,valA chain al pv us gs j),List.mem_filterMap.2 ⟨j,by simpa using hjl,by rw [hj];rfl⟩,rfl⟩) hsn)
   have:a={ a0 with tmps:=(frameA ops chain al pv us gs).foldl (fun t p=>t.setIfInBounds p.1 p.2) a0.tmps }:=by
    obtain ⟨at_,ad⟩:=a;simp only at hfr hdf;rw [hfr,hdf]
   rw [this];exact hQ us gs w hlen (fun j hj=>(hga j hj).1 (hall j (hallt j hj).1)) hJ
 · refine ⟨by simp,rfl,rfl,fun _ _=>rfl,fun j o h=>?_,[],fun _=>none,by simp,fun i c hc=>?_,fun j hj=>?_,fun j s h=>?_,h0⟩
   · simp [Array.getElem?_replicate] at h
     split at h<;>simp at h
   · have:(Array.replicate ops.size false).getD c false=false:=by
      simp [Array.getElem?_replicate]
      split<;>rfl
     rw [this];simp
   · have:(Array.replicate ops.size false).getD j false=false:=by
      simp [Array.getElem?_replicate]
      split<;>rfl
     rw [this];simp
   · simp [Array.getElem?_replicate] at h
     split at h<;>simp at h
end
section
open Go.RowKit
theorem qHu (x y:ByteArray):(x.toList == y.toList)=decide (x=y):=by
 by_cases h:x=y
 · subst h;simp
 · rw [decide_eq_false h,beq_eq_false_iff_ne]
   intro he;rw [ByteArray.toList_eq,ByteArray.toList_eq] at he;exact h (by cases x;cases y;simp_all [Array.toList_inj])
def isR (l:List Cut) (s:ByteArray) (k:Nat):Prop:=(l[k]?).map (·.reel)=some s
instance (l:List Cut) (s:ByteArray) (k:Nat):Decidable (isR l s k):=inferInstanceAs (Decidable ((l[k]?).map (·.reel)=some s))
structure TwoJ (T:TypeId) (p q m:Nat) (a b:Array Value) (W:World) (us:List Value) (gs:Nat→Option Nat) (w:World):Prop where
 ext:Ext W w
 va:∀ g,gs p=some g→W.heap.size≤g∧∃ cs,cs.size=m∧Blk w g T cs∧(0<us.length→cs=a)
 vb:∀ g,gs q=some g→W.heap.size≤g∧∃ cs,cs.size=m∧Blk w g T cs∧(1<us.length→cs=b)
 ne:∀ g g',gs p=some g→gs q=some g'→g≠g'
section
variable {T:TypeId} {p q m:Nat} {a b z:Array Value} {W w:World} {us:List Value} {gs:Nat→Option Nat}
theorem twoJ_start (W:World):TwoJ T p q m a b W [] (fun _=>none) W.drew:=⟨(Ext.refl W).drew,fun g h=>(by cases h),fun g h=>(by cases h),fun g g' h=>(by cases h)⟩
theorem twoJ_p (h:TwoJ T p q m a b W us gs w) (hpq:p≠q) (hz:z.size=m) (hl:us.length≤0):TwoJ T p q m a b W us (upd gs p w.heap.size) (w.alloc (.cells z T)):=by
 have hx:Ext w (w.alloc (.cells z T)):=(Ext.refl w).alloc _;refine ⟨h.ext.trans hx,fun g hg=>?_,fun g hg=>?_,fun g g' hg hg'=>?_⟩
 · rw [qGo] at hg
   obtain rfl:w.heap.size=g:=Option.some.inj hg;exact ⟨h.ext.size,z,hz,Blk.new w _ _,fun h'=>absurd h' (by omega)⟩
 · rw [qGz _ (Ne.symm hpq)] at hg
   obtain ⟨h1,cs,h2,h3,h4⟩:=h.vb g hg;exact ⟨h1,cs,h2,h3.ext hx,h4⟩
 · rw [qGo] at hg
   rw [qGz _ (Ne.symm hpq)] at hg';obtain ⟨h1,cs,h2,h3,h4⟩:=h.vb g' hg';have:=h3.lt;have:=Option.some.inj hg;omega
theorem twoJ_q (h:TwoJ T p q m a b W us gs w) (hpq:p≠q) (hz:z.size=m) (hl:us.length≤1):TwoJ T p q m a b W us (upd gs q w.heap.size) (w.alloc (.cells z T)):=by
 have hx:Ext w (w.alloc (.cells z T)):=(Ext.refl w).alloc _;refine ⟨h.ext.trans hx,fun g hg=>?_,fun g hg=>?_,fun g g' hg hg'=>?_⟩
 · rw [qGz _ hpq] at hg
   obtain ⟨h1,cs,h2,h3,h4⟩:=h.va g hg;exact ⟨h1,cs,h2,h3.ext hx,h4⟩
 · rw [qGo] at hg
   obtain rfl:w.heap.size=g:=Option.some.inj hg;exact ⟨h.ext.size,z,hz,Blk.new w _ _,fun h'=>absurd h' (by omega)⟩
 · rw [qGo] at hg'
   rw [qGz _ hpq] at hg;obtain ⟨h1,cs,h2,h3,h4⟩:=h.va g hg;have:=h3.lt;have:=Option.some.inj hg';omega
theorem twoJ_a {v:Value} {ga:Nat} {cs:Array Value} (h:TwoJ T p q m a b W [] gs w) (hg4:gs p=some ga) (ha:a.size=m) (hB:Blk w ga T cs):TwoJ T p q m a b W ([]++[v]) gs (putB w ga T a):=by
 refine ⟨h.ext.put (h.va ga hg4).1 _ _,fun g hg=>?_,fun g hg=>?_,h.ne⟩
 · rw [hg4] at hg
   obtain rfl:ga=g:=Option.some.inj hg;exact ⟨(h.va ga hg4).1,_,ha,hB.put _,fun _=>rfl⟩
 · obtain ⟨h1,cs',h2,h3,_⟩:=h.vb g hg
   exact ⟨h1,cs',h2,h3.put_other (h.ne ga g hg4 hg) _,fun h'=>by simp at h'⟩
theorem twoJ_b {u0 v:Value} {gb:Nat} {cs:Array Value} (h:TwoJ T p q m a b W [u0] gs w) (hg5:gs q=some gb) (hb:b.size=m) (hB:Blk w gb T cs):TwoJ T p q m a b W ([u0]++[v]) gs (putB w gb T b):=by
 refine ⟨h.ext.put (h.vb gb hg5).1 _ _,fun g hg=>?_,fun g hg=>?_,h.ne⟩
 · obtain ⟨h1,cs',h2,h3,h4⟩:=h.va g hg
   exact ⟨h1,cs',h2,h3.put_other (Ne.symm (h.ne g gb hg hg5)) _,fun _=>h4 (by simp)⟩
 · rw [hg5] at hg
   obtain rfl:gb=g:=Option.some.inj hg;exact ⟨(h.vb gb hg5).1,_,hb,hB.put _,fun _=>rfl⟩
theorem TwoJ.end_ {u0 u1:Value} (h:TwoJ T p q m a b W [u0,u1] gs w) (hgs:∀ j,(j=p∨j=q)→(gs j).isSome=true):∃ ga gb,gs p=some ga∧gs q=some gb∧W.heap.size≤ga∧W.heap.size≤gb∧ga≠gb∧Blk w ga T a∧Blk w gb T b:=by
 obtain ⟨ga,hga⟩:=Option.isSome_iff_exists.1 (hgs p (.inl rfl));obtain ⟨gb,hgb⟩:=Option.isSome_iff_exists.1 (hgs q (.inr rfl));obtain ⟨h1,cs,_,h3,h4⟩:=h.va ga hga;obtain ⟨k1,cs',_,k3,k4⟩:=h.vb gb hgb;have e1:=h4 (by simp);have e2:=k4 (by simp);subst e1 e2;exact ⟨ga,gb,hga,hgb,h1,k1,h.ne _ _ hga hgb,h3,k3⟩
end
end
end Go.Proofs.YtablhmobekmflaaGreatDoor
namespace Go.Proofs
open Go.Shelf
def Tryz.srtSp_ren:Go.Shelf.Ren:=⟨fun | 6=>214 | 15=>168 | 14=>257 | 28=>224 | 29=>225 | 20=>275 | 21=>276 | 22=>277 | 23=>278 | 24=>279 | 25=>280 | 26=>281 | 27=>282 | 46=>291 | 47=>259 | 48=>260 | 49=>292 | 50=>293 | 57=>296 | n=>n,fun | 22=>35 | 24=>60 | 25=>226 | 3=>3 | 39=>233 | 0=>0 | 53=>273 | 55=>192 | 4=>4 | 46=>267 | 45=>266 | 50=>135 | 5=>5 | 9=>9 | 66=>294 | 70=>298 | 76=>314 | 77=>154 | n=>n,fun | n=>n⟩
theorem Tryz.srtSp:Go.Proofs.SlLaysF0.n6 Tryz.prog Tryz.srtSp_ren:={
 mixed:=by kernel_rfl
 f6:=⟨Tryz.f214.name,by decide,Tryz.func214.trans (congrArg some (by kernel_rfl))⟩
 f14:=⟨Tryz.f257.name,by decide,Tryz.func257.trans (congrArg some (by kernel_rfl))⟩
 f15:=Tryz.func168.trans (congrArg some (by kernel_rfl))
 f20:=⟨Tryz.f275.name,by decide,Tryz.func275.trans (congrArg some (by kernel_rfl))⟩
 f21:=⟨Tryz.f276.name,by decide,Tryz.func276.trans (congrArg some (by kernel_rfl))⟩
 f22:=⟨Tryz.f277.name,by decide,Tryz.func277.trans (congrArg some (by kernel_rfl))⟩
 f23:=⟨Tryz.f278.name,by decide,Tryz.func278.trans (congrArg some (by kernel_rfl))⟩
 f24:=⟨Tryz.f279.name,by decide,Tryz.func279.trans (congrArg some (by kernel_rfl))⟩
 f25:=⟨Tryz.f280.name,by decide,Tryz.func280.trans (congrArg some (by kernel_rfl))⟩
 f26:=⟨Tryz.f281.name,by decide,Tryz.func281.trans (congrArg some (by kernel_rfl))⟩
 f27:=⟨Tryz.f282.name,by decide,Tryz.func282.trans (congrArg some (by kernel_rfl))⟩
 f28:=Tryz.func224.trans (congrArg some (by kernel_rfl))
 f29:=Tryz.func225.trans (congrArg some (by kernel_rfl))
 f46:=⟨Tryz.f291.name,by decide,Tryz.func291.trans (congrArg some (by kernel_rfl))⟩
 f47:=Tryz.func259.trans (congrArg some (by kernel_rfl))
 f48:=Tryz.func260.trans (congrArg some (by kernel_rfl))
 f49:=⟨Tryz.f292.name,by decide,Tryz.func292.trans (congrArg some (by kernel_rfl))⟩
 f50:=⟨Tryz.f293.name,by decide,Tryz.func293.trans (congrArg some (by kernel_rfl))⟩
 f57:=⟨Tryz.f296.name,by decide,Tryz.func296.trans (congrArg some (by kernel_rfl))⟩
 t0:=Tryz.underlying0
 a0:=Tryz.isAgg0
 z0:=Tryz.sizeOf0
 v0:=Tryz.zeroValue0
 t3:=Tryz.underlying3
 a3:=Tryz.isAgg3
 z3:=Tryz.sizeOf3
 v3:=Tryz.zeroValue3
 t4:=Tryz.underlying4
 a4:=Tryz.isAgg4
 z4:=Tryz.sizeOf4
 v4:=Tryz.zeroValue4
 t5:=Tryz.underlying5
 a5:=Tryz.isAgg5
 z5:=Tryz.sizeOf5
 v5:=Tryz.zeroValue5
 t9:=Tryz.underlying9
 a9:=Tryz.isAgg9
 z9:=Tryz.sizeOf9
 v9:=Tryz.zeroValue9
 t22:=Tryz.underlying35
 a22:=Tryz.isAgg35
 z22:=Tryz.sizeOf35
 v22:=Tryz.zeroValue35
 t25:=Tryz.underlying226
 a25:=Tryz.isAgg226
 z25:=Tryz.sizeOf226
 v25:=Tryz.zeroValue226
 t39:=Tryz.underlying233
 a39:=Tryz.isAgg233
 z39:=Tryz.sizeOf233
 v39:=Tryz.zeroValue233
 t45:=Tryz.underlying266
 a45:=Tryz.isAgg266
 z45:=Tryz.sizeOf266
 v45:=Tryz.zeroValue266
 t46:=Tryz.underlying267
 a46:=Tryz.isAgg267
 z46:=Tryz.sizeOf267
 v46:=Tryz.zeroValue267
 t50:=Tryz.underlying135
 a50:=Tryz.isAgg135
 z50:=Tryz.sizeOf135
 v50:=Tryz.zeroValue135
 t53:=Tryz.underlying273
 a53:=Tryz.isAgg273
 z53:=Tryz.sizeOf273
 v53:=Tryz.zeroValue273
 t55:=Tryz.underlying192
 a55:=Tryz.isAgg192
 z55:=Tryz.sizeOf192
 v55:=Tryz.zeroValue192
 t66:=Tryz.underlying294
 a66:=Tryz.isAgg294
 z66:=Tryz.sizeOf294
 v66:=Tryz.zeroValue294
 t70:=Tryz.underlying298
 a70:=Tryz.isAgg298
 z70:=Tryz.sizeOf298
 v70:=Tryz.zeroValue298
 t76:=Tryz.underlying314
 a76:=Tryz.isAgg314
 z76:=Tryz.sizeOf314
 v76:=Tryz.zeroValue314
 t77:=Tryz.underlying154
 a77:=Tryz.isAgg154
 z77:=Tryz.sizeOf154
 v77:=Tryz.zeroValue154 }
def Tryz.srtReg_ren:Go.Shelf.Ren:=⟨fun | 6=>103 | 15=>168 | 14=>167 | 28=>224 | 29=>225 | 20=>216 | 21=>217 | 22=>218 | 23=>219 | 24=>220 | 25=>221 | 26=>222 | 27=>223 | 46=>258 | 47=>259 | 48=>260 | 49=>261 | 50=>262 | 57=>283 | n=>n,fun | 22=>48 | 24=>105 | 25=>178 | 3=>3 | 39=>233 | 0=>0 | 53=>273 | 55=>192 | 4=>4 | 46=>267 | 45=>266 | 50=>135 | 5=>5 | 9=>9 | 66=>294 | 70=>298 | 76=>314 | 77=>154 | n=>n,fun | n=>n⟩
theorem Tryz.srtReg:Go.Proofs.SlLaysF0.n6 Tryz.prog Tryz.srtReg_ren:={
 mixed:=by kernel_rfl
 f6:=⟨Tryz.f103.name,by decide,Tryz.func103.trans (congrArg some (by kernel_rfl))⟩
 f14:=⟨Tryz.f167.name,by decide,Tryz.func167.trans (congrArg some (by kernel_rfl))⟩
 f15:=Tryz.func168.trans (congrArg some (by kernel_rfl))
 f20:=⟨Tryz.f216.name,by decide,Tryz.func216.trans (congrArg some (by kernel_rfl))⟩
 f21:=⟨Tryz.f217.name,by decide,Tryz.func217.trans (congrArg some (by kernel_rfl))⟩
 f22:=⟨Tryz.f218.name,by decide,Tryz.func218.trans (congrArg some (by kernel_rfl))⟩
 f23:=⟨Tryz.f219.name,by decide,Tryz.func219.trans (congrArg some (by kernel_rfl))⟩
 f24:=⟨Tryz.f220.name,by decide,Tryz.func220.trans (congrArg some (by kernel_rfl))⟩
 f25:=⟨Tryz.f221.name,by decide,Tryz.func221.trans (congrArg some (by kernel_rfl))⟩
 f26:=⟨Tryz.f222.name,by decide,Tryz.func222.trans (congrArg some (by kernel_rfl))⟩
 f27:=⟨Tryz.f223.name,by decide,Tryz.func223.trans (congrArg some (by kernel_rfl))⟩
 f28:=Tryz.func224.trans (congrArg some (by kernel_rfl))
 f29:=Tryz.func225.trans (congrArg some (by kernel_rfl))
 f46:=⟨Tryz.f258.name,by decide,Tryz.func258.trans (congrArg some (by kernel_rfl))⟩
 f47:=Tryz.func259.trans (congrArg some (by kernel_rfl))
 f48:=Tryz.func260.trans (congrArg some (by kernel_rfl))
 f49:=⟨Tryz.f261.name,by decide,Tryz.func261.trans (congrArg some (by kernel_rfl))⟩
 f50:=⟨Tryz.f262.name,by decide,Tryz.func262.trans (congrArg some (by kernel_rfl))⟩
 f57:=⟨Tryz.f283.name,by decide,Tryz.func283.trans (congrArg some (by kernel_rfl))⟩
 t0:=Tryz.underlying0
 a0:=Tryz.isAgg0
 z0:=Tryz.sizeOf0
 v0:=Tryz.zeroValue0
 t3:=Tryz.underlying3
 a3:=Tryz.isAgg3
 z3:=Tryz.sizeOf3
 v3:=Tryz.zeroValue3
 t4:=Tryz.underlying4
 a4:=Tryz.isAgg4
 z4:=Tryz.sizeOf4
 v4:=Tryz.zeroValue4
 t5:=Tryz.underlying5
 a5:=Tryz.isAgg5
 z5:=Tryz.sizeOf5
 v5:=Tryz.zeroValue5
 t9:=Tryz.underlying9
 a9:=Tryz.isAgg9
 z9:=Tryz.sizeOf9
 v9:=Tryz.zeroValue9
 t22:=Tryz.underlying48
 a22:=Tryz.isAgg48
 z22:=Tryz.sizeOf48
 v22:=Tryz.zeroValue48
 t25:=Tryz.underlying178
 a25:=Tryz.isAgg178
 z25:=Tryz.sizeOf178
 v25:=Tryz.zeroValue178
 t39:=Tryz.underlying233
 a39:=Tryz.isAgg233
 z39:=Tryz.sizeOf233
 v39:=Tryz.zeroValue233
 t45:=Tryz.underlying266
 a45:=Tryz.isAgg266
 z45:=Tryz.sizeOf266
 v45:=Tryz.zeroValue266
 t46:=Tryz.underlying267
 a46:=Tryz.isAgg267
 z46:=Tryz.sizeOf267
 v46:=Tryz.zeroValue267
 t50:=Tryz.underlying135
 a50:=Tryz.isAgg135
 z50:=Tryz.sizeOf135
 v50:=Tryz.zeroValue135
 t53:=Tryz.underlying273
 a53:=Tryz.isAgg273
 z53:=Tryz.sizeOf273
 v53:=Tryz.zeroValue273
 t55:=Tryz.underlying192
 a55:=Tryz.isAgg192
 z55:=Tryz.sizeOf192
 v55:=Tryz.zeroValue192
 t66:=Tryz.underlying294
 a66:=Tryz.isAgg294
 z66:=Tryz.sizeOf294
 v66:=Tryz.zeroValue294
 t70:=Tryz.underlying298
 a70:=Tryz.isAgg298
 z70:=Tryz.sizeOf298
 v70:=Tryz.zeroValue298
 t76:=Tryz.underlying314
 a76:=Tryz.isAgg314
 z76:=Tryz.sizeOf314
 v76:=Tryz.zeroValue314
 t77:=Tryz.underlying154
 a77:=Tryz.isAgg154
 z77:=Tryz.sizeOf154
 v77:=Tryz.zeroValue154 }
end Go.Proofs
namespace Go.Proofs.YtablhmobekmflaaGreatDoor
end Go.Proofs.YtablhmobekmflaaGreatDoor
namespace Go.Proofs.YtablhmobekmflaaGreatDoor.Stb
section
variable {α:Type}
variable {lt:α→α→Bool} {a b c d m:Nat} {l l' l2:List α}
structure Cut (lt:α→α→Bool) (l:List α) (a m b mid s:Nat):Prop where
 ge:a≤s
 lem:s≤m
 mide:mid+m-s≤b
 le:m≤mid+m-s
 mid_ge:s≤mid
 lo:∀ x y,a<s→l[s-1]?=some x→l[mid+m-s]?=some y→mid+m-s<b→lt y x=false
 hi:∀ x y,s<m→m<mid+m-s→l[s]?=some x→l[mid+m-s-1]?=some y→lt y x=true
end
end Go.Proofs.YtablhmobekmflaaGreatDoor.Stb
namespace Go.Proofs.YtablhmobekmflaaGreatDoor
section
open Go.RowKit
structure EW (W:World) where
 w:World
 ext:Ext W w
instance ewInh (W:World):Nonempty (EW W):=⟨⟨W,Ext.refl W⟩⟩
theorem EW.calls {P:Program} {W:World} {f:FuncId} {args:Array Value} {v:Value} (x:EW W) (h:Calls P f args x.w fun e w'=>e = .returned v∧Ext x.w w') :
 Calls P f args x.w fun e w''=>e = .returned v∧∃ y:EW W,w''=y.w :=
 h.mono fun _ w' ⟨he,hx⟩=>⟨he,⟨w',x.ext.trans hx⟩,rfl⟩
theorem qAz {P:Program} {id:Nat} {Q:Exit→Act→World→Prop} {a:Act} {w:World} {l:List Oper} (W:World) (hW:Ext W w) (hm:P.follows .mixedOrders=true) (hB:Region.lexB .any l.toArray=true)
 (h:wpQuiet P l.toArray (fun w'=>∃ x:EW W,w'=x.w) (fun a'=>∀ w',(∃ x:EW W,w'=x.w)→Q .normal a' w') l a):(Code.region id l.toArray true).wp P Q a w :=
 wp_region_quiet (C:=fun w'=>∃ x:EW W,w'=x.w) hm hB ⟨⟨{ w with drawn:=w.drawn+1 },hW.drew⟩,rfl⟩ (by simpa using h)
end
section
open Go.RowKit
structure Extd (w w':World):Prop where
 ext:Ext w w'
 dr:w.drawn≤w'.drawn
section
variable {w w1 w2:World}
theorem Extd.refl (w:World):Extd w w:=⟨Ext.refl w,Nat.le_refl _⟩
theorem Extd.alloc (h:Extd w w1) (o:Obj):Extd w (w1.alloc o):=⟨h.ext.alloc o,h.dr⟩
theorem Extd.grow (h:Extd w w1):∃ (q:Nat) (os:Array Obj),w1=Sort.grow (w.drewN q) os:=by
 obtain ⟨⟨h1,h2,h3,h4,h5⟩,h6⟩:=h;refine ⟨w1.drawn-w.drawn,w1.heap.extract w.heap.size w1.heap.size,?_⟩
 have hh:w1.heap=w.heap++w1.heap.extract w.heap.size w1.heap.size:=by
  apply Array.ext_getElem?;intro i
  by_cases hi:i<w.heap.size
  · rw [Array.getElem?_append_left hi]
    exact h5 i hi
  · rw [Array.getElem?_append_right (by omega),Array.getElem?_extract]
    by_cases hi2:i<w1.heap.size
    · rw [if_pos (by omega),show w.heap.size+(i-w.heap.size)=i by omega]
    · rw [if_neg (by omega),Array.getElem?_eq_none (by omega)]
 unfold Sort.grow World.drewN;dsimp only;rw [← hh,← h1,← h2,← h3,show w.drawn+(w1.drawn-w.drawn)=w1.drawn by omega]
theorem Extd.of_grow (w:World) (q:Nat) (os:Array Obj):Extd w (Sort.grow (w.drewN q) os):=by
 refine ⟨⟨rfl,rfl,rfl,?_,fun k hk=>?_⟩,Nat.le_add_right _ _⟩
 · show w.heap.size≤(w.heap++os).size
   rw [Array.size_append];omega
 · show (w.heap++os)[k]?=_
   rw [Array.getElem?_append_left hk]
end
structure EWd (W:World) where
 w:World
 exd:Extd W w
instance ewdInh (W:World):Nonempty (EWd W):=⟨⟨W,Extd.refl W⟩⟩
end
section
open Go.Shelf Go.RowKit Go.Lib Go.Sort
section
variable {α:Type} [Inhabited α]
theorem arr_get {d:Array α} {i:Nat} (h:i<d.size):d.toList[i]?=some d[i]!:=by
 rw [Array.getElem?_toList,getElem!_pos d i h,Array.getElem?_eq_getElem h]
end
end
section
open Go.Shelf Go.RowKit Go.Lib Go.Sort
section
variable {α:Type} [Inhabited α] {enc:α→List Value} {k:Nat}
theorem flatK_list (hk:∀ x,(enc x).length=k) (d:Array α):(flatK enc k d).toList=d.toList.flatMap enc:=by
 (have hl:(d.toList.flatMap enc).length=d.size*k:=by rw [qDm enc k hk,Array.length_toList]);apply List.ext_getElem?;intro t
 by_cases ht:t<d.size*k
 · have hk0:0<k:=by
    cases k with
    | zero=>omega
    | succ k=>omega
   have hq:t / k<d.size:=Nat.div_lt_of_lt_mul (by rwa [Nat.mul_comm]);have hr:t % k<k:=Nat.mod_lt _ hk0;have h1:=qEx enc k hk d.toList (t / k) d[t / k]! (t % k) (arr_get hq) hr;rw [Nat.div_add_mod' t k] at h1;rw [h1,arr_get (by rw [size_flatK];exact ht),get_flatK enc k d t ht,List.getElem?_eq_getElem (by rw [hk];exact hr),getElem!_pos _ _ (by rw [hk];exact hr)]
 · rw [List.getElem?_eq_none (by rw [Array.length_toList,size_flatK];omega),List.getElem?_eq_none (by omega)]
variable {w W:World} {L g n c:Nat} {T:TypeId} {l:List α}
theorem own_holds (hk:∀ x,(enc x).length=k) (h:w.ownsRow L T k (.slice (some ⟨g,0,none⟩) n c) n (l.flatMap enc)) (hl:l.length=n):HoldsK enc k w g 0 l.toArray:=by
 intro j hj;rw [size_flatK] at hj;(have hj':j<n*k:=by simpa [hl] using hj);have h1:=h.cellAt j hj';have h2:(flatK enc k l.toArray).toList[j]?=some (flatK enc k l.toArray)[j]!:=arr_get (by rw [size_flatK];exact hj);rw [flatK_list hk] at h2;refine ⟨by rw [Nat.zero_add,h1];exact h2,?_⟩
 rcases h.2 with ⟨hv,hn⟩ | ⟨g',cap,cur,hv,hg,hb,-⟩
 · cases hv
 · cases hv
   simp [World.frozen?,hb]
theorem swk_heap {m:Nat} {os:Array Obj} {cur:Array Value} {e:TypeId} {fr:Nat × Nat} (d:Array α) (hb:w.heap[g]?=some (.cells cur e fr)) :
 (sortWorldK enc k w g 0 m d os).heap[g]?=some (.cells (putCells id 0 (flatK enc k d) cur) e fr):=by
 have hg:g<w.heap.size:=(Array.getElem?_eq_some_iff.1 hb).1;unfold sortWorldK;rw [heap_grow_old _ _ (by rw [size_putRowK];exact hg)];simp [putRowK,putRow,mapBlock,Sort.ahead,Array.getElem?_modify,hb,onCells]
theorem swk_grown (h:SWK enc k w g 0 l.toArray W):w.grownBy W (some g):=by
 obtain ⟨m,os,rfl⟩:=h;refine ⟨rfl,rfl,rfl,by unfold sortWorldK;rw [size_grow,size_putRowK];exact Nat.le_add_right _ _,fun q hq hne=>?_⟩;unfold sortWorldK;rw [heap_grow_old _ _ (by rw [size_putRowK];exact hq)];(have:g≠q:=fun e=>hne (by rw [e]));simp [putRowK,putRow,mapBlock,Sort.ahead,Array.getElem?_modify,this]
theorem take_putF (cur:Array Value) (F:Array Value) (h:F.size≤cur.size):(putCells id 0 F cur).toList.take F.size=F.toList:=by
 apply List.ext_getElem?;intro j
 by_cases hj:j<F.size
 · rw [List.getElem?_take_of_lt hj,Array.getElem?_toList]
   simp [putCells,hj,show j<cur.size by omega]
 · rw [List.getElem?_take_eq_none (by omega),List.getElem?_eq_none (by simp;omega)]
theorem swk_own (hk:∀ x,(enc x).length=k) {xs:List Value} (h:w.ownsRow L T k (.slice (some ⟨g,0,none⟩) n c) n xs) (hS:SWK enc k w g 0 l.toArray W) (hl:l.length=n):W.ownsRow L T k (.slice (some ⟨g,0,none⟩) n c) n (l.flatMap enc):=by
 refine ⟨by rw [qDm enc k hk,hl],?_⟩
 rcases h.2 with ⟨hv,hn⟩ | ⟨g',cap,cur,hv,hg,hb,hnc,hcm,hcs,ht⟩
 · cases hv
 · cases hv
   obtain ⟨m,os,rfl⟩:=hS;refine .inr ⟨g,c,_,rfl,hg,swk_heap _ hb,hnc,hcm,by simp [putCells,hcs],?_⟩;have h1:=take_putF cur (flatK enc k l.toArray) (by rw [size_flatK];simp [hl,hcs];exact Nat.mul_le_mul_right _ hnc);rw [flatK_list hk,size_flatK] at h1;simpa [hl] using h1
end
end
section
theorem qHz {α:Type} {p:α→Bool}:∀ (l:List α),l.take (l.takeWhile p).length=l.takeWhile p
 | []=>rfl
 | a :: l=>by
  rw [List.takeWhile_cons]
  by_cases h:p a=true
  · rw [if_pos h,List.length_cons,List.take_succ_cons,qHz l]
  · rw [if_neg h];rfl
theorem qKi {α:Type} {p:α→Bool}:∀ {l:List α} {x:α},x∈l.takeWhile p→p x=true
 | [],x,h=>by simp at h
 | a :: l,x,h=>by
  rw [List.takeWhile_cons] at h
  by_cases ha:p a=true
  · rw [if_pos ha] at h
    rcases List.mem_cons.1 h with rfl | h
    · exact ha
    · exact qKi h
  · rw [if_neg ha] at h;simp at h
theorem qFz {α:Type} {p:α→Bool}:∀ {l:List α} {x:α},(l.drop (l.takeWhile p).length).head?=some x→p x=false
 | [],x,h=>by simp at h
 | a :: l,x,h=>by
  rw [List.takeWhile_cons] at h
  by_cases ha:p a=true
  · rw [if_pos ha,List.length_cons,List.drop_succ_cons] at h
    exact qFz h
  · rw [if_neg ha] at h
    simp at h;subst h;simpa using ha
end
section
structure Spn where
 inn:Int
 out:Int
 deriving DecidableEq
def qCg (l:List Spn) (s:Spn):List Spn:=match l.getLast? with
 | some x=>if s.inn≤x.out then l.dropLast++[⟨x.inn,max x.out s.out⟩] else l++[s]
 | none=>[s]
def mg (l:List Spn):List Spn:=l.foldl qCg []
theorem qOs (s:Spn):qCg [] s=[s]:=rfl
theorem qGe (l:List Spn) (x s:Spn):qCg (l++[x]) s=if s.inn≤x.out then l++[⟨x.inn,max x.out s.out⟩] else l++[x,s]:=by
 unfold qCg;rw [show (l++[x]).getLast?=some x by simp];simp only [List.dropLast_concat]
 split
 · rfl
 · simp
theorem mg_swap (l:List Spn) (x y:Spn) (h:x.inn=y.inn) (hx:x.inn<x.out) (hy:y.inn<y.out):qCg (qCg l x) y=qCg (qCg l y) x:=by
 obtain ⟨xi,xo⟩:=x;obtain ⟨yi,yo⟩:=y;simp only at h hx hy;subst h
 rcases List.eq_nil_or_concat l with rfl | ⟨l,z,e⟩
 · rw [qOs,qOs,show ([⟨xi,xo⟩]:List Spn)=[]++[⟨xi,xo⟩] from rfl,show ([⟨xi,yo⟩]:List Spn)=[]++[⟨xi,yo⟩] from rfl,qGe,qGe,if_pos (by simp only;omega),if_pos (by simp only;omega)]
   simp only [Int.max_comm]
 · rw [List.concat_eq_append] at e;subst e
   rw [qGe,qGe]
   by_cases hz:xi≤z.out
   · rw [if_pos hz,if_pos hz,qGe,qGe,if_pos (by simp only;omega),if_pos (by simp only;omega)]
     simp only [Int.max_assoc,Int.max_comm xo yo]
   · rw [if_neg hz,if_neg hz,show l++[z,⟨xi,xo⟩]=(l++[z])++[⟨xi,xo⟩] by simp,show l++[z,⟨xi,yo⟩]=(l++[z])++[⟨xi,yo⟩] by simp,qGe,qGe,if_pos (by simp only;omega),if_pos (by simp only;omega)]
     simp only [Int.max_comm]
def Full (l:List Spn):Prop:=∀ s∈l,s.inn<s.out
def qKk (l:List Spn):Prop:=l.Pairwise fun x y=>x.inn≤y.inn
theorem mg_front:∀ (A:List Spn) (x:Spn) (B l:List Spn),(∀ a∈A,a.inn=x.inn)→Full A→x.inn<x.out→(A++x :: B).foldl qCg l=(x :: (A++B)).foldl qCg l
 | [],x,B,l,_,_,_=>rfl
 | a :: A,x,B,l,h1,h2,h3=>by
  have:=mg_front A x B (qCg l a) (fun b hb=>h1 b (by simp [hb])) (fun b hb=>h2 b (by simp [hb])) h3;simp only [List.cons_append,List.foldl_cons] at this ⊢;rw [this,mg_swap l a x (h1 a (by simp)) (h2 a (by simp)) h3]
theorem mg_perm:∀ (l m base:List Spn),qKk l→qKk m→l.Perm m→Full l→l.foldl qCg base=m.foldl qCg base
 | [],m,base,_,_,hp,_=>by rw [List.nil_perm.1 hp]
 | x :: l,m,base,hl,hm,hp,hf=>by
  obtain ⟨A,B,rfl⟩:=List.append_of_mem (hp.mem_iff.1 (show x∈x :: l by simp));(have hfm:∀ s∈A++x :: B,s.inn<s.out:=fun s hs=>hf s (hp.mem_iff.2 hs));unfold qKk at hl hm;rw [List.pairwise_cons] at hl;rw [List.pairwise_append,List.pairwise_cons] at hm
  have hA:∀ a∈A,a.inn=x.inn:=by
   intro a ha;have h1:=hm.2.2 a ha x (by simp);have h2:a∈x :: l:=hp.mem_iff.2 (by simp [ha])
   rcases List.mem_cons.1 h2 with rfl | h2
   · rfl
   · have:=hl.1 a h2;omega
  rw [mg_front A x B base hA (fun s hs=>hfm s (by simp [hs])) (hf x (by simp))];have hp':l.Perm (A++B):=(List.perm_cons x).1 (hp.trans List.perm_middle);simp only [List.foldl_cons];refine mg_perm l (A++B) _ hl.2 ?_ hp' (fun s hs=>hf s (by simp [hs]));unfold qKk;rw [List.pairwise_append];exact ⟨hm.1,hm.2.1.2,fun a ha b hb=>hm.2.2 a ha b (by simp [hb])⟩
def Inn (l:List Spn) (f:Int):Prop:=∃ s∈l,s.inn≤f∧f<s.out
def qGh (l:List Spn):Prop:=Full l∧l.Pairwise fun x y=>x.out<y.inn
theorem qNv (l:List Spn) (x:Spn) (f:Int):Inn (l++[x]) f↔Inn l f∨(x.inn≤f∧f<x.out):=by
 unfold Inn
 constructor
 · rintro ⟨s,hs,h⟩
   rcases List.mem_append.1 hs with hs | hs
   · exact .inl ⟨s,hs,h⟩
   · simp at hs;subst hs;exact .inr h
 · rintro (⟨s,hs,h⟩ | h)
   · exact ⟨s,by simp [hs],h⟩
   · exact ⟨x,by simp,h⟩
theorem step_ok {l:List Spn} {s:Spn} (h:qGh l) (hs:s.inn<s.out) (hl:∀ x∈l,x.inn≤s.inn):qGh (qCg l s)∧(∀ f,Inn (qCg l s) f↔Inn l f∨(s.inn≤f∧f<s.out))∧(∀ x∈qCg l s,x.inn≤s.inn)∧(qCg l s).length≤l.length+1 ∧
 (∀ lo hi:Int,(∀ x∈l,lo≤x.inn∧x.out≤hi)→lo≤s.inn→s.out≤hi→∀ x∈qCg l s,lo≤x.inn∧x.out≤hi):=by
 rcases List.eq_nil_or_concat l with rfl | ⟨l,z,e⟩
 · rw [qOs]
   refine ⟨⟨fun x hx=>by simp at hx;subst hx;exact hs,by simp⟩,fun f=>?_,fun x hx=>by simp at hx;subst hx;exact Int.le_refl _,by simp,fun lo hi _ h1 h2 x hx=>by simp at hx;subst hx;exact ⟨h1,h2⟩⟩;have:=qNv [] s f;simpa using this
 · rw [List.concat_eq_append] at e;subst e
   rw [qGe];have hz:=hl z (by simp);have hzf:=h.1 z (by simp);have hp:=h.2;rw [List.pairwise_append] at hp
   split
   · rename_i hc
     refine ⟨⟨fun x hx=>?_,?_⟩,fun f=>?_,fun x hx=>?_,by simp,fun lo hi hb h1 h2 x hx=>?_⟩
     · rcases List.mem_append.1 hx with hx | hx
       · exact h.1 x (by simp [hx])
       · simp at hx;subst hx;simp only;omega
     · rw [List.pairwise_append]
       refine ⟨hp.1,by simp,fun a ha b hb=>?_⟩;(simp at hb;subst hb);exact hp.2.2 a ha z (by simp)
     · rw [qNv,qNv,or_assoc]
       refine or_congr_right ?_;simp only;omega
     · rcases List.mem_append.1 hx with hx | hx
       · exact hl x (by simp [hx])
       · simp at hx;subst hx;exact hz
     · rcases List.mem_append.1 hx with hx | hx
       · exact hb x (by simp [hx])
       · simp at hx;subst hx
         have:=hb z (by simp);(simp only;omega)
   · rename_i hc
     (have e:l++[z,s]=(l++[z])++[s]:=by simp);rw [e];refine ⟨⟨fun x hx=>?_,?_⟩,fun f=>qNv _ _ _,fun x hx=>?_,by simp,fun lo hi hb h1 h2 x hx=>?_⟩
     · rcases List.mem_append.1 hx with hx | hx
       · exact h.1 x hx
       · simp at hx;subst hx;exact hs
     · rw [List.pairwise_append]
       refine ⟨h.2,by simp,fun a ha b hb=>?_⟩;(simp at hb;subst hb)
       rcases List.mem_append.1 ha with ha | ha
       · have h1:=hp.2.2 a ha z (by simp)
         omega
       · simp at ha;subst ha;omega
     · rcases List.mem_append.1 hx with hx | hx
       · exact hl x hx
       · simp at hx;subst hx;exact Int.le_refl _
     · rcases List.mem_append.1 hx with hx | hx
       · exact hb x hx
       · simp at hx;subst hx;exact ⟨h1,h2⟩
theorem mg_fold:∀ (l m:List Spn),qGh m→qKk l→Full l→(∀ x∈m,∀ s∈l,x.inn≤s.inn)→qGh (l.foldl qCg m)∧(∀ f,Inn (l.foldl qCg m) f↔Inn m f∨Inn l f)∧(l.foldl qCg m).length≤m.length+l.length ∧
 (∀ lo hi:Int,(∀ x∈m,lo≤x.inn∧x.out≤hi)→(∀ x∈l,lo≤x.inn∧x.out≤hi)→∀ x∈l.foldl qCg m,lo≤x.inn∧x.out≤hi)
 | [],m,h,_,_,_=>⟨h,fun f=>by simp [Inn],by simp,fun lo hi h1 _=>h1⟩
 | s :: l,m,h,ha,hf,hm=>by
  unfold qKk at ha;rw [List.pairwise_cons] at ha;obtain ⟨k1,k2,k3,k4,k5⟩:=step_ok h (hf s (by simp)) (fun x hx=>hm x hx s (by simp));obtain ⟨e1,e2,e3,e4⟩:=mg_fold l (qCg m s) k1 ha.2 (fun x hx=>hf x (by simp [hx])) (fun x hx y hy=>by have:=k3 x hx;have:=ha.1 y hy;omega);refine ⟨e1,fun f=>?_,by simp only [List.foldl_cons,List.length_cons];omega,fun lo hi h1 h2=>?_⟩
  · rw [List.foldl_cons,e2,k2,or_assoc]
    refine or_congr_right ?_;unfold Inn;simp
  · have hs:=h2 s (by simp)
    exact e4 lo hi (k5 lo hi h1 hs.1 hs.2) (fun x hx=>h2 x (by simp [hx]))
def full (l:List Spn):List Spn:=l.filter fun s=>decide (s.inn<s.out)
theorem full_ok (l:List Spn):Full (full l):=fun s hs=>by simpa using (List.mem_filter.1 hs).2
def putS (l:List Spn) (s:Spn):List Spn:=l.take (l.takeWhile fun x=>decide (x.inn≤s.inn)).length++s :: l.drop (l.takeWhile fun x=>decide (x.inn≤s.inn)).length
def sortS' (l:List Spn):List Spn:=l.foldl putS []
theorem putS_ok {l:List Spn} {s:Spn} (h:qKk l):qKk (putS l s)∧(putS l s).Perm (s :: l):=by
 have hs:l.take (l.takeWhile fun x=>decide (x.inn≤s.inn)).length++l.drop (l.takeWhile fun x=>decide (x.inn≤s.inn)).length=l:=List.take_append_drop _ _
 have hA:∀ x∈l.take (l.takeWhile fun x=>decide (x.inn≤s.inn)).length,x.inn≤s.inn:=by
  intro x hx;rw [qHz] at hx;simpa using qKi hx
 have hB0:∀ y,(l.drop (l.takeWhile fun x=>decide (x.inn≤s.inn)).length).head?=some y→s.inn<y.inn:=by
  intro y hy;have:=qFz (p:=fun x:Spn=>decide (x.inn≤s.inn)) (l:=l) hy;simpa using this
 unfold putS;generalize l.take (l.takeWhile fun x=>decide (x.inn≤s.inn)).length=A at *;generalize l.drop (l.takeWhile fun x=>decide (x.inn≤s.inn)).length=B at *;subst hs;unfold qKk at *;rw [List.pairwise_append] at h;refine ⟨?_,List.perm_middle⟩;rw [List.pairwise_append];refine ⟨h.1,List.pairwise_cons.2 ⟨fun y hy=>?_,h.2.1⟩,fun a ha b hb=>?_⟩
 · cases B with
   | nil=>simp at hy
   | cons b B =>
    have hb:=hB0 b rfl
    rcases List.mem_cons.1 hy with rfl | hy
    · omega
    · have:=(List.pairwise_cons.1 h.2.1).1 y hy;omega
 · rcases List.mem_cons.1 hb with rfl | hb
   · exact hA a ha
   · exact h.2.2 a ha b hb
theorem sortS_fold:∀ (l m:List Spn),qKk m→qKk (l.foldl putS m)∧(l.foldl putS m).Perm (m++l)
 | [],m,h=>⟨h,by simp⟩
 | s :: l,m,h=>by
  obtain ⟨h1,h2⟩:=putS_ok (s:=s) h;obtain ⟨k1,k2⟩:=sortS_fold l (putS m s) h1;refine ⟨k1,k2.trans ?_⟩;exact ((h2.append_right l).trans (by simpa using (List.perm_middle (a:=s) (l₁:=m) (l₂:=l)).symm))
theorem sortS_ok (l:List Spn):qKk (sortS' l)∧(sortS' l).Perm l:=by
 have:=sortS_fold l [] (by simp [qKk]);simpa [sortS'] using this
def qDf (l:List Spn):List Spn:=mg (sortS' (full l))
theorem merge_join {l m:List Spn} (hp:m.Perm l) (hs:m.Pairwise fun x y=>¬ y.inn<x.inn):(m.filter fun s=>decide (s.inn<s.out)).foldl qCg []=qDf l:=by
 obtain ⟨h1,h2⟩:=sortS_ok (full l);unfold qDf mg;refine mg_perm _ _ [] ?_ h1 ((hp.filter _).trans h2.symm) (full_ok m);unfold qKk;exact (hs.imp fun {x y} h=>by omega).filter _
theorem qNz (l:List Spn):qGh (qDf l)∧(∀ f,Inn (qDf l) f↔Inn l f)∧(qDf l).length≤l.length∧(∀ lo hi:Int,(∀ x∈l,lo≤x.inn∧x.out≤hi)→∀ x∈qDf l,lo≤x.inn∧x.out≤hi):=by
 obtain ⟨h1,h2⟩:=sortS_ok (full l);(have hf:Full (sortS' (full l)):=fun s hs=>full_ok l s (h2.mem_iff.1 hs));obtain ⟨k1,k2,k3,k4⟩:=mg_fold (sortS' (full l)) [] ⟨by simp [Full],by simp⟩ h1 hf (by simp);refine ⟨k1,fun f=>?_,?_,fun lo hi h=>k4 lo hi (by simp) (fun x hx=>h x (List.mem_filter.1 (h2.mem_iff.1 hx)).1)⟩
 · unfold qDf mg
   rw [k2];unfold Inn
   constructor
   · rintro (⟨s,hs,_⟩ | ⟨s,hs,h⟩)
     · simp at hs
     · exact ⟨s,(List.mem_filter.1 (h2.mem_iff.1 hs)).1,h⟩
   · rintro ⟨s,hs,h⟩
     exact .inr ⟨s,h2.mem_iff.2 (List.mem_filter.2 ⟨hs,by simp;omega⟩),h⟩
 · have:=h2.length_eq
   have:=List.length_filter_le (fun s:Spn=>decide (s.inn<s.out)) l;unfold qDf mg full at *;simp at k3;omega
end
end Go.Proofs.YtablhmobekmflaaGreatDoor