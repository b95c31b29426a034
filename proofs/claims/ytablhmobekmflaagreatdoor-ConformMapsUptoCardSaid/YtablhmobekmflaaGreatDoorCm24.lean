/- Texts laid together. -/
import Derived.Test.YtablhmobekmflaaGreatDoorCm23
import Derived.Test.YtablhmobekmflaaGreatDoorCm14
import Derived.Test.YtablhmobekmflaaGreatDoorCm22
import Derived.Test.YtablhmobekmflaaGreatDoorCm15
import Derived.Test.YtablhmobekmflaaGreatDoorCm12
set_option linter.unusedVariables false
set_option linter.unusedSimpArgs false
set_option maxRecDepth 100000
namespace Go.Proofs.YtablhmobekmflaaGreatDoor
section
open Go.RowKit Go.Maps
theorem own_same {w w1:World} {L size n:Nat} {T:TypeId} {v:Value} {xs:List Value} (h:w.ownsRow L T size v n xs) (k:∀ q,v.ownBlock=some q→w1.heap[q]?=w.heap[q]?):w1.ownsRow L T size v n xs:=by
 refine ⟨h.1,?_⟩
 rcases h.2 with hn | ⟨g,cap,cur,rfl,hb,hg,rest⟩
 · exact .inl hn
 · exact .inr ⟨g,cap,cur,rfl,hb,(k g rfl).trans hg,rest⟩
theorem qBv.same {w w1:World} {L n:Nat} {v:Value} {l:List Ev} (h:qBv w L v n l) (k:∀ q,v.ownBlock=some q→w1.heap[q]?=w.heap[q]?) (k1:KB 174 w w1) (k2:KB 171 w w1):qBv w1 L v n l:=by
 obtain ⟨hs,h1,h2,h3,h4⟩:=h;exact ⟨hs,own_same h1 k,h2,h3,fun i x e a b=>(h4 i x e a b).kb k1 k2⟩
theorem qBv.typed {w:World} {L n:Nat} {v:Value} {l:List Ev} (h:qBv w L v n l):∀ q,v.ownBlock=some q→qBf w 64 q:=by
 obtain ⟨hs,h1,-⟩:=h;exact qAj h1
theorem qBv.low {w:World} {L n:Nat} {v:Value} {l:List Ev} (h:qBv w L v n l):∀ q,v.ownBlock=some q→L≤q:=by
 obtain ⟨hs,h1,-⟩:=h;exact qAp h1
structure MnF (w wJ:World) (gD:Nat) (uF ur:Value) (e:Edl) (lg:ByteArray) (mR:List Reg) (X:Nat→Prop) (vE:Value) (last:Int) (s:qCv) (wr:World):Prop where
 ext:Ext w wr
 keep:Keep (fun q=>q=gD∨uF.ownBlock=some q) wJ wr
 doc:Blk wr gD 52 (qBc e lg last ur vE)
 evs:qBv wr wJ.heap.size vE s.evs.length s.evs
 sep:∀ q,vE.ownBlock=some q→¬ X q
 fats:qBa wr w.heap.size wJ.heap.size uF s.fats
 regs:wr.ownsRow w.heap.size 105 7 ur mR.length (mR.flatMap Reg.vals)
section
variable {w wJ wr w2:World} {gD:Nat} {uF ur vE:Value} {e:Edl} {lg:ByteArray} {mR:List Reg} {X:Nat→Prop} {last:Int} {s:qCv}
theorem MnF.step (h:MnF w wJ gD uF ur e lg mR X vE last s wr) (q:Ext wr w2):MnF w wJ gD uF ur e lg mR X vE last s w2 :=
 ⟨h.ext.trans q,h.keep.ext q,h.doc.ext q,h.evs.ext q,h.sep,h.fats.ext q,qAh h.regs q⟩
theorem MnF.putDoc (h:MnF w wJ gD uF ur e lg mR X vE last s wr) (hw:w.heap.size≤gD) (last':Int):MnF w wJ gD uF ur e lg mR X vE last' s (putB wr gD 52 (qBc e lg last' ur vE)) :=
 ⟨h.ext.put hw _ _,h.keep.put (.inl (.inl rfl)),h.doc.put _,h.evs.kb (KB.put h.doc (by decide)) (KB.put h.doc (by decide)) (KB.put h.doc (by decide)),h.sep,h.fats.kb (KB.put h.doc (by decide)) (KB.put h.doc (by decide)),qDi h.regs (KB.put h.doc (by decide))⟩
theorem MnF.poke {g:Nat} {cs cs':Array Value} (h:MnF w wJ gD uF ur e lg mR X vE last s wr) (hB:Blk wr g 64 cs) (hw:w.heap.size≤g) (hJ:wJ.heap.size≤g) (hne:∀ q,vE.ownBlock=some q→q≠g):MnF w wJ gD uF ur e lg mR X vE last s (putB wr g 64 cs'):=by
 refine ⟨h.ext.put hw _ _,h.keep.put (.inr hJ),h.doc.kb (KB.put hB (by decide)),h.evs.same (fun q hq=>?_) (KB.put hB (by decide)) (KB.put hB (by decide)),h.sep,h.fats.kb (KB.put hB (by decide)) (KB.put hB (by decide)),qDi h.regs (KB.put hB (by decide))⟩;unfold putB;simp only;rw [Array.getElem?_setIfInBounds_ne (fun e=>hne q hq e.symm)]
theorem MnF.app {w5:World} {v':Value} {x:Ev} {A':Option Addr} {n' c':Nat} (h:MnF w wJ gD uF ur e lg mR X vE last s wr) (hw:w.heap.size≤gD) (hJw:w.heap.size≤wJ.heap.size) (q:Ext wr w5) (hg:w5.grownBy w2 vE.ownBlock) (hX:∀ q,X q→q<w5.heap.size) (hE:qFg w5 wJ.heap.size (EH.of x A' n' c') x)
 (hloc:v'.ownBlock=vE.ownBlock∨v'.ownBlock=some w5.heap.size) (hO:∀ xs,w5.ownsRow wJ.heap.size 64 7 vE s.evs.length xs→w2.ownsRow wJ.heap.size 64 7 v' (s.evs.length+1) (xs++(x.cells A' n' c').toList)) :
 MnF w wJ gD uF ur e lg mR X v' last ⟨s.evs++[x],s.fats⟩ (putB w2 gD 52 (qBc e lg last ur v')):=by
 have h5:=h.step q;have ho:=Only.grown hg h5.evs.typed;have hD:=h5.doc.only ho (by decide);refine ⟨(Ext.grown h5.ext hg (fun q hq=>Nat.le_trans hJw (h5.evs.low q hq))).put hw _ _,(h5.keep.grown hg (fun q hq=>.inr (h5.evs.low q hq))).put (.inl (.inl rfl)),hD.put _,?_,fun q hq=>?_,(h5.fats.kb (ho.kb _ (by decide)) (ho.kb _ (by decide))).kb (KB.put hD (by decide)) (KB.put hD (by decide)),qDi (qDi h5.regs (ho.kb _ (by decide))) (KB.put hD (by decide))⟩
 · have:=(h5.evs.snoc hE hg hO).kb (KB.put (cs':=qBc e lg last ur v') hD (by decide)) (KB.put (cs':=qBc e lg last ur v') hD (by decide)) (KB.put (cs':=qBc e lg last ur v') hD (by decide))
   simpa using this
 · rcases hloc with hl | hl
   · rw [hl] at hq;exact h.sep q hq
   · rw [hl] at hq
     cases hq
     intro hx;exact Nat.lt_irrefl _ (hX _ hx)
theorem MnF.note {w5 w6:World} {v':Value} {gF nF cF i:Nat} {f:Fat} {b:Bool} {y:Int} {x:FH} (h:MnF w wJ gD uF ur e lg mR X vE last s wr) (hJw:w.heap.size≤wJ.heap.size) (hF:uF = .slice (some ⟨gF,0,none⟩) nF cF) (hTy:qBf wr 67 gF) (hLg:w.heap.size≤gF) (hG:FGood wr wJ.heap.size x f) (q:Ext wr w5) (hg:w5.grownBy w6 (x.slot b).ownBlock)
 (hnew:qBa (w6.setCell ⟨gF,i*5+slotO b,none⟩ v') w.heap.size wJ.heap.size uF (s.fats.modify i fun f=>f.push b y)) :
 MnF w wJ gD uF ur e lg mR X vE last ⟨s.evs,s.fats.modify i fun f=>f.push b y⟩ (w6.setCell ⟨gF,i*5+slotO b,none⟩ v'):=by
 have h5:=h.step q;(have hG5:∀ b,w5.ownsRow wJ.heap.size 2 1 (x.slot b) (f.slot b).length ((f.slot b).flatMap intV):=fun b=>qAh (hG.row b) q);have ho:=Only.grown hg (qAj (hG5 b));have hT6:qBf w6 67 gF:=(hTy.ext q).kb (ho.kb _ (by decide));have ho2:Only 67 w6 (w6.setCell ⟨gF,i*5+slotO b,none⟩ v'):=Only.set hT6;refine ⟨(Ext.grown h5.ext hg (fun q hq=>Nat.le_trans hJw (qAp (hG5 b) q hq))).setCell hLg _,(h5.keep.grown hg (fun q hq=>.inr (qAp (hG5 b) q hq))).set (.inl (.inr (by rw [hF];rfl))),(h5.doc.only ho (by decide)).only ho2 (by decide),?_,h.sep,hnew,qDi (qDi h5.regs (ho.kb _ (by decide))) (ho2.kb _ (by decide))⟩;exact (h5.evs.kb (ho.kb _ (by decide)) (ho.kb _ (by decide)) (ho.kb _ (by decide))).kb (ho2.kb _ (by decide)) (ho2.kb _ (by decide)) (ho2.kb _ (by decide))
end
theorem MnF.final {w wJ wr:World} {gD gz:Nat} {uF ur vE:Value} {e:Edl} {lg:ByteArray} {mR:List Reg} {X:Nat→Prop} {last:Int} {s:qCv} {cs:Array Value} (h:MnF w wJ gD uF ur e lg mR X vE last s wr) (hZ:Blk wr gz 52 cs) (cs':Array Value) :
 qBv (putB wr gz 52 cs') wJ.heap.size vE s.evs.length s.evs∧qBa (putB wr gz 52 cs') w.heap.size wJ.heap.size uF s.fats∧(putB wr gz 52 cs').ownsRow w.heap.size 105 7 ur mR.length (mR.flatMap Reg.vals) :=
 ⟨h.evs.kb (KB.put hZ (by decide)) (KB.put hZ (by decide)) (KB.put hZ (by decide)),h.fats.kb (KB.put hZ (by decide)) (KB.put hZ (by decide)),qDi h.regs (KB.put hZ (by decide))⟩
theorem MnF.weaken {w wJ wr:World} {gD:Nat} {uF ur vE:Value} {e:Edl} {lg:ByteArray} {mR:List Reg} {X:Nat→Prop} {last:Int} {s:qCv} (h:MnF w wJ gD uF ur e lg mR X vE last s wr):MnF w wJ gD uF ur e lg mR (fun _=>False) vE last s wr :=
 ⟨h.ext,h.keep,h.doc,h.evs,fun _ _ h=>h,h.fats,h.regs⟩
def MnSt (w wJ:World) (gD:Nat) (uF ur:Value) (e:Edl) (lg:ByteArray) (mR:List Reg) (X:Nat→Prop) (s:qCv) (wr:World):Prop:=∃ vE,MnF w wJ gD uF ur e lg mR X vE s.evs.length s wr
structure NtJ (base:Nat) (v:Value) (n:Nat) (xs:List Value) (y:Int) (p:Addr) (W:World) (us:List Value) (w':World):Prop where
 only:us.length≤2→Only 2 W w'
 e0:us.length=0→Ext W w'
 e1:us.length=1→Ext W w'∧∃ g,us.getD 0 undef = .slice (some ⟨g,0,none⟩) 1 1∧Blk w' g 2 #[.int .i64 y]
 e2:us.length=2→∃ w5,Ext W w5∧w5.grownBy w' v.ownBlock∧((us.getD 1 undef).ownBlock=v.ownBlock∨(us.getD 1 undef).ownBlock=some w5.heap.size)∧w'.ownsRow base 2 1 (us.getD 1 undef) (n+1) (xs++[.int .i64 y])
 e3:us.length=3→∃ w5 w6,Ext W w5∧w5.grownBy w6 v.ownBlock∧((us.getD 1 undef).ownBlock=v.ownBlock∨(us.getD 1 undef).ownBlock=some w5.heap.size)∧w6.ownsRow base 2 1 (us.getD 1 undef) (n+1) (xs++[.int .i64 y])∧w'=w6.setCell p (us.getD 1 undef)
section
variable {base n:Nat} {v:Value} {xs:List Value} {y:Int} {p:Addr} {W w' w2:World} {u0 u1 u2:Value}
theorem NtJ.start (W:World):NtJ base v n xs y p W [] W.drew:=⟨fun _=>Only.ext (Ext.refl W).drew,fun _=>(Ext.refl W).drew,fun h=>by simp at h,fun h=>by simp at h,fun h=>by simp at h⟩
theorem NtJ.build (h:NtJ base v n xs y p W [] w'):NtJ base v n xs y p W ([]++[.slice (some ⟨w'.heap.size,0,none⟩) 1 1]) (w'.alloc (.cells #[.int .i64 y] 2)) :=
 ⟨fun _=>(h.only (by simp)).trans (Only.ext ((Ext.refl w').alloc _)),fun h=>by simp at h,fun _=>⟨(h.e0 rfl).alloc _,⟨_,rfl,Blk.new w' _ _⟩⟩,fun h=>by simp at h,fun h=>by simp at h⟩
theorem NtJ.app (h:NtJ base v n xs y p W [u0] w') (hv:∀ q,v.ownBlock=some q→qBf w' 2 q) (hg:w'.grownBy w2 v.ownBlock) (hloc:u1.ownBlock=v.ownBlock∨u1.ownBlock=some w'.heap.size) (ho:w2.ownsRow base 2 1 u1 (n+1) (xs++[.int .i64 y])):NtJ base v n xs y p W ([u0]++[u1]) w2 :=
 ⟨fun _=>(h.only (by simp)).trans (Only.grown hg hv),fun h=>by simp at h,fun h=>by simp at h,fun _=>⟨w',(h.e1 rfl).1,hg,hloc,ho⟩,fun h=>by simp at h⟩
theorem NtJ.store (h:NtJ base v n xs y p W [u0,u1] w'):NtJ base v n xs y p W ([u0,u1]++[u2]) (w'.setCell p u1):=by
 obtain ⟨w5,a,b,c,d⟩:=h.e2 rfl;exact ⟨fun h=>by simp at h,fun h=>by simp at h,fun h=>by simp at h,fun h=>by simp at h,fun _=>⟨w5,w',a,b,c,d,rfl⟩⟩
end
structure E2K (C:Nat) (cs1 cs2:Array Value) (W:World) (us:List Value) (w':World):Prop where
 only:Only 64 W w'
 nil:us=[]→Ext W w'
 one:∀ u,us=[u]→∃ w5,Ext W w5∧w'=putB w5 C 64 cs1
 two:∀ u u1,us=[u,u1]→∃ w5,Ext W w5∧w'=putB w5 C 64 cs2
section
variable {C:Nat} {cs0 cs1 cs2:Array Value} {W w':World} {u0 u1:Value}
theorem E2K.start (W:World):E2K C cs1 cs2 W [] W.drew:=⟨Only.ext (Ext.refl W).drew,fun _=>(Ext.refl W).drew,fun u h=>by simp at h,fun u u1 h=>by simp at h⟩
theorem E2K.first (h:E2K C cs1 cs2 W [] w') (hB:Blk W C 64 cs0):E2K C cs1 cs2 W ([]++[u0]) (putB w' C 64 cs1) :=
 ⟨(Only.ext (h.nil rfl)).trans (Only.put (hB.ext (h.nil rfl))),fun h=>by simp at h,fun u hu=>⟨w',h.nil rfl,rfl⟩,fun u u1 h=>by simp at h⟩
theorem E2K.second (h:E2K C cs1 cs2 W [u0] w') (hB:Blk W C 64 cs0):E2K C cs1 cs2 W ([u0]++[u1]) (putB w' C 64 cs2):=by
 obtain ⟨w5,hx,rfl⟩:=h.one u0 rfl;refine ⟨h.only.trans (Only.put ((hB.ext hx).put cs1)),fun h=>by simp at h,fun u h=>by simp at h,fun u v e=>⟨w5,hx,by rw [qHc]⟩⟩
end
theorem conCut_len {docs:List RDoc} (h:∀ d∈docs,d.doc.evs.length≤400) (least:Int) (s:qCv) (c:Cut):(qFi docs least s c).evs.length≤s.evs.length+400∧(qFi docs least s c).fats.length=s.fats.length:=by
 unfold qFi
 cases qHi docs c.reel with
 | none=>simp
 | some k =>
  have h1:=qJc c least (evsR docs k) (offR docs k) s
  have h2:(evsR docs k).length≤400:=by
   unfold evsR
   cases hk:docs[k]? with
   | none=>simp
   | some d=>exact h d (List.mem_of_getElem? hk)
  exact ⟨Nat.le_trans h1.1 (by omega),h1.2⟩
theorem qKc {docs:List RDoc} (h:∀ d∈docs,d.doc.evs.length≤400) (least:Int):∀ (l:List Cut) (s:qCv),(qBo docs least l s).evs.length≤s.evs.length+l.length*400∧(qBo docs least l s).fats.length=s.fats.length
 | [],s=>by simp [qBo]
 | c :: l,s=>by
  have h1:=conCut_len h least s c;have h2:=qKc h least l (qFi docs least s c);have e:qBo docs least (c :: l) s=qBo docs least l (qFi docs least s c):=rfl;rw [e,List.length_cons,Nat.succ_mul];omega
def Mn1Rel (w wJ:World) (gD:Nat) (uF ur:Value) (e:Edl) (lg:ByteArray) (mR:List Reg) (docs:List RDoc) (least:Int) (cuts:List Cut) (s0:qCv) (n:Nat) (i:Value) (wr:World):Prop :=
 ∃ k:Nat,k≤n∧i = .int .i64 k∧MnSt w wJ gD uF ur e lg mR (fun _=>False) (qBo docs least (cuts.take k) s0) wr
def Mn2Rel (w wJ:World) (gD:Nat) (uF ur:Value) (e:Edl) (lg:ByteArray) (mR:List Reg) (c:Cut) (least:Int) (off:Nat) (evs:List Ev) (s0:qCv) (vC:Value) (gc n:Nat) (i:Value) (wr:World):Prop :=
 ∃ j:Nat,j≤n∧i = .int .i64 j∧MnSt w wJ gD uF ur e lg mR (fun q=>vC.ownBlock=some q) (qCr c least off (evs.take j) s0) wr∧qBv wr wJ.heap.size vC n evs∧Blk wr gc 91 c.cells
theorem joinC_ok {e:Edl} (h:qAn e=0):∀ c∈qAx e.cuts,c.pc.Ok:=by
 intro c hc;have h1:=join_ok h;have h2:=(qEm h1).2.2.2.2.1;rw [qIv h] at h2;exact cut_pc_ok (qMi h2 c hc).1 (qKq _ _)
theorem joinC_few {e:Edl} (h:qAn e=0):(qAx e.cuts).length≤64:=by
 have h1:=qPg e.cuts e.cuts.length (Nat.le_refl _);rw [List.take_length] at h1;have:=(qEm h).2.2.2.1;omega
theorem fats_in {e:Edl} {docs:List RDoc} {z j:Nat} {x:RDoc} {y:Ev} (hx:docs[z]?=some x) (hy:x.doc.evs[j]?=some y):offR docs z+j<(qBx e docs).length:=by
 have h1:=(List.getElem?_eq_some_iff.1 (keys_at hx hy)).1;have h2:=congrArg List.length (keys_fats e docs);rw [List.length_map] at h2;omega
theorem modify_two {l:List Fat} {i:Nat} {f g:Fat→Fat}:(l.modify i f).modify i g=l.modify i fun x=>g (f x):=by
 apply List.ext_getElem?;intro j;rw [List.getElem?_modify,List.getElem?_modify,List.getElem?_modify]
 cases l[j]? with
 | none=>rfl
 | some x=>by_cases h:i=j<;>simp [h]
theorem qHp (l:List Fat) (i:Nat) (id:Int) (sh:Bool):(l.modify i fun f=>f.note id sh)=if sh=true then (l.modify i fun f=>f.push false id).modify i (fun f=>f.push true id) else l.modify i fun f=>f.push false id:=by
 cases sh with
 | false=>simp only [note_push];rfl
 | true=>rw [if_pos rfl,modify_two];simp only [note_push];rfl
theorem qBv.row {w:World} {L n:Nat} {v:Value} {l:List Ev} (h:qBv w L v n l):∃ xs,w.ownsRow L 64 7 v n xs:=h.elim fun _ h=>⟨_,h.1⟩
theorem map_notCells {w:World} {B q:Nat} {l:List RDoc} {T:TypeId} (h:MapS w B l q) (k:qBf w T B):False:=by
 obtain ⟨n,D,⟨es,cl,h1,-⟩,-⟩:=h;obtain ⟨cur,h2⟩:=k;rw [h1] at h2
 cases h2
theorem info_evC:(Tryz.prog.info? 64).map (fun i=>(i.zero,i.size,i.bytes))=some (some (.agg #[.int .i64 0,.int .i64 0,.int .i64 0,.string ⟨#[]⟩,.int .u8 0,.string ⟨#[]⟩,.slice none 0 0]),7,88):=by kernel_rfl
theorem qFg.as {w:World} {L:Nat} {x:Ev} {A:Option Addr} {n c:Nat} (h:qFg w L (EH.of x A n c) x) (id:Int) (s:Spn):qFg w L (EH.of (x.as id s) A n c) (x.as id s):=⟨rfl,h.2.1,h.2.2.1,h.2.2.2⟩
theorem putB_keep {w:World} {g q:Nat} {T:TypeId} {cs:Array Value} (h:q≠g):(putB w g T cs).heap[q]?=w.heap[q]?:=by
 unfold putB;simp only;rw [Array.getElem?_setIfInBounds_ne (fun e=>h e.symm)]
theorem Blk.awayC {w w1:World} {g:Nat} {t:TypeId} {cs:Array Value} {row:Option Nat} (h:Blk w g t cs) (hg:w.grownBy w1 row) (hne:∀ q,row=some q→q≠g):Blk w1 g t cs:=(hg.block g h.lt (fun e=>hne g e.symm rfl)).trans h
def PL (s:qCv):Prop:=∀ f∈s.fats,f.parts.length≤s.evs.length∧f.short.length≤s.evs.length
theorem PL.step {s:qCv} (h:PL s) (c:Cut) (least:Int) (i:Nat) (x:Ev):PL (qDn c least i x s):=by
 unfold qDn
 cases partE c x with
 | none=>exact h
 | some p =>
  intro f hf;obtain ⟨j,hj⟩:=List.getElem?_of_mem hf;simp only [List.getElem?_modify] at hj
  cases hk:s.fats[j]? with
  | none=>rw [hk] at hj;simp at hj
  | some g =>
   have hg:=h g (List.mem_of_getElem? hk);rw [hk] at hj;simp only [List.length_append,List.length_singleton]
   by_cases hij:i=j
   · simp [hij] at hj
     subst hj;unfold Fat.note;simp only [List.length_append,List.length_singleton];refine ⟨by omega,?_⟩
     split
     · simp;omega
     · omega
   · simp [hij] at hj
     subst hj;omega
theorem PL.evs {c:Cut} {least:Int}:∀ {l:List Ev} {i:Nat} {s:qCv},PL s→PL (qCr c least i l s)
 | [],_,_,h=>h
 | x :: l,i,s,h=>PL.evs (l:=l) (i:=i+1) (h.step c least i x)
theorem PL.cuts {docs:List RDoc} {least:Int}:∀ {l:List Cut} {s:qCv},PL s→PL (qBo docs least l s)
 | [],_,h=>h
 | c :: l,s,h=>by
  show PL (qBo docs least l (qFi docs least s c))
  refine PL.cuts ?_;unfold qFi
  cases qHi docs c.reel with
  | none=>exact h
  | some k=>exact PL.evs h
theorem PL.start (e:Edl) (docs:List RDoc):PL ⟨[],qBx e docs⟩:=fun f hf=>by
 obtain ⟨d,-,hf⟩:=List.mem_flatMap.1 hf;obtain ⟨x,-,rfl⟩:=List.mem_map.1 hf;simp
theorem qLq:(Tryz.prog.info? 2).map (fun i=>(i.zero,i.size,i.bytes))=some (some (.int .i64 0),1,8):=by kernel_rfl
end
section
open Go.RowKit
theorem lang_all {docs:List RDoc} {s:ByteArray} (h0:docs=[]→s=⟨#[]⟩) (h:∀ d∈docs,d.doc.lang=s):qJs docs=s:=by
 cases docs with
 | nil=>exact (h0 rfl).symm
 | cons d r =>
  have hd:=h d (by simp);simp only [qJs];rw [if_pos]
  · exact hd
  · rw [List.all_eq_true]
    intro x hx;simp [h x (by simp [hx]),hd]
theorem lang_two {docs:List RDoc} {a b:RDoc} (ha:a∈docs) (hb:b∈docs) (hne:a.doc.lang≠b.doc.lang):qJs docs=⟨#[]⟩:=by
 cases docs with
 | nil=>simp at ha
 | cons d r =>
  simp only [qJs];rw [if_neg];intro h;rw [List.all_eq_true] at h
  have h2:∀ x∈d :: r,x.doc.lang=d.doc.lang:=fun x hx=>by
   rcases List.mem_cons.1 hx with rfl | hx
   · rfl
   · simpa using h x hx
  exact hne ((h2 a ha).trans (h2 b hb).symm)
def LgRel (w:World) (n:Nat) (l:List RDoc) (v i:Value) (wr:World):Prop :=
 ∃ (k:Nat) (s:ByteArray),k≤n∧i = .int .i64 k∧v = .string s∧Ext w wr∧(k=0→s=⟨#[]⟩)∧∀ d∈l.take k,d.doc.lang=s
set_option maxHeartbeats 4000000 in
theorem Lang_any (A:Option Addr) (n c:Nat) (l:List RDoc) (w:World) (hl:qCw w A n l) (hn:n≤1000000) :
 Calls Tryz.prog 54 #[.slice A n c] w fun e w'=>e = .returned (.string (qJs l))∧Ext w w':=by
 have HL:=gH hl;have HLn:=gH hl.len;clear hl;go_enter Tryz.func54,Tryz.ntmps54;go_wp2_with fail
 go_loopw [3,8] (fun v i wr=>LgRel w n l v i wr) (fun _ i _=>n-(intOf i).toNat)
 case atStart=>exact ⟨0,⟨#[]⟩,Nat.zero_le _,rfl,rfl,Ext.refl _,fun _=>rfl,by simp⟩
 case round =>
  obtain ⟨k,s,hk,rfl,rfl,hx,h0,ha⟩:=hrel;have HX:=gH hx;have H0:=gH h0;have HA:=gH ha;clear hx h0 ha
  by_cases hlt:k<n
  · obtain ⟨b,off,x,h,rfl,hxk,-,-,c0,c1,c2,c3,c4,c5,c6,c7,c8⟩:=(HL.out.ext HX.out).at9 hlt
    obtain ⟨ra,rn,rc,ea,en,ec,ca,cn,cc⟩:=h;have HK:=gH hxk;have HXd:=gH (HX.out.alloc (.cells (x.cells ⟨ra,rn,rc,ea,en,ec,ca,cn,cc⟩) 58));unfold RDoc.cells at HXd;dsimp only at HXd;clear hxk
    by_cases hk0:0<k
    · have g1:decide ((k:Int) > 0)=true:=decide_eq_true (by omega)
      have g1':decide ((0:Int)<(k:Int))=true:=decide_eq_true (by omega)
      by_cases hq:x.doc.lang=s
      · have g2:(x.doc.lang.toList == s.toList)=true:=by rw [hq];simp
        have HA1:Hid (∀ d∈l.take (k+1),d.doc.lang=s):=fun d hd=>by
         rw [take_snoc' _ _ _ HK.out] at hd
         rcases List.mem_append.1 hd with hd | hd
         · exact HA.out d hd
         · simp at hd;subst hd;exact hq
        have HQ:=gH hq;clear hq;go_wp2_with fail;exact ⟨⟨k+1,s,by omega,by go_num,by rw [HQ.out],HXd.out,fun h=>by omega,HA1.out⟩,by simp [intOf];omega⟩
      · have g2:(x.doc.lang.toList == s.toList)=false:=by rw [qHu];simpa using hq
        have HR:Hid (qJs l=⟨#[]⟩):=by
         show _=_
         obtain ⟨y,hy⟩:=qBq (l:=l) (p:=0) (by have:=HLn.out;omega);have hy1:y∈l.take k:=List.mem_of_getElem? (i:=0) (by rw [List.getElem?_take,if_pos hk0];exact hy);exact lang_two (List.mem_of_getElem? HK.out) (List.mem_of_getElem? hy) (by rw [HA.out y hy1];exact hq)
        clear hq;go_wp2_with fail;go_ret;exact ⟨by rw [HR.out];rfl,HXd.out⟩
    · have hk00:k=0:=by omega
      subst hk00;simp only [Nat.zero_mul,Nat.add_zero] at c0 c1 c2 c3 c4 c5 c6 c7 c8
      have HA1:Hid (∀ d∈l.take 1,d.doc.lang=x.doc.lang):=fun d hd=>by
       have h1:=take_snoc' l 0 _ HK.out;rw [h1] at hd;(simp at hd;subst hd;rfl)
      go_wp2_with fail;exact ⟨⟨1,x.doc.lang,by omega,by go_num,rfl,HXd.out,fun h=>by omega,HA1.out⟩,by simp [intOf];omega⟩
  · have hkn:k=n:=by omega
    subst hkn;have HR:Hid (qJs l=s):=lang_all (fun h=>H0.out (by have:=HLn.out;rw [h] at this;simpa using this.symm)) (fun d hd=>HA.out d (by rwa [List.take_of_length_le (by have:=HLn.out;omega)]));go_wp2_with fail;go_ret;exact ⟨by rw [HR.out];rfl,HX.out⟩
def LrRel (w:World) (n:Nat) (l:List RDoc) (s:ByteArray) (i:Value) (wr:World):Prop:=∃ k:Nat,k≤n∧i = .int .i64 k∧Ext w wr∧∀ d∈l.take k,d.doc.lang=s
set_option maxHeartbeats 4000000 in
theorem RLang_any (A:Option Addr) (n c:Nat) (l:List RDoc) (w:World) (hl:qCw w A n l) (hn:n≤1000000) :
 Calls Tryz.prog 76 #[.slice A n c] w fun e w'=>e = .returned (.string (qJs l))∧Ext w w':=by
 have HL:=gH hl;have HLn:=gH hl.len;clear hl
 by_cases hn0:n=0
 · subst hn0
   have HR:Hid (qJs l=⟨#[]⟩):=by
    show _=_
    rw [List.length_eq_zero_iff.1 HLn.out];rfl
   go_enter Tryz.func76,Tryz.ntmps76;go_wp2_with fail;go_ret;exact ⟨by rw [HR.out];rfl,Ext.refl _⟩
 (have g0:((n:Int) == 0)=false:=by simp;omega);obtain ⟨b0,off0,y,h',rfl,hy,-,-,-,-,p2,-⟩:=HL.out.at9 (i:=0) (by omega);simp only [Nat.zero_mul,Nat.add_zero] at p2;have HP:=gH p2;have HY:=gH hy;(have hn0':0<n:=by omega);clear hy p2 h' hn0;go_enter Tryz.func76,Tryz.ntmps76;go_wp2_with fail;clear g0
 go_loopw [10] (fun i wr=>LrRel w n l y.doc.lang i wr) (fun i _=>n-(intOf i).toNat)
 case atStart=>exact ⟨0,Nat.zero_le _,rfl,Ext.refl _,by simp⟩
 case round =>
  obtain ⟨k,hk,rfl,hx,ha⟩:=hrel;have HX:=gH hx;have HA:=gH ha;clear hx ha
  by_cases hlt:k<n
  · obtain ⟨b,off,x,h,hAe,hxk,-,-,c0,c1,c2,c3,c4,c5,c6,c7,c8⟩:=(HL.out.ext HX.out).at9 hlt
    cases hAe
    obtain ⟨ra,rn,rc,ea,en,ec,ca,cn,cc⟩:=h;have HK:=gH hxk;have HXd:=gH (HX.out.alloc (.cells (x.cells ⟨ra,rn,rc,ea,en,ec,ca,cn,cc⟩) 58));unfold RDoc.cells at HXd;dsimp only at HXd;have p2:=HXd.out.cell HP.out;clear hxk
    by_cases hq:x.doc.lang=y.doc.lang
    · have g2:(x.doc.lang.toList == y.doc.lang.toList)=true:=by rw [hq];simp
      have HA1:Hid (∀ d∈l.take (k+1),d.doc.lang=y.doc.lang):=fun d hd=>by
       rw [take_snoc' _ _ _ HK.out] at hd
       rcases List.mem_append.1 hd with hd | hd
       · exact HA.out d hd
       · simp at hd;subst hd;exact hq
      clear hq;go_wp2_with fail;go_quiet (fail);go_wp2_with fail;exact ⟨⟨k+1,by omega,by go_num,HXd.out.drewN _,HA1.out⟩,by simp [intOf];omega⟩
    · have g2:(x.doc.lang.toList == y.doc.lang.toList)=false:=by rw [qHu];simpa using hq
      have HR:Hid (qJs l=⟨#[]⟩):=lang_two (List.mem_of_getElem? HK.out) (List.mem_of_getElem? HY.out) hq;clear hq;go_wp2_with fail;go_quiet (fail);go_wp2_with fail;go_ret;exact ⟨by rw [HR.out];rfl,HXd.out.drewN _⟩
  · have hkn:k=n:=by omega
    subst hkn;have HR:Hid (qJs l=y.doc.lang):=lang_all (fun h=>by have:=HLn.out;rw [h] at this;simp at this;omega) (fun d hd=>HA.out d (by rwa [List.take_of_length_le (by have:=HLn.out;omega)]));have p2:=HX.out.cell HP.out;go_wp2_with fail;go_ret;exact ⟨by rw [HR.out];rfl,HX.out⟩
def ixD (l:List RDoc) (s:ByteArray):Int:=match qHi l s with | some k=>(k:Int) | none=>-1
theorem ixD_step {l:List RDoc} {k:Nat} {x:RDoc} {s:ByteArray} (hx:l[k]?=some x) (hp:∀ y∈l.take k,y.reel≠s):(x.reel=s→ixD l s=k)∧(x.reel≠s→∀ y∈l.take (k+1),y.reel≠s):=by
 obtain ⟨hk,hxk⟩:=List.getElem?_eq_some_iff.1 hx;refine ⟨fun h=>?_,fun h y hy=>?_⟩
 · have:qHi l s=some k:=List.findIdx?_eq_some_iff_getElem.2 ⟨hk,by simp [hxk,h],fun j hj=>by
    have:=hp l[j] (List.mem_take_iff_getElem.2 ⟨j,by omega,rfl⟩)
    simp [this]⟩
   unfold ixD;rw [this]
 · rw [take_snoc' _ _ _ hx] at hy
   rcases List.mem_append.1 hy with hy | hy
   · exact hp y hy
   · simp at hy;subst hy;exact h
theorem ixD_none {l:List RDoc} {s:ByteArray} (hp:∀ y∈l,y.reel≠s):ixD l s = -1:=by
 unfold ixD qHi;rw [List.findIdx?_eq_none_iff.2 (fun y hy=>by simpa using hp y hy)]
def PlRel (w:World) (n:Nat) (l:List RDoc) (s:ByteArray) (i:Value) (wr:World):Prop:=∃ k:Nat,k≤n∧i = .int .i64 k∧Ext w wr∧∀ y∈l.take k,y.reel≠s
set_option maxHeartbeats 4000000 in
theorem RPlace46_any (A:Option Addr) (n c:Nat) (l:List RDoc) (s:ByteArray) (w:World) (hl:qCw w A n l) (hn:n≤1000000) :
 Calls Tryz.prog 77 #[.slice A n c,.string s] w fun e w'=>e = .returned (.int .i64 (ixD l s))∧Ext w w':=by
 have HL:=gH hl;have HLn:=gH hl.len;clear hl;go_enter Tryz.func77,Tryz.ntmps77;go_wp2_with fail
 go_loopw [9] (fun i wr=>PlRel w n l s i wr) (fun i _=>n-(intOf i).toNat)
 case atStart=>exact ⟨0,Nat.zero_le _,rfl,Ext.refl _,by simp⟩
 case round =>
  obtain ⟨k,hk,rfl,hx,hp⟩:=hrel;have HX:=gH hx;have HP:=gH hp;clear hx hp
  by_cases hlt:k<n
  · obtain ⟨b,off,x,h,rfl,hxk,-,-,c0,c1,c2,c3,c4,c5,c6,c7,c8⟩:=(HL.out.ext HX.out).at9 hlt
    obtain ⟨ra,rn,rc,ea,en,ec,ca,cn,cc⟩:=h;have HS:=gH (ixD_step hxk HP.out);have HXd:=gH (HX.out.alloc (.cells (x.cells ⟨ra,rn,rc,ea,en,ec,ca,cn,cc⟩) 58));unfold RDoc.cells at HXd;dsimp only at HXd;clear hxk
    by_cases hq:x.reel=s
    · have g2:(x.reel.toList == s.toList)=true:=by rw [hq];simp
      have HT:=gH (HS.out.1 hq);clear hq;go_wp2_with fail;go_ret;exact ⟨qAa HT.out.symm,HXd.out⟩
    · have g2:(x.reel.toList == s.toList)=false:=by rw [qHu];simpa using hq
      have HT:=gH (HS.out.2 hq);clear hq;go_wp2_with fail;exact ⟨⟨k+1,by omega,by go_num,HXd.out,HT.out⟩,by simp [intOf];omega⟩
  · have hkn:k=n:=by omega
    subst hkn;have HT:Hid (ixD l s = -1):=ixD_none (fun y hy=>HP.out y (by rwa [List.take_of_length_le (by have:=HLn.out;omega)]));go_wp2_with fail;go_ret;exact ⟨qAa HT.out.symm,HX.out⟩
set_option maxHeartbeats 1000000 in
theorem Conform1_any (x:RDoc) (h:DocH) (g:Nat) (c:Cut) (w:World) (hB:Blk w g 91 c.cells) :
 Calls Tryz.prog 57 #[.agg (x.cells h),.pointer (some ⟨g,0,none⟩)] w fun e w'=>e = .returned (.bool (x.reel.toList == c.reel.toList))∧Ext w w':=by
 have HX:=gH ((Ext.refl w).alloc (.cells (x.cells h) 58));(have hg:∀ o,(w.alloc o).cell? ⟨g,1,none⟩=some (.string c.reel):=fun o=>(hB.alloc o).cell 1);have hlt:=hB.lt;clear hB;unfold RDoc.cells at *;go_enter Tryz.func57,Tryz.ntmps57;go_wp2_with fail;go_ret;exact ⟨rfl,HX.out⟩
set_option maxHeartbeats 4000000 in
theorem IndexDoc_any (A:Option Addr) (n cp:Nat) (l:List RDoc) (g:Nat) (c:Cut) (w:World) (hl:qCw w A n l) (hn:n≤1000000) (hB:Blk w g 91 c.cells) :
 Calls Tryz.prog 56 #[.slice A n cp,.func (.func 57) #[] #[.pointer (some ⟨g,0,none⟩)]] w fun e w'=>e = .returned (.int .i64 (ixD l c.reel))∧Ext w w':=by
 have HL:=gH hl;have HLn:=gH hl.len;have HBg:=gH hB;clear hl hB;go_enter Tryz.func56,Tryz.ntmps56;go_wp2_with fail
 go_loopw [8] (fun i wr=>PlRel w n l c.reel i wr) (fun i _=>n-(intOf i).toNat)
 case atStart=>exact ⟨0,Nat.zero_le _,rfl,Ext.refl _,by simp⟩
 case round =>
  obtain ⟨k,hk,rfl,hx,hp⟩:=hrel;have HX:=gH hx;have HP:=gH hp;clear hx hp
  by_cases hlt:k<n
  · obtain ⟨b,off,x,h,rfl,hxk,-,-,c0,c1,c2,c3,c4,c5,c6,c7,c8⟩:=(HL.out.ext HX.out).at9 hlt
    have HS:=gH (ixD_step hxk HP.out);have HCl:=gH (Conform1_any x h g c wr (HBg.out.ext HX.out));obtain ⟨ra,rn,rc,ea,en,ec,ca,cn,cc⟩:=h;unfold RDoc.cells at HCl;dsimp only at HCl;clear hxk
    by_cases hq:x.reel=c.reel
    · have g2:(x.reel.toList == c.reel.toList)=true:=by rw [hq];simp
      have HT:=gH (HS.out.1 hq);rw [g2] at HCl;clear hq g2;go_wp2_with fail;refine HCl.out.mono ?_;rintro en' w2 ⟨rfl,hx2⟩;go_wp2_with fail;go_ret;exact ⟨qAa HT.out.symm,HX.out.trans hx2⟩
    · have g2:(x.reel.toList == c.reel.toList)=false:=by rw [qHu];simpa using hq
      have HT:=gH (HS.out.2 hq);rw [g2] at HCl;clear hq g2;go_wp2_with fail;refine HCl.out.mono ?_;rintro en' w2 ⟨rfl,hx2⟩;go_wp2_with fail;exact ⟨⟨k+1,by omega,by go_num,HX.out.trans hx2,HT.out⟩,by simp [intOf];omega⟩
  · have hkn:k=n:=by omega
    subst hkn;have HT:Hid (ixD l c.reel = -1):=ixD_none (fun y hy=>HP.out y (by rwa [List.take_of_length_le (by have:=HLn.out;omega)]));go_wp2_with fail;go_ret;exact ⟨qAa HT.out.symm,HX.out⟩
end
section
open Go.RowKit
def InT (l:List Spn):Prop:=∀ s∈l,0≤s.inn∧s.out≤maxT
def IdxRel (w:World) (n:Nat) (i:Value) (wr:World):Prop:=∃ k:Nat,k≤n∧i = .int .i64 k∧Ext w wr
set_option maxHeartbeats 4000000 in
theorem qLm (A:Option Addr) (n c:Nat) (l:List Spn) (w:World) (hl:qBj w A n l) (hok:qGh l) (hb:InT l) (hn:n≤400) :
 Calls Tryz.prog 183 #[.slice A n c] w fun e w'=>e = .returned (.int .i64 0)∧Ext w w':=by
 have HL:=gH hl;have HOk:=gH hok;have HBd:=gH hb;(have hb:decide ((n:Int) > 400)=false:=by simp;omega);(have hb2:decide ((400:Int)<n)=false:=by simp;omega);clear hl hok;go_enter Tryz.func183,Tryz.ntmps183;go_wp2_with fail;clear hb hb2
 go_loopw [10] (fun i wr=>IdxRel w n i wr) (fun i _=>n-(intOf i).toNat)
 case atStart=>exact ⟨0,Nat.zero_le _,rfl,Ext.refl _⟩
 case round =>
  obtain ⟨k,hk,rfl,hx⟩:=hrel;have HX:=gH hx;clear hx
  by_cases hlt:k<n
  case neg =>
   (have hkn:k=n:=by omega);subst hkn;go_wp2_with fail;go_ret;exact ⟨rfl,HX.out⟩
  obtain ⟨b,off,x,rfl,hxk,hC⟩:=(HL.out.ext HX.out).at_ hlt;have c0:=hC 0 _ rfl;have c1:=hC 1 _ rfl;simp only [Nat.add_zero] at c0;have hf:=HOk.out.1 x (List.mem_of_getElem? hxk);have hr:=HBd.out x (List.mem_of_getElem? hxk);unfold maxT at hr
  have HPr:Hid (∀ j y,k=j+1→l[j]?=some y→¬ x.inn≤y.out):=fun j y hj hy=>by
   subst hj;have h1:=List.pairwise_iff_getElem.1 HOk.out.2 j (j+1) (List.getElem?_eq_some_iff.1 hy).1 (List.getElem?_eq_some_iff.1 hxk).1 (by omega);rw [(List.getElem?_eq_some_iff.1 hy).2,(List.getElem?_eq_some_iff.1 hxk).2] at h1;omega
  (have g1:decide (x.inn≥x.out)=false:=by simp;omega);(have g1':decide (x.out≤x.inn)=false:=by simp;omega);(have g2:decide (x.inn<0)=false:=by simp;omega);(have g3:decide (x.out > 10378368000)=false:=by simp;omega);(have g3':decide (10378368000<x.out)=false:=by simp;omega);have HXx:=gH ((Ext.refl wr).alloc (.cells #[.int .i64 x.inn,.int .i64 x.out] 60));clear hC hxk hf hr
  by_cases hk0:0<k
  · obtain ⟨b',off',y,hA,hyk,hD⟩:=(HL.out.ext (HX.out.trans HXx.out)).at_ (i:=k-1) (by omega)
    cases hA
    have d1:=hD 1 _ rfl;have hny:=HPr.out (k-1) y (by omega) hyk;(have g7:decide (x.inn≤y.out)=false:=by simpa using hny);(have g8:decide ((k:Int) > 0)=true:=by simp;omega);(have g8':decide ((0:Int)<k)=true:=by simp;omega);obtain ⟨j,rfl⟩:∃ j,k=j+1:=⟨k-1,by omega⟩;simp only [Nat.add_sub_cancel] at d1;clear hD hyk hny;go_wp2_with fail;go_quiet (fail);go_wp2_with fail;exact ⟨⟨j+1+1,by omega,by go_num,(HX.out.trans HXx.out).drewN _⟩,by simp [intOf];omega⟩
  · have hk00:k=0:=by omega
    subst hk00;simp only [Nat.zero_mul,Nat.add_zero] at c0 c1;go_wp2_with fail;go_quiet (fail);go_wp2_with fail;exact ⟨⟨0+1,by omega,by go_num,(HX.out.trans HXx.out).drewN _⟩,by simp [intOf];omega⟩
theorem qLa {w w':World} {o:Obj} {row:Option Nat} {g:Nat} {T:TypeId} {cs:Array Value} (h:Blk w g T cs) (hg:(w.alloc o).grownBy w' row) (hne:row≠some g):Blk w' g T cs :=
 (hg.block g (by have:=h.lt;simp;omega) (fun e=>hne e.symm)).trans (h.alloc o)
def gapS (a:Int) (s:Spn):List Spn:=if a<s.inn then [⟨a,s.inn⟩] else []
def qIc:Int→List Spn→List Spn
 | _,[]=>[]
 | a,s :: l=>gapS a s++qIc s.out l
def endT:Int→List Spn→Int
 | a,[]=>a
 | _,s :: l=>endT s.out l
theorem restF_T:∀ (a:Int) (l:List Spn),qDl a l=qIc a l++[⟨endT a l,maxT+1⟩]
 | a,[]=>rfl
 | a,s :: l=>by unfold qDl qIc endT gapS;rw [restF_T,List.append_assoc]
theorem restT_snoc:∀ (a:Int) (l:List Spn) (x:Spn),qIc a (l++[x])=qIc a l++gapS (endT a l) x∧endT a (l++[x])=x.out
 | a,[],x=>by simp [qIc,endT]
 | a,s :: l,x=>by
  obtain ⟨h1,h2⟩:=restT_snoc s.out l x;simp only [List.cons_append,qIc,endT];exact ⟨by rw [h1,List.append_assoc],h2⟩
theorem qOc:∀ (a:Int) (l:List Spn),(qIc a l).length≤l.length
 | a,[]=>by simp [qIc]
 | a,s :: l=>by
  have:=qOc s.out l;unfold qIc gapS
  split<;>simp<;>omega
def RsRel (w:World) (n:Nat) (l:List Spn) (v v4 i:Value) (wr:World):Prop :=
 ∃ k:Nat,k≤n∧i = .int .i64 k∧v4 = .int .i64 (endT 0 (l.take k))∧Ext w wr∧wr.ownsRow w.heap.size 60 2 v (qIc 0 (l.take k)).length ((qIc 0 (l.take k)).flatMap Spn.vals)
set_option maxHeartbeats 4000000 in
theorem Rest_any (A:Option Addr) (n c:Nat) (l:List Spn) (w:World) (hl:qBj w A n l) (hn:n≤1000000) :
 Calls Tryz.prog 182 #[.slice A n c] w (qDq (qDl 0 l) w):=by
 have HL:=gH hl;have HLn:=gH hl.len;clear hl;unfold qDq;go_enter Tryz.func182,Tryz.ntmps182;go_wp2_with fail
 go_loopw [3,4,9] (fun v v4 i wr=>RsRel w n l v v4 i wr) (fun _ _ i _=>n-(intOf i).toNat)
 case atStart=>exact ⟨0,Nat.zero_le _,rfl,rfl,Ext.refl _,⟨rfl,.inl ⟨rfl,rfl⟩⟩⟩
 case round =>
  obtain ⟨k,hk,rfl,rfl,hx,hown⟩:=hrel;have HX:=gH hx;have HO:=gH hown;(have hrl:(qIc 0 (l.take k)).length≤k:=by have:=qOc 0 (l.take k);rw [List.length_take] at this;omega);have hzr:=hx.size;clear hx hown
  by_cases hlt:k<n
  · obtain ⟨b,off,x,rfl,hxk,hC⟩:=(HL.out.ext HX.out).at_ hlt
    have c0:=hC 0 _ rfl;have c1:=hC 1 _ rfl;simp only [Nat.add_zero] at c0;(have HS:Hid (qIc 0 (l.take (k+1))=qIc 0 (l.take k)++gapS (endT 0 (l.take k)) x∧endT 0 (l.take (k+1))=x.out):=by rw [take_snoc' _ _ _ hxk];exact restT_snoc _ _ _);clear hC hxk;generalize qIc 0 (l.take k)=os at *;generalize endT 0 (l.take k)=at' at *;have HX1:=gH ((Ext.refl wr).alloc (.cells #[.int .i64 x.inn,.int .i64 x.out] 60))
    by_cases hio:at' < x.inn
    · have d1:decide (at' < x.inn)=true:=by simpa using hio
      have HS1:=gH HS.out.1;unfold gapS at HS1;rw [if_pos hio] at HS1;clear hio;go_upto_region 7 with fail;have HO2:=gH (qAh HO.out HX1.out);have hz2:=HX1.out.size;have HBx:=gH (Blk.new wr 60 #[.int .i64 x.inn,.int .i64 x.out]);obtain ⟨W2,hW2⟩:∃ W2,W2=wr.alloc (.cells #[.int .i64 x.inn,.int .i64 x.out] 60):=⟨_,rfl⟩;rw [← hW2] at HX1 HO2 hz2 HBx ⊢;clear hW2;have b0:=HBx.out.cell 0;simp only [gA,gB,gC] at b0;go_wp2_with (at_builtin;refine qAf rfl (.tmp 17) (.tmp 22) 35 rfl qBe Tryz.underlying35 rfl (by decide) (HO2.out.alloc _) (by exact rfl) W2.heap.size _ (by exact rfl) (by exact Blk.new' rfl) (by exact rfl) (by simp [Value.oneCell']) (by omega) (by simp [maxLen]<;>omega) (by first | omega | (simp;omega) | simp) ?_;intro v5 w5 hown5 hgr;have HO5:=gH hown5;have HX5:=gH (Ext.grown ((HX.out.trans HX1.out).alloc _) hgr (fun q hq=>qAp HO.out q hq));have b51:=(qLa HBx.out hgr (fun e=>by have:=(qAj HO.out _ e).lt;omega)).cell 1;simp only [gA,gB,gC] at b51;clear hown5 hgr);exact ⟨⟨k+1,by omega,by go_num,by rw [HS.out.2],HX5.out,by rw [HS1.out,List.length_append,List.flatMap_append];exact HO5.out⟩,by simp [intOf];omega⟩
    · have d1:decide (at' < x.inn)=false:=by simpa using hio
      have HS1:=gH HS.out.1;unfold gapS at HS1;rw [if_neg hio,List.append_nil] at HS1;clear hio;go_wp2_with fail;exact ⟨⟨k+1,by omega,by go_num,by rw [HS.out.2],HX.out.trans HX1.out,by rw [HS1.out];exact qAh HO.out HX1.out⟩,by simp [intOf];omega⟩
  · have hkn:k=n:=by omega
    subst hkn;(have HT:Hid (qDl 0 l=qIc 0 (l.take k)++[⟨endT 0 (l.take k),maxT+1⟩]):=by show _=_;rw [List.take_of_length_le (by have:=HLn.out;omega)];exact restF_T _ _);generalize qIc 0 (l.take k)=os at *;generalize endT 0 (l.take k)=at' at *;go_wp2_with (at_builtin;refine qAf rfl (.tmp 27) (.tmp 30) 35 rfl qBe Tryz.underlying35 rfl (by decide) (HO.out.alloc _) (by exact rfl) wr.heap.size _ (by exact rfl) (by exact Blk.new' rfl) (by exact rfl) (by simp [Value.oneCell']) (by omega) (by simp [maxLen]<;>omega) (by first | omega | (simp;omega) | simp) ?_;intro v5 w5 hown5 hgr;have HO5:=gH hown5;have HX5:=gH (Ext.grown (HX.out.alloc _) hgr (fun q hq=>qAp HO.out q hq));clear hown5 hgr);go_ret;(have hO:w5.ownsRow w.heap.size 60 2 v5 (qDl 0 l).length ((qDl 0 l).flatMap Spn.vals):=by rw [HT.out,List.length_append,List.flatMap_append];exact HO5.out);obtain ⟨A',c',rfl,hc,_,hS,hfr⟩:=qBg (f:=Spn.vals) (size:=2) (fun _=>rfl) rfl hO;exact ⟨A',c',rfl,hS,hc,HX5.out,hfr⟩
end
section
open Go.RowKit
def cmS (x y:Spn):List Spn:=if max x.inn y.inn<min x.out y.out then [⟨max x.inn y.inn,min x.out y.out⟩] else []
theorem cmS_yes {x y:Spn} (h:max x.inn y.inn<min x.out y.out):cmS x y=[⟨max x.inn y.inn,min x.out y.out⟩]:=if_pos h
theorem cmS_no {x y:Spn} (h:¬ max x.inn y.inn<min x.out y.out):cmS x y=[]:=if_neg h
theorem qKv (a b:List Spn):qDw a b=a.flatMap fun x=>b.flatMap (cmS x):=rfl
theorem commS_snoc (a b:List Spn) (x:Spn):qDw (a++[x]) b=qDw a b++b.flatMap (cmS x):=by rw [qKv,qKv,List.flatMap_append];simp
theorem cm_snoc (b:List Spn) (x y:Spn):(b++[y]).flatMap (cmS x)=b.flatMap (cmS x)++cmS x y:=by rw [List.flatMap_append];simp
theorem cm_len (b:List Spn) (x:Spn):(b.flatMap (cmS x)).length≤b.length:=by
 induction b with
 | nil=>simp
 | cons y b ih =>
  (rw [List.flatMap_cons,List.length_append];have:(cmS x y).length≤1:=by unfold cmS;split<;>simp);(simp only [List.length_cons];omega)
theorem comm_len (a b:List Spn):(qDw a b).length≤a.length*b.length:=by
 induction a with
 | nil=>simp [qKv]
 | cons x a ih =>
  rw [qKv,List.flatMap_cons,List.length_append,← qKv];have:=cm_len b x;(simp only [List.length_cons,Nat.add_mul,Nat.one_mul];omega)
def Cm1Rel (w:World) (n:Nat) (a b:List Spn) (v i:Value) (wr:World):Prop :=
 ∃ k:Nat,k≤n∧i = .int .i64 k∧Ext w wr∧wr.ownsRow w.heap.size 60 2 v (qDw (a.take k) b).length ((qDw (a.take k) b).flatMap Spn.vals)
def Cm2Rel (w:World) (g m:Nat) (P b:List Spn) (x:Spn) (v i:Value) (wr:World):Prop :=
 ∃ j:Nat,j≤m∧i = .int .i64 j∧Ext w wr∧Blk wr g 60 #[.int .i64 x.inn,.int .i64 x.out]∧v.ownBlock≠some g∧wr.ownsRow w.heap.size 60 2 v (P++(b.take j).flatMap (cmS x)).length ((P++(b.take j).flatMap (cmS x)).flatMap Spn.vals)
set_option maxHeartbeats 8000000 in
theorem Common_any (A:Option Addr) (n c:Nat) (a:List Spn) (B:Option Addr) (m d:Nat) (b:List Spn) (w:World) (ha:qBj w A n a) (hb:qBj w B m b) (hn1:n≤1000000) (hn:n*m+m≤1000000) :
 Calls Tryz.prog 181 #[.slice A n c,.slice B m d] w (qDq (qDw a b) w):=by
 have HA:=gH ha;have HB:=gH hb;have HAn:=gH ha.len;have HBn:=gH hb.len;clear ha hb;unfold qDq;go_enter Tryz.func181,Tryz.ntmps181;go_wp2_with fail
 go_loopw [5,13] (fun v i wr=>Cm1Rel w n a b v i wr) (fun _ i _=>n-(intOf i).toNat)
 case atStart=>exact ⟨0,Nat.zero_le _,rfl,Ext.refl _,⟨rfl,.inl ⟨rfl,rfl⟩⟩⟩
 case round =>
  obtain ⟨k,hk,rfl,hx,hown⟩:=hrel;have HX:=gH hx;have HO:=gH hown;have hzr:=hx.size;clear hx hown
  by_cases hlt:k<n
  · obtain ⟨bb,off,x,rfl,hxk,hC⟩:=(HA.out.ext HX.out).at_ hlt
    have c0:=hC 0 _ rfl;have c1:=hC 1 _ rfl;simp only [Nat.add_zero] at c0;(have HS:Hid (qDw (a.take (k+1)) b=qDw (a.take k) b++b.flatMap (cmS x)):=by rw [take_snoc' _ _ _ hxk];exact commS_snoc _ _ _)
    have hPl:(qDw (a.take k) b).length≤n*m:=by
     have h1:=comm_len (a.take k) b;rw [HBn.out,List.length_take] at h1;exact Nat.le_trans h1 (Nat.mul_le_mul_right _ (by omega))
    clear hC hxk;generalize qDw (a.take k) b=P at *;have HBx:=gH (Blk.new wr 60 #[.int .i64 x.inn,.int .i64 x.out]);have HX1:=gH (HX.out.alloc (.cells #[.int .i64 x.inn,.int .i64 x.out] 60));have HO1:=gH (HO.out.alloc (.cells #[.int .i64 x.inn,.int .i64 x.out] 60));(have HNe:Hid (u5.ownBlock≠some wr.heap.size):=fun e=>by have:=(qAj HO.out _ e).lt;omega);go_upto_region 5 with fail;obtain ⟨gx,hgx⟩:∃ gx,gx=wr.heap.size:=⟨_,rfl⟩;rw [← hgx] at HBx HNe ⊢;obtain ⟨w1,hw1⟩:∃ w1,w1=wr.alloc (.cells #[.int .i64 x.inn,.int .i64 x.out] 60):=⟨_,rfl⟩;rw [← hw1] at HBx HX1 HO1 ⊢;clear hw1 hgx c0 c1 HO;go_wp2_with fail
    go_loopw [5,19] (fun v i wq=>Cm2Rel w gx m P b x v i wq) (fun _ i _=>m-(intOf i).toNat)
    case atStart=>exact ⟨0,Nat.zero_le _,rfl,HX1.out,HBx.out,HNe.out,by simpa using HO1.out⟩
    case round =>
     obtain ⟨j,hj,rfl,hxq,hbq,hne,hown⟩:=hrel;have HXq:=gH hxq;have HOq:=gH hown;have HBq:=gH hbq;have HNq:=gH hne;have hzq:=hxq.size;(have hql:(P++(b.take j).flatMap (cmS x)).length≤n*m+j:=by have:=cm_len (b.take j) x;rw [List.length_take] at this;rw [List.length_append];omega);clear hxq hown hbq hne
     by_cases hjt:j<m
     · obtain ⟨b2,off2,y,rfl,hyk,hD⟩:=(HB.out.ext HXq.out).at_ hjt
       have d0:=hD 0 _ rfl;have d1:=hD 1 _ rfl;simp only [Nat.add_zero] at d0;(have HT:Hid (P++(b.take (j+1)).flatMap (cmS x)=(P++(b.take j).flatMap (cmS x))++cmS x y):=by show _=_;rw [take_snoc' _ _ _ hyk,cm_snoc,List.append_assoc]);clear hD hyk;generalize P++(b.take j).flatMap (cmS x)=os at *;have x0:=HBq.out.cell 0;have x1:=HBq.out.cell 1;simp only [gA,gB,gC] at x0 x1;have HY:=gH ((Ext.refl wr).alloc (.cells #[.int .i64 y.inn,.int .i64 y.out] 60));have hgl:=HBq.out.lt;go_upto_region 9 with fail;have HX3:=gH (HY.out.alloc (.cells #[.int .i64 (max x.inn y.inn),.int .i64 (min x.out y.out)] 60));have HS3:=gH (Blk.new (wr.alloc (.cells #[.int .i64 y.inn,.int .i64 y.out] 60)) 60 #[.int .i64 (max x.inn y.inn),.int .i64 (min x.out y.out)]);obtain ⟨g3,hg3⟩:∃ g3,g3=(wr.alloc (.cells #[.int .i64 y.inn,.int .i64 y.out] 60)).heap.size:=⟨_,rfl⟩;obtain ⟨w3,hw3⟩:∃ w3,w3=(wr.alloc (.cells #[.int .i64 y.inn,.int .i64 y.out] 60)).alloc (.cells #[.int .i64 (max x.inn y.inn),.int .i64 (min x.out y.out)] 60):=⟨_,rfl⟩;rw [← hg3] at HS3;simp only [World.size_alloc] at hg3;rw [← hw3] at HS3 HX3 ⊢
       try rw [← hg3]
       clear hw3 hg3 x0 x1 d0 d1;have HO3:=gH (qAh HOq.out HX3.out);have HB3:=gH (HBq.out.ext HX3.out);have hgl3:=HB3.out.lt;have hz3:=HX3.out.size;have s0:=HS3.out.cell 0;have s1:=HS3.out.cell 1;simp only [gA,gB,gC] at s0 s1
       by_cases hio:max x.inn y.inn<min x.out y.out
       · have e1:decide (max x.inn y.inn<min x.out y.out)=true:=by simpa using hio
         rw [cmS_yes hio] at HT;clear hio;generalize max x.inn y.inn=lo at *;generalize min x.out y.out=hi at *;go_wp2_with (at_builtin;refine qBn rfl (.tmp 39) (.tmp 41) 35 rfl qBe Tryz.underlying35 rfl (by decide) (HO3.out.alloc _) (by exact rfl) w3.heap.size _ (by exact rfl) (by exact Blk.new' rfl) (by exact rfl) (by simp [Value.oneCell']) (by omega) (by simp [maxLen]<;>omega) (by first | omega | (simp;omega) | simp) ?_;intro v5 w5 hown5 hgr hloc;have HO5:=gH hown5;have HX5:=gH (Ext.grown ((HXq.out.trans HX3.out).alloc _) hgr (fun q hq=>qAp HO3.out q hq));have HB5:=gH (qLa HB3.out hgr HNq.out);have HN5:Hid (v5.ownBlock≠some gx):=(fun e=>by rcases hloc with h | h;exact HNq.out (h ▸ e);rw [h] at e;injection e with e;simp at e;omega);clear hown5 hgr hloc);exact ⟨⟨j+1,by omega,by go_num,HX5.out,HB5.out,HN5.out,by rw [HT.out,List.length_append,List.flatMap_append];exact HO5.out⟩,by simp [intOf];omega⟩
       · have e1:decide (max x.inn y.inn<min x.out y.out)=false:=by simpa using hio
         rw [cmS_no hio,List.append_nil] at HT;clear hio;generalize max x.inn y.inn=lo at *;generalize min x.out y.out=hi at *;go_wp2_with fail;exact ⟨⟨j+1,by omega,by go_num,HXq.out.trans HX3.out,HB3.out,HNq.out,by rw [HT.out];exact HO3.out⟩,by simp [intOf];omega⟩
     · have hjm:j=m:=by omega
       subst hjm;(have HT:Hid (P++(b.take j).flatMap (cmS x)=qDw (a.take (k+1)) b):=by show _=_;rw [List.take_of_length_le (by have:=HBn.out;omega)];exact HS.out.symm);rw [HT.out] at HOq;go_wp2_with fail;exact ⟨⟨k+1,by omega,by go_num,HXq.out,HOq.out⟩,by simp [intOf];omega⟩
  · have hkn:k=n:=by omega
    subst hkn;(have HT:Hid (qDw (a.take k) b=qDw a b):=by show _=_;rw [List.take_of_length_le (by have:=HAn.out;omega)]);rw [HT.out] at HO;obtain ⟨A',c',rfl,hc,_,hS,hfr⟩:=qBg (f:=Spn.vals) (size:=2) (fun _=>rfl) rfl HO.out;have HR:=gH (And.intro hc (And.intro hS (And.intro hfr HX.out)));clear hc hS hfr HO;go_wp2_with fail;go_ret;exact ⟨A',c',rfl,HR.out.2.1,HR.out.1,HR.out.2.2.2,HR.out.2.2.1⟩
end
end Go.Proofs.YtablhmobekmflaaGreatDoor