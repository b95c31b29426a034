/- Texts laid together. -/
import Derived.RangeFuncNested
import Derived.RangeFuncBound
import Derived.RangeFuncCalls
import Derived.RangeFuncLeaves
import Derived.Shelf.Abstract
import Derived.Shelf.RegionOpen
import Derived.WalkKit
import Derived.OwnWalkIn
import Derived.TacticsInMore
import Derived.LoopNIn
import Derived.LoopIn
import Derived.Maps.AppendAt
import Derived.Test.YtablhmobekmflaaGreatDoorCm01
import Derived.Test.YtablhmobekmflaaGreatDoorCm12
import Derived.Shelf.SlSortCmp.WholeK
import Derived.Shelf.SlSortCmp.NoneTotal
import Derived.Test.YtablhmobekmflaaGreatDoorCm04
import Derived.Laws.OwnMore
set_option linter.unusedVariables false
set_option linter.unusedSimpArgs false
set_option maxRecDepth 100000
namespace Go.Proofs.YtablhmobekmflaaGreatDoor
section
open Go.RowKit Go.Shelf
attribute [local go_sem] Oper.semAt_some
def Spn.vals (s:Spn):List Value:=[.int .i64 s.inn,.int .i64 s.out]
def Spn.enc (s:Spn):Value:=.agg #[.int .i64 s.inn,.int .i64 s.out]
def qBj (w:World) (A:Option Addr) (n:Nat) (l:List Spn):Prop:=Sl w 2 (Cells Spn.vals) A n l
theorem qBj.ext {w w1:World} {A:Option Addr} {n:Nat} {l:List Spn} (h:qBj w A n l) (k:Ext w w1):qBj w1 A n l:=Sl.ext (Cells.stays _) h k
theorem qBe:(Tryz.prog.info? 60).map (fun i=>(i.zero,i.size,i.bytes))=some (some (.agg #[.int .i64 0,.int .i64 0]),2,16):=by kernel_rfl
theorem qHl (x:Spn):∀ v∈x.vals,v.oneCell'=true:=by
 intro v hv;simp only [Spn.vals,List.mem_cons,List.not_mem_nil,or_false] at hv
 rcases hv with rfl | rfl<;>rfl
theorem qBj.below {n₀:Nat} {w w1:World} {b off n:Nat} {l:List Spn} (h:qBj w (some ⟨b,off,none⟩) n l) (hb:b<n₀) (k:Below n₀ w w1):qBj w1 (some ⟨b,off,none⟩) n l :=
 ⟨h.1,fun hn=>by
  obtain ⟨b',off',e,hc⟩:=h.2 hn
  cases e
  exact ⟨b,off,rfl,fun i x hx j u hu=>(k.cell (p:=⟨b,off+i*2+j,none⟩) hb).trans (hc i x hx j u hu)⟩⟩
set_option maxHeartbeats 2000000 in
theorem SpValues1_in (F:Fence) (n:Nat) (h7:F.fn 215) (hro:F.round=none) (hn:1≤n) (l Bs n₀ b off cap:Nat) (zs:List Spn) (hz:zs.length≤1000000) (hb:b<n₀) (J Jx:List Spn→World→Prop)
 (W:World) (hJ:AbidesFrom W.heap.size J)
 (hY:∀ pre x W,J pre W→pre.length<zs.length→YieldAt F (n-1) Tryz.prog l #[Spn.enc x] W fun e W' =>
  (e = .returned (.bool true)∧J (pre++[x]) W'∧Below n₀ W W')∨(e = .returned (.bool false)∧Jx (pre++[x]) W'))
 (hBs:W.cell? ⟨Bs,0,none⟩=some (.slice (some ⟨b,off,none⟩) zs.length cap)) (hc:qBj W (some ⟨b,off,none⟩) zs.length zs) (hnW:n₀≤W.heap.size) (h0:J [] W) :
 CallsIn F n Tryz.prog 215 #[.func (.yield l) #[] #[],.pointer (some ⟨Bs,0,none⟩)] W fun e W'=>(∃ v,e = .returned v) ∧
  ((∃ ys,ys=zs∧J ys W')∨(∃ pre,pre <+: zs∧Jx pre W')):=by
 refine callsIn_of_wp Tryz.func215 rfl h7 ?_ hro;simp only [Tryz.ntmps215,List.size_toArray,List.length_cons,List.length_nil,Nat.reduceAdd,Nat.reduceSub,Array.replicate_succ,Array.replicate_zero,List.push_toArray,List.append_toArray,List.nil_append,List.cons_append]
 gi_wp2
 gi_loopw [7] (fun i wr=>∃ k:Nat,k≤zs.length∧i = .int .i64 k∧J (zs.take k) wr∧Below n₀ W wr) (fun i _=>zs.length-(intOf i).toNat)
 case atStart=>exact ⟨0,Nat.zero_le _,rfl,h0,Below.refl _ _⟩
 case round =>
  obtain ⟨k,hk,rfl,hJs,hnx⟩:=hrel
  by_cases hlt:k<zs.length
  · obtain ⟨b',off',x,e,hx,hC⟩:=(hc.below hb hnx).at_ hlt
    cases e
    have c0:=hC 0 _ rfl;have c1:=hC 1 _ rfl;simp only [Nat.add_zero] at c0;obtain ⟨fn,tmps,assign,body,hy,hR⟩:=hY (zs.take k) x (wr.alloc (.cells #[.int .i64 x.inn,.int .i64 x.out] 60)) (hJ _ wr _ none hJs (World.grownBy_alloc _ _ none) (fun r e=>by cases e)) (by rw [List.length_take];omega);unfold Spn.enc at hy
    gi_wp2
    refine hR.mono ?_;rintro e W3 (⟨rfl,hJ3,hk3⟩ | ⟨rfl,hJx3⟩)
    · gi_wp2
      go_roundw
      case rel=>exact ⟨k+1,by omega,by go_num,by rw [take_snoc' _ _ _ hx];exact hJ3,(hnx.alloc (by have:=hnx.size;omega) _).trans hk3⟩
      case measure=>simp [intOf];omega
    · gi_wp2
      refine bodyPost_ret (results_none rfl _ _ _) rfl ?_;exact ⟨⟨_,rfl⟩,.inr ⟨_,by rw [← take_snoc' _ _ _ hx];exact List.take_prefix _ _,hJx3⟩⟩
  · obtain rfl:k=zs.length:=by omega
    gi_wp2
    go_end0;exact ⟨⟨_,rfl⟩,.inl ⟨_,rfl,by rw [List.take_length] at hJs;exact hJs⟩⟩
set_option maxHeartbeats 1000000 in
theorem qMp (F:Fence) (n:Nat) (h7:F.fn 215) (hro:F.round=none) (l Bs:Nat) (A:Option Addr) (cap:Nat) (J:List Spn→World→Prop) (W:World) (hBs:W.cell? ⟨Bs,0,none⟩=some (.slice A 0 cap)) (h0:J [] W) :
 CallsIn F n Tryz.prog 215 #[.func (.yield l) #[] #[],.pointer (some ⟨Bs,0,none⟩)] W fun e W'=>(∃ v,e = .returned v)∧J [] W':=by
 refine callsIn_of_wp Tryz.func215 rfl h7 ?_ hro;simp only [Tryz.ntmps215,List.size_toArray,List.length_cons,List.length_nil,Nat.reduceAdd,Nat.reduceSub,Array.replicate_succ,Array.replicate_zero,List.push_toArray,List.append_toArray,List.nil_append,List.cons_append]
 gi_wp2
 gi_loopw [7] (fun i wr=>i = .int .i64 0∧J [] wr) (fun _ _=>0)
 case atStart=>exact ⟨rfl,h0⟩
 case round =>
  obtain ⟨rfl,hJs⟩:=hrel
  gi_wp2
  go_end0;exact ⟨⟨_,rfl⟩,hJs⟩
set_option maxHeartbeats 1000000 in
theorem SpValues_in (F:Fence) (n:Nat) (h5:F.fn 161) (hro:F.round=none) (a:Option Addr) (len cap:Nat) (w:World) :
 CallsIn F n Tryz.prog 161 #[.slice a len cap] w fun e w'=>e = .returned (.func (.func 215) #[] #[.pointer (some ⟨w.heap.size,0,none⟩)])∧w'=w.alloc (.cells #[.slice a len cap] 35):=by
 refine callsIn_of_wp Tryz.func161 rfl h5 ?_ hro;simp only [Tryz.ntmps161,List.size_toArray,List.length_cons,List.length_nil,Nat.reduceAdd,Nat.reduceSub,Array.replicate_succ,Array.replicate_zero,List.push_toArray,List.append_toArray,List.nil_append,List.cons_append]
 gi_wp2
 go_ret;exact ⟨rfl,rfl⟩
theorem SpValues_stops (F:Fence) (n:Nat) (h7:F.fn 215) (hro:F.round=none) (hn:1≤n) (Bs n₀:Nat) (A:Option Addr) (m cap:Nat) (zs:List Spn) (hz:m≤1000000) (w:World) (hBs:Bs<w.heap.size) (hn₀:n₀≤w.heap.size)
 (hc:w.cell? ⟨Bs,0,none⟩=some (.slice A m cap)) (hI:qBj w A m zs) (hA:∀ ad,A=some ad→m≠0→ad.block<n₀) :
 SeqStopsK F n Tryz.prog 215 #[.pointer (some ⟨Bs,0,none⟩)] (fun x:Spn=>#[Spn.enc x]) (Below n₀) (fun ys=>ys=zs) (fun pre=>pre <+: zs) zs.length w:=fun l J Jx W hW hJ _ hY h0=>by
 have hc':=(hW.cell (p:=⟨Bs,0,none⟩) hBs).trans hc;have hl:=hI.len
 by_cases hm:m=0
 · subst hm
   obtain rfl:zs=[]:=List.eq_nil_of_length_eq_zero hl;(exact (qMp F n h7 hro l Bs A cap J W hc' h0).mono fun e W' ⟨he,hj⟩=>⟨he,.inl ⟨_,rfl,hj⟩⟩)
 · obtain ⟨b,off,rfl,hcs⟩:=hI.2 (by omega)
   have hb:=hA _ rfl hm;subst hl;exact SpValues1_in F n h7 hro hn l Bs n₀ b off cap zs hz hb J Jx W hJ hY hc' (hI.below (n₀:=n₀) hb (hW.mono hn₀)) (by have:=hW.size;omega) h0
end
section
open Go.RowKit Go.Shelf
attribute [local go_sem] Oper.semAt_some
theorem blk_turned {W W':World} {B:Nat} {T:TypeId} {cs:Array Value} {row:Option Nat} (h:W.heap[B]?=some (.cells cs T (0,0))) (hg:W.grownBy W' row) (hr:∀ r,row=some r→∃ o:Obj,W.heap[r]?=some o∧o.isCells=false):W'.heap[B]?=some (.cells cs T (0,0)) :=
 (hg.block B (Array.getElem?_eq_some_iff.1 h).1 (fun e=>by obtain ⟨o,ho,hc⟩:=hr B e.symm;rw [h] at ho;cases ho;cases hc)).trans h
def SpAx (h0 g:Nat) (lb:Array Value) (x:Spn) (a':Act) (W:World):Prop :=
 ∃ Bx,h0<Bx∧Blk W Bx 60 #[.int .i64 x.inn,.int .i64 x.out] ∧
  a'={ tmps:=#[.slice none 0 0,.func (.func g) #[] lb,.pointer (some ⟨h0,0,none⟩),undef,.slice none 0 0,.pointer (some ⟨Bx,0,none⟩),.func (.func g) #[] lb,Spn.enc x,undef,undef,undef,undef,undef],defers:=[] }
theorem flat_snocS (pre:List Spn) (x:Spn):(pre++[x]).flatMap Spn.vals=pre.flatMap Spn.vals++[.int .i64 x.inn,.int .i64 x.out]:=by
 rw [List.flatMap_append];rfl
set_option maxHeartbeats 2000000 in
theorem SpAppendSeq_in (F:Fence) (n:Nat) (h11:F.fn 256) (hro:F.round=none) (hn:2≤n) (g:Nat) (lb:Array Value) (hFg:F.fn g) (eg:∀ args w,(callFunc g args).run Tryz.prog w = .ok (.enter g args) w)
 (zs:List Spn) (hz:zs.length≤1000000) (n₀:Nat) (w:World) (hn₀:n₀≤w.heap.size) (hseq:SeqStopsK F (n-1) Tryz.prog g lb (fun x:Spn=>#[Spn.enc x]) (Below n₀) (fun ys=>ys=zs) (fun pre=>pre <+: zs) zs.length w) :
 CallsIn F n Tryz.prog 256 #[.slice none 0 0,.func (.func g) #[] lb] w fun e w'=>∃ v,e = .returned v∧w'.ownsRow w.heap.size 60 2 v zs.length (zs.flatMap Spn.vals)∧(v = .slice none 0 0↔zs=[])∧Below w.heap.size w w':=by
 (have h1:1≤n:=by omega);obtain ⟨i0,hi,hz0,hz1,hz2⟩:=info_parts qBe;refine callsIn_of_wp_marks Tryz.func256 rfl h11 ?_ hro;simp only [Tryz.ntmps256,List.size_toArray,List.length_cons,List.length_nil,Nat.reduceAdd,Nat.reduceSub,Array.replicate_succ,Array.replicate_zero,List.push_toArray,List.append_toArray,List.nil_append,List.cons_append]
 gi_wp2
 have bO:=Boxed.new w 35 (.slice none 0 0);have hB0:Below w.heap.size w (w.alloc (.cells #[.slice none 0 0] 35)):=(Below.refl _ w).alloc (Nat.le_refl _) _
 refine wpIn_rangeFunc_ownH hro h1 (gf:=g) (lb:=lb) rfl hFg eg hseq (fun h k=>belowK_t h k) (belowK_b (by simp;omega)) hB0 (fun _=>rfl)
  (fun pre W=>(∃ v,Boxed W w.heap.size 35 v∧W.ownsRow w.heap.size 60 2 v pre.length (pre.flatMap Spn.vals)∧(v = .slice none 0 0↔pre=[]))∧Below w.heap.size w W)
  (fun _ _ _=>False)
  (OwnFrom.and (Own.from (holdsRow_own w.heap.size w.heap.size 35 60 2 (fun pre:List Spn=>pre.length) (fun pre=>pre.flatMap Spn.vals) (fun pre v=>v = .slice none 0 0↔pre=[])) _) (ownFrom_below (Nat.le_refl _) (by simp)))
  (fun _ _ _ _ _ hs _ _=>hs)
  ⟨⟨_,bO,World.ownsRow_nil _ _ _ _,by simp⟩,hB0⟩
  (SpAx w.heap.size g lb)
  (fun x a' _ W W' row hs hg hr=>by obtain ⟨Bx,hBx,hb,he⟩:=hs;exact ⟨Bx,hBx,blk_turned hb hg (fun r e=>(hr r e).2),he⟩)
  ?assign ?body ?done ?stop
 case assign =>
  rintro l pre x W K ⟨⟨v,hv,hrow,hnil⟩,hB⟩ hK;have hsz:=hB.size;have hvl:=hv.lt;unfold Spn.enc
  gi_wp2
  exact hK _ _ ((KeepsOthers.alloc _ _).from _) ((Below.refl _ W).alloc (by omega) _) ⟨⟨v,hv.alloc _,hrow.alloc _,hnil⟩,hB.alloc hB.size _⟩ ⟨W.heap.size,hvl,Blk.new W _ _,rfl⟩
 case body =>
  rintro l pre x a' W hl ⟨r,hr⟩ ⟨⟨v,hv,hrow,hnil⟩,hB⟩ ⟨Bx,hBx,bX,rfl⟩ hlt;have hc:=hv.cell;have x0:=bX.cell 0;have x1:=bX.cell 1;simp only [gA,gB,gC] at x0 x1
  gi_wp2_with (gi_at_builtin;refine wpListIn_append_own _ rfl _ _ 35 rfl w.heap.size 60 i0 (.agg #[.int .i64 0,.int .i64 0]) 2 16 Tryz.underlying35 hi hz0 hz1 hz2 rfl (by decide) _ _ _ rfl (hrow.alloc _) ⟨W.heap.size,0,none⟩ 1 1 [.int .i64 x.inn,.int .i64 x.out] rfl rfl (news_new _ _ _) (by simp [Value.oneCell']) (by simp [maxLen]<;>omega) (by omega) (by have:=hB.size;simp;omega) ?_;intro v' w1 hown' hgrow _;obtain ⟨g',cap',rfl⟩:=ownsRow_succ hown';obtain ⟨hv1,hv2,hr2,hk2,hb2⟩:=hv.appended (by decide) hrow hB.size (Nat.le_refl _) hown' hgrow;have hc1:=hv1.cell;have hf1:=hv1.frozen)
  exact ⟨hk2.from _,hb2.mono hn₀,⟨_,hv2,by rw [flat_snocS];simpa using hr2,by simp⟩,hB.trans hb2⟩
 case done =>
  rintro D ys W hD rfl ⟨⟨v,hv,hrow,hnil⟩,hB⟩ hK;have hc:=hv.cell
  gi_wp2
  refine ⟨by simp,.inl ⟨_,_,rfl,run_takeDeferred hK,?_⟩⟩;exact ⟨_,results_tmp rfl _ _ _,v,rfl,ownsRow_putObj hrow _ hK rfl,hnil,hB.trans (belowK_b (w:=w) (Nat.le_refl _) W D _ _ (by simp at hD;omega) hK rfl rfl)⟩
 case stop =>
  rintro D c pre W _ _ h _;exact h.elim
set_option maxHeartbeats 1000000 in
theorem SpCollect_any (A:Option Addr) (m cap:Nat) (zs:List Spn) (w:World) (Bs:Nat) (hz:m≤1000000) (hBs:Bs<w.heap.size) (hc:w.cell? ⟨Bs,0,none⟩=some (.slice A m cap)) (hI:qBj w A m zs) :
 Calls Tryz.prog 213 #[.func (.func 215) #[] #[.pointer (some ⟨Bs,0,none⟩)]] w fun e w'=>∃ v,e = .returned v∧w'.ownsRow w.heap.size 60 2 v m (zs.flatMap Spn.vals)∧(v = .slice none 0 0↔zs=[])∧Ext w w':=by
 have hl:=hI.len
 have hap:Calls Tryz.prog 256 #[.slice none 0 0,.func (.func 215) #[] #[.pointer (some ⟨Bs,0,none⟩)]] w fun e w'=>∃ v,e = .returned v∧w'.ownsRow w.heap.size 60 2 v m (zs.flatMap Spn.vals)∧(v = .slice none 0 0↔zs=[])∧Ext w w':=by
  subst hl;refine (callsIn_wide (n:=3)).1 ?_;refine SpAppendSeq_in Fence.wide 3 trivial rfl (by omega) _ _ trivial (enters_of Tryz.func215 (by kernel_rfl) rfl) zs hz w.heap.size w (Nat.le_refl _) ?_;refine SpValues_stops Fence.wide 2 trivial rfl (by omega) Bs w.heap.size A zs.length cap zs hz w hBs (Nat.le_refl _) hc hI ?_;intro ad hA h0;obtain ⟨b,off,hA',hcs⟩:=hI.2 (by omega);(have hl0:0<zs.length:=by omega);have:=World.block_lt_of_cell? w _ (hcs 0 zs[0] (List.getElem?_eq_getElem hl0) 0 _ rfl);rw [hA'] at hA
  cases hA
  exact this
 have HA:=gH hap;clear hap;go_enter Tryz.func213,Tryz.ntmps213;go_wp2_with fail;refine HA.out.mono ?_;rintro e w' ⟨v,rfl,h1,h2,h3⟩;have H1:=gH h1;have H2:=gH h2;have H3:=gH h3;clear h1 h2 h3 HA;go_wp2_with fail;go_ret;exact ⟨v,rfl,H1.out,H2.out,H3.out⟩
end
section
open Go.RowKit Go.Shelf Go.Sort
instance:Inhabited Spn:=⟨⟨0,0⟩⟩
def cmpSp (x y:Spn):Int:=cmpI x.inn y.inn
def ltSp (x y:Spn):Bool:=decide (x.inn<y.inn)
theorem ltOf_Sp:ltOf cmpSp=ltSp:=by
 funext x y
 unfold ltOf cmpSp ltSp cmpI;apply decide_eq_decide.2
 split
 · simp;assumption
 · split<;>omega
theorem ltSp_swo:SWO ltSp where
 irrefl x:=by unfold ltSp;simp
 trans x y z h1 h2:=by unfold ltSp at *;simp only [decide_eq_true_eq] at *;omega
 ntrans x y z h1 h2:=by unfold ltSp at *;simp only [decide_eq_false_iff_not] at *;omega
theorem cmpSp_enter:∀ args w,(callFunc 162 args).run Tryz.prog w = .ok (.enter 162 args) w:=Go.Proofs.enters_of Tryz.func162 (by kernel_rfl) rfl
set_option maxHeartbeats 1000000 in
theorem cmpSp_any (x y:Spn) (w:World):Calls Tryz.prog 162 #[.agg x.vals.toArray,.agg y.vals.toArray] w fun e w'=>e = .returned (.int .i64 (cmpSp x y))∧Extd w w':=by
 show Calls Tryz.prog 162 #[.agg #[.int .i64 x.inn,.int .i64 x.out],.agg #[.int .i64 y.inn,.int .i64 y.out]] w _
 have HX:=gH (((Extd.refl w).alloc (.cells #[.int .i64 x.inn,.int .i64 x.out] 60)).alloc (.cells #[.int .i64 y.inn,.int .i64 y.out] 60));have HC:=gH (fun w'=>Compare_any x.inn y.inn w');unfold cmpSp;go_enter Tryz.func162,Tryz.ntmps162;go_wp2_with fail;refine (HC.out _).mono ?_;rintro e w1 ⟨rfl,rfl⟩;go_wp2_with fail;go_ret;exact ⟨rfl,HX.out⟩
theorem arr_sortedSp {d:Array Spn} (h:SortedIn ltSp 0 d.size d):d.toList.Pairwise fun x y=>ltSp y x=false:=by
 (refine List.pairwise_iff_getElem.2 fun i j hi hj hij=>?_);(have hi':i<d.size:=by simpa using hi);(have hj':j<d.size:=by simpa using hj);have:=h i j (Nat.zero_le _) hij hj';rw [getElem!_pos d j hj',getElem!_pos d i hi'] at this;simpa using this
theorem SortNoneSp (F:Value) (w:World):Calls Tryz.prog 214 #[.slice none 0 0,F] w fun e w'=>e = .returned (.tuple #[])∧w'=w:=AnyF.slices_SortFunc_none Tryz.srtSp none 0 F w
theorem SortSp_own {w0 w:World} {L g n c:Nat} {l:List Spn} (hx:Ext w0 w) (hL:w0.heap.size≤L) (h1:w.ownsRow L 60 2 (.slice (some ⟨g,0,none⟩) n c) n (l.flatMap Spn.vals)) (hl:l.length=n) (hn:n<4611686018427387904) :
 Calls Tryz.prog 214 #[.slice (some ⟨g,0,none⟩) n c,.func (.func 162) #[] #[]] w fun e w'=>e = .returned (.tuple #[])∧Ext w0 w'∧∃ l':List Spn,l'.Perm l∧(l'.Pairwise fun x y=>ltSp y x=false)∧w'.ownsRow L 60 2 (.slice (some ⟨g,0,none⟩) n c) n (l'.flatMap Spn.vals):=by
 have hLg:L≤g:=qAp h1 g rfl
 have hg:g<w.heap.size:=by
  rcases h1.2 with ⟨hv,-⟩ | ⟨g',cap,cur,hv,-,hb,-⟩
  · cases hv
  · cases hv;exact (Array.getElem?_eq_some_iff.1 hb).1
 (have hz:l.toArray.size=n:=by simp [hl]);have hH:=own_holds (enc:=Spn.vals) (k:=2) (fun _=>rfl) h1 hl;(have hcmp:CmpLays Tryz.prog 162 #[] Spn.vals 2 cmpSp g 0 l.toArray.size w:=fun m os dk hs x y=>(cmpSp_any x y _).mono fun e w' ⟨he,hx⟩=>⟨he,hx.grow⟩);have hcon:=AnyQ.slices_SortFunc Tryz.srtSp 2 Tryz.isAgg60 Tryz.sizeOf60 Spn.vals (fun _=>rfl) qHl cmpSp (by rw [ltOf_Sp];exact ltSp_swo) 162 #[] g 0 c l.toArray w cmpSp_enter hcmp hH hg (by rw [hz];exact hn);rw [hz,ltOf_Sp] at hcon;refine Calls.mono hcon ?_;rintro e w' ⟨rfl,d',m,os,hp,hs,rfl⟩;obtain ⟨hsz,-,hperm⟩:=hp;(have hd:d'.size=n:=by rw [hsz,hz]);(have e1:d'.extract 0 n=d':=by rw [← hd];exact Array.extract_size);(have e2:l.toArray.extract 0 n=l.toArray:=by rw [← hz];exact Array.extract_size);rw [e1,e2] at hperm;have hS:SWK Spn.vals 2 w g 0 d'.toList.toArray (sortWorldK Spn.vals 2 w g 0 m d' os):=⟨m,os,by simp⟩;have hO:=swk_own (enc:=Spn.vals) (fun _=>rfl) h1 hS (by simpa using hd);exact ⟨rfl,hx.grown (swk_grown (enc:=Spn.vals) (k:=2) (g:=g) (l:=d'.toList) ⟨m,os,by simp⟩) (fun q hq=>by cases hq;omega),d'.toList,by simpa using hperm,arr_sortedSp (by rw [hd];exact hs),hO⟩
set_option maxHeartbeats 1000000 in
theorem SortedFunc_any (A:Option Addr) (m cap:Nat) (zs:List Spn) (w:World) (Bs:Nat) (hz:m≤1000000) (hBs:Bs<w.heap.size) (hc:w.cell? ⟨Bs,0,none⟩=some (.slice A m cap)) (hI:qBj w A m zs) :
 Calls Tryz.prog 160 #[.func (.func 215) #[] #[.pointer (some ⟨Bs,0,none⟩)],.func (.func 162) #[] #[]] w fun e w' =>
  ∃ (v:Value) (l:List Spn),e = .returned v∧l.Perm zs∧(l.Pairwise fun x y=>ltSp y x=false)∧w'.ownsRow w.heap.size 60 2 v m (l.flatMap Spn.vals)∧Ext w w':=by
 have hl:=hI.len;have HC:=gH (SpCollect_any A m cap zs w Bs hz hBs hc hI);have HL:=gH hl;clear hBs hc hI hl;go_enter Tryz.func160,Tryz.ntmps160;go_wp2_with fail;refine HC.out.mono ?_;rintro e w1 ⟨v,rfl,h1,h2,h3⟩;have H1:=gH h1;have H3:=gH h3;have H2:=gH h2;clear h1 h2 h3 HC
 by_cases h0:zs=[]
 · have hv:=H2.out.2 h0
   subst hv;go_wp2_with fail;refine (SortNoneSp _ _).mono ?_;rintro e w2 ⟨rfl,rfl⟩;go_wp2_with fail;go_ret;exact ⟨_,zs,rfl,List.Perm.refl _,by rw [h0];exact List.Pairwise.nil,H1.out,H3.out⟩
 · have hm:0<m:=by rw [← HL.out];exact List.length_pos_iff.2 h0
   obtain ⟨g,c,rfl,-⟩:=qFn H1.out hm;have HS:=gH (SortSp_own H3.out (Nat.le_refl _) H1.out HL.out (by omega));clear h0 H2;go_wp2_with fail;refine HS.out.mono ?_;rintro e w2 ⟨rfl,hx,l',hp,hs,ho⟩;have HR:=gH (And.intro hp (And.intro hs (And.intro ho hx)));clear hx hp hs ho HS;go_wp2_with fail;go_ret;exact ⟨_,l',rfl,HR.out.1,HR.out.2.1,HR.out.2.2.1,HR.out.2.2.2⟩
end
section
open Go.RowKit
def mgl (l:List Spn):List Spn:=(l.filter fun s=>decide (s.inn<s.out)).foldl qCg []
theorem mgl_skip {l:List Spn} {x:Spn} (h:¬ x.inn<x.out):mgl (l++[x])=mgl l:=by
 unfold mgl;rw [List.filter_append];simp [h]
theorem mgl_add {l:List Spn} {x:Spn} (h:x.inn<x.out):mgl (l++[x])=qCg (mgl l) x:=by
 unfold mgl;rw [List.filter_append,List.foldl_append];simp [h]
theorem mgStep_len (l:List Spn) (s:Spn):(qCg l s).length≤l.length+1:=by
 unfold qCg
 split
 · split
   · rename_i x hx _
     (have:l≠[]:=by rintro rfl;simp at hx);have:=List.length_pos_iff.2 this;simp
   · simp
 · simp
theorem qJm:∀ (l m:List Spn),(l.foldl qCg m).length≤m.length+l.length
 | [],m=>by simp
 | x :: l,m=>by
  have:=qJm l (qCg m x);have:=mgStep_len m x;(simp only [List.foldl_cons,List.length_cons];omega)
theorem mgl_len (l:List Spn):(mgl l).length≤l.length:=by
 have h:=qJm (l.filter fun s=>decide (s.inn<s.out)) [];have:=List.length_filter_le (fun s:Spn=>decide (s.inn<s.out)) l;(unfold mgl;simp at h;omega)
theorem sp_cell {w:World} {base:Nat} {v:Value} {ps:List Spn} {p:Spn} (h:w.ownsRow base 60 2 v (ps.length+1) ((ps++[p]).flatMap Spn.vals)):∃ g cap,v = .slice (some ⟨g,0,none⟩) (ps.length+1) cap∧base≤g∧g<w.heap.size∧Cells Spn.vals w g (ps.length*2) p:=by
 obtain ⟨g,cap,rfl,h1,h2⟩:=qFn h (by omega);obtain ⟨A',c',he,_,_,hS,_⟩:=qBg (f:=Spn.vals) (size:=2) (fun _=>rfl) (l:=ps++[p]) (by simp) h;injection he with e1 e2 e3;subst e1;obtain ⟨b,off,x,hA,hx,hC⟩:=hS.at_ (i:=ps.length) (by omega);injection hA with hA;injection hA with e4 e5;subst e4 e5;(have:x=p:=by simpa using hx.symm);subst this;exact ⟨g,cap,rfl,h1,h2,by simpa using hC⟩
theorem sp_set {ps:List Spn} {p:Spn} (o:Int):((ps++[p]).flatMap Spn.vals).set (ps.length*2+1) (.int .i64 o)=(ps++[(⟨p.inn,o⟩:Spn)]).flatMap Spn.vals:=by
 have hl:(ps.flatMap Spn.vals).length=ps.length*2:=qDm Spn.vals 2 (fun _=>rfl) ps;rw [List.flatMap_append,List.flatMap_append,List.set_append_right _ _ (by omega),hl]
 congr 1
 rw [show ps.length*2+1-ps.length*2=1 by omega];rfl
theorem snocSp {l:List Spn} (h:l≠[]):∃ ps p,l=ps++[p]:=by
 rcases List.eq_nil_or_concat l with rfl | ⟨ps,p,e⟩
 · exact absurd rfl h
 · exact ⟨ps,p,by rw [List.concat_eq_append] at e;exact e⟩
def qDq (l:List Spn) (w:World) (en:Ending) (w':World):Prop:=∃ A c,en = .returned (.slice A l.length c)∧qBj w' A l.length l∧l.length≤c∧Ext w w'∧∀ ad,A=some ad→w.heap.size≤ad.block
def MgRel (w1:World) (m:Nat) (l:List Spn) (v i:Value) (wr:World):Prop :=
 ∃ k:Nat,k≤m∧i = .int .i64 k∧Ext w1 wr∧wr.ownsRow w1.heap.size 60 2 v (mgl (l.take k)).length ((mgl (l.take k)).flatMap Spn.vals)
set_option maxHeartbeats 8000000 in
theorem Merge_any (A:Option Addr) (n c:Nat) (zs:List Spn) (w:World) (hl:qBj w A n zs) (hn:n≤1000000) :
 Calls Tryz.prog 99 #[.slice A n c] w (qDq (qDf zs) w):=by
 have HV:=gH ((callsIn_wide (n:=1)).1 (SpValues_in Fence.wide 1 trivial rfl A n c w));have HXv:=gH ((Ext.refl w).alloc (.cells #[.slice A n c] 35));have HSF:=gH (SortedFunc_any A n c zs (w.alloc (.cells #[.slice A n c] 35)) w.heap.size hn (by simp) (by rw [(Blk.new w 35 #[.slice A n c]).cell 0];rfl) (hl.ext HXv.out));have hlen:=hl.len;clear hl;unfold qDq;go_enter Tryz.func99,Tryz.ntmps99;go_wp2_with fail;refine HV.out.mono ?_;rintro e w0 ⟨rfl,rfl⟩;go_wp2_with fail;refine HSF.out.mono ?_;rintro e w1 ⟨v,l,rfl,hp,hs,ho,hx⟩;(have hll:l.length=n:=by rw [hp.length_eq];exact hlen);have HX1:=gH (HXv.out.trans hx);have HMJ:Hid (mgl l=qDf zs):=merge_join hp (hs.imp fun {x y} h=>by unfold ltSp at h;simpa using h);obtain ⟨SA,sc,rfl,hsc,hscm,hS,hfr⟩:=qBg (f:=Spn.vals) (size:=2) (fun _=>rfl) hll ho;have HL:Hid (qBj w1 SA n l):=hS;have hz1:=HX1.out.size;clear HV HXv HSF hlen hp hs ho hx hS hfr hsc hscm;go_wp2_with fail
 go_loopw [3,13] (fun v i wr=>MgRel w1 n l v i wr) (fun _ i _=>n-(intOf i).toNat)
 case atStart=>exact ⟨0,Nat.zero_le _,rfl,Ext.refl _,⟨rfl,.inl ⟨rfl,rfl⟩⟩⟩
 case round =>
  obtain ⟨k,hk,rfl,hx,hown⟩:=hrel;have HX:=gH hx;have HO:=gH hown;(have hml:(mgl (l.take k)).length≤k:=by have:=mgl_len (l.take k);rw [List.length_take] at this;omega);have hzr:=hx.size;clear hx hown
  by_cases hlt:k<n
  case neg =>
   (have hkn:k=n:=by omega);subst hkn;(have HT:Hid (mgl (l.take k)=qDf zs):=by show _=_;rw [List.take_of_length_le (by omega)];exact HMJ.out);rw [HT.out] at HO;obtain ⟨A',c',rfl,hc,_,hS,hfr⟩:=qBg (f:=Spn.vals) (size:=2) (fun _=>rfl) rfl HO.out;have HR:=gH (And.intro hc (And.intro hS (And.intro hfr (HX1.out.trans HX.out))));clear hc hS hfr HO HT;go_wp2_with fail;go_ret;exact ⟨A',c',rfl,HR.out.2.1,HR.out.1,HR.out.2.2.2,fun ad h=>Nat.le_trans hz1 (HR.out.2.2.1 ad h)⟩
  obtain ⟨b,off,x,rfl,hxk,hC⟩:=(HL.out.ext HX.out).at_ hlt;have c0:=hC 0 _ rfl;have c1:=hC 1 _ rfl;simp only [Nat.add_zero] at c0;have HTk:=gH (take_snoc' l k x hxk);have HBx:=gH (Blk.new wr 60 #[.int .i64 x.inn,.int .i64 x.out]);have HXx:=gH ((Ext.refl wr).alloc (.cells #[.int .i64 x.inn,.int .i64 x.out] 60));clear hC hxk
  by_cases hio:x.inn<x.out
  case neg =>
   (have hge:x.inn≥x.out:=by omega);(have hd1:decide (x.inn≥x.out)=true:=by simpa using hge);(have hd2:decide (x.out≤x.inn)=true:=by simpa using hge);(have HT2:Hid (mgl (l.take (k+1))=mgl (l.take k)):=by show _=_;rw [HTk.out,mgl_skip hio]);clear hio hge;go_wp2_with fail;exact ⟨⟨k+1,by omega,by go_num,HX.out.trans HXx.out,by rw [HT2.out];exact qAh HO.out HXx.out⟩,by simp [intOf];omega⟩
  (have hd1:decide (x.inn≥x.out)=false:=by simp;omega);(have hd2:decide (x.out≤x.inn)=false:=by simp;omega);(have HT2:Hid (mgl (l.take (k+1))=qCg (mgl (l.take k)) x):=by show _=_;rw [HTk.out,mgl_add hio]);clear hio HTk;generalize mgl (l.take k)=os at *
  rcases Classical.em (os=[]) with hos | hos
  · subst hos
    obtain ⟨A',cap',rfl,hcap,hcm,_,_⟩:=qBg (f:=Spn.vals) (size:=2) (l:=[]) (fun _=>rfl) rfl HO.out;rw [qOs] at HT2;simp only [List.length_nil] at *;go_wp2_with fail;go_quiet (fail);go_upto_region 10 with fail;refine qBs ?_;intro w3 hx3 hs3;have HXw3:=gH (HXx.out.trans hx3);have HO3:=gH (qAh HO.out HXw3.out);have HBx3:=gH (HBx.out.ext hx3);(have hcl3:=fun o=>HBx3.out.cell o);have hb3:=HXw3.out.size;clear hx3 hs3;go_wp2_with (at_builtin;refine qAf rfl (.tmp 49) (.tmp 51) 35 rfl qBe Tryz.underlying35 rfl (by decide) (HO3.out.alloc _) (by exact rfl) w3.heap.size _ (by exact rfl) (by exact Blk.new' rfl) (by exact rfl) (by simp [Value.oneCell']) (by omega) (by simp [maxLen]<;>omega) (by first | omega | (simp;omega) | simp) ?_;intro v5 w5 hown5 hgr;have HO5:=gH hown5;have HX5:=gH (Ext.grown ((HX.out.trans HXw3.out).alloc _) hgr (fun q hq=>qAp HO3.out q hq));clear hown5 hgr);exact ⟨⟨k+1,by omega,by go_num,HX5.out,by rw [HT2.out];exact HO5.out⟩,by simp [intOf];omega⟩
  obtain ⟨ps,p,rfl⟩:=snocSp hos;clear hos;(have hlen:(ps++[p]).length=ps.length+1:=by simp);rw [hlen] at HO hml;clear hlen;obtain ⟨g,cap,rfl,hg1,hg2,hCp⟩:=sp_cell HO.out;have p1:=HXx.out.cell (hCp 1 _ rfl);rw [qGe] at HT2
  by_cases hjoin:x.inn≤p.out
  · rw [if_pos hjoin] at HT2
    (have d1:decide (x.inn≤p.out)=true:=by simpa using hjoin);clear hjoin;go_wp2_with fail;go_quiet (fail);go_upto_region 9 with fail;refine qBs ?_;intro w3 hx3 hs3;have HXw3:=gH (HXx.out.trans hx3);have HO3:=gH (qAh HO.out HXw3.out);have HBx3:=gH (HBx.out.ext hx3);have q1:=hx3.cell p1;have b1:=HBx3.out.cell 1;simp only [gA,gB,gC] at b1;have hfg:=World.ownsRow.frozenAt HO3.out (ps.length*2+1);obtain ⟨hst,hgr⟩:=World.ownsRow.stored HO3.out (ps.length*2+1) (.int .i64 (max p.out x.out));have HO5:=gH hst;have HX5:=gH (Ext.grown (HX.out.trans HXw3.out) hgr (fun q hq=>by cases hq;exact hg1));have HSO:=gH (sp_set (ps:=ps) (p:=p) (max p.out x.out));clear hst hgr hx3 hs3 p1;go_region
    try simp only [Exit.inBlock,Exit.then]
    have HF:=gH (And.intro (HX5.out.drew) (qAh HO5.out (Ext.refl _).drew));go_wp2_with fail;exact ⟨⟨k+1,by omega,by go_num,HF.out.1,by rw [HT2.out,← HSO.out,show (ps++[(⟨p.inn,max p.out x.out⟩:Spn)]).length=ps.length+1 by simp];exact HF.out.2⟩,by simp [intOf];omega⟩
  · rw [if_neg hjoin] at HT2
    (have d1:decide (x.inn≤p.out)=false:=by simpa using hjoin);clear hjoin;go_wp2_with fail;go_quiet (fail);go_upto_region 10 with fail;refine qBs ?_;intro w3 hx3 hs3;have HXw3:=gH (HXx.out.trans hx3);have HO3:=gH (qAh HO.out HXw3.out);have HBx3:=gH (HBx.out.ext hx3);(have hcl3:=fun o=>HBx3.out.cell o);have hb3:=HXw3.out.size;clear hx3 hs3 p1;go_wp2_with (at_builtin;refine qAf rfl (.tmp 49) (.tmp 51) 35 rfl qBe Tryz.underlying35 rfl (by decide) (HO3.out.alloc _) (by exact rfl) w3.heap.size _ (by exact rfl) (by exact Blk.new' rfl) (by exact rfl) (by simp [Value.oneCell']) (by omega) (by simp [maxLen]<;>omega) (by first | omega | (simp;omega) | simp) ?_;intro v5 w5 hown5 hgr;have HO5:=gH hown5;have HX5:=gH (Ext.grown ((HX.out.trans HXw3.out).alloc _) hgr (fun q hq=>qAp HO3.out q hq));clear hown5 hgr);exact ⟨⟨k+1,by omega,by go_num,HX5.out,by rw [HT2.out,show ps++[p,x]=(ps++[p])++[x] by simp,List.flatMap_append,show ((ps++[p])++[x]).length=ps.length+1+1 by simp];exact HO5.out⟩,by simp [intOf];omega⟩
end
section
open Go.RowKit
def putT (l:List Spn) (s:Spn):Nat:=(l.takeWhile fun x=>decide (x.inn≤s.inn)).length
theorem putS_eq (l:List Spn) (s:Spn):putS l s=l.take (putT l s)++[s]++l.drop (putT l s):=by unfold putS putT;simp
theorem putT_le (l:List Spn) (s:Spn):putT l s≤l.length:=by unfold putT;exact (List.takeWhile_sublist _).length_le
theorem putS_len (l:List Spn) (s:Spn):(putS l s).length=l.length+1:=by
 have:=putT_le l s;(rw [putS_eq];simp [List.length_take];omega)
theorem putT_go:∀ {l:List Spn} {s:Spn} {k:Nat} {x:Spn},k≤putT l s→l[k]?=some x→(x.inn≤s.inn→k+1≤putT l s)∧(¬ x.inn≤s.inn→putT l s=k)
 | [],s,k,x,_,h=>by simp at h
 | a :: l,s,0,x,_,h=>by
  (simp at h;subst h);unfold putT;rw [List.takeWhile_cons]
  by_cases ha:a.inn≤s.inn
  · rw [if_pos (by simpa using ha)];exact ⟨fun _=>by simp,fun h=>absurd ha h⟩
  · rw [if_neg (by simpa using ha)];exact ⟨fun h=>absurd h ha,fun _=>rfl⟩
 | a :: l,s,k+1,x,hk,h=>by
  unfold putT at hk ⊢;rw [List.takeWhile_cons] at hk ⊢
  by_cases ha:a.inn≤s.inn
  · rw [if_pos (by simpa using ha)] at hk ⊢
    simp only [List.length_cons] at hk ⊢;have:=putT_go (l:=l) (s:=s) (k:=k) (x:=x) (by unfold putT;omega) (by simpa using h);unfold putT at this;exact ⟨fun h=>by have:=this.1 h;omega,fun h=>by have:=this.2 h;omega⟩
  · rw [if_neg (by simpa using ha)] at hk
    simp at hk
def PutSPost (l:List Spn) (w:World) (en:Ending) (w':World):Prop:=∃ v,en = .returned v∧w'.ownsRow w.heap.size 60 2 v l.length (l.flatMap Spn.vals)∧Ext w w'
def PutSRel (w0:World) (l:List Spn) (s:Spn) (i:Value) (wr:World):Prop:=∃ k:Nat,k≤putT l s∧i = .int .i64 k∧Ext w0 wr
set_option maxHeartbeats 16000000 in
theorem R5put_nil (s:Spn) (w:World) :
 Calls Tryz.prog 100 #[.slice none 0 0,.agg #[.int .i64 s.inn,.int .i64 s.out]] w (PutSPost (putS [] s) w):=by
 have HB0:=gH (Blk.new w 60 #[.int .i64 s.inn,.int .i64 s.out]);have HX0:=gH ((Ext.refl w).alloc (.cells #[.int .i64 s.inn,.int .i64 s.out] 60));go_enter Tryz.func100,Tryz.ntmps100;go_wp2_with fail;obtain ⟨W1,hW1⟩:∃ W1,W1=w.alloc (.cells #[.int .i64 s.inn,.int .i64 s.out] 60):=⟨_,rfl⟩;rw [← hW1] at HB0 HX0 ⊢;clear hW1
 go_loopw [5] (fun i wr=>PutSRel W1 [] s i wr) (fun i _=>0-(intOf i).toNat)
 case atStart=>exact ⟨0,Nat.zero_le _,rfl,Ext.refl W1⟩
 case round =>
  obtain ⟨k,hk,rfl,hx⟩:=hrel;have HX:=gH hx;(have hk0:k=0:=by simp [putT] at hk;exact hk);subst hk0;(have hcg:=fun o=>(HB0.out.ext hx).cell o);clear hx hk;go_wp2_with fail;go_quiet (fail);clear hcg;go_upto_region 4 with fail;refine qBs ?_;intro w4 hx4 hs4;(have hx4:Ext wr w4:=by first | exact hx4 | exact Ext.trans ((Ext.refl wr).drewN _) hx4);have HX4:=gH (HX0.out.trans (HX.out.trans hx4));have HB4:=gH (HB0.out.ext (HX.out.trans hx4));have HT1:Hid (Sl w4 2 (Cells Spn.vals) none 0 []):=Sl.nil;(have HT2:Hid (∀ A,Sl w4 2 (Cells Spn.vals) A 0 []):=fun A=>Sl.nil);have hsz4:=HX4.out.size;clear hx4 hs4
  go_wp2_with (first | (at_builtin;refine qAl rfl (.tmp 23) (.tmp 26) 35 rfl qBe Tryz.underlying35 rfl (by decide) (by exact own_nil0' (base:=w4.heap.size) rfl (Nat.le_refl _)) (by exact rfl) (by exact rfl) (by exact Sl.ext (Cells.stays _) HT1.out ((Ext.refl w4).alloc _)) (fun _=>rfl) qHl (by omega) (by simp [maxLen]<;>omega) (by first | omega | (simp;omega) | simp) ?_;intro v1 w5 hown1 hgr1 hnil1;have hx5:Ext w4 w5:=Ext.grown ((Ext.refl w4).alloc _) hgr1 (fun q hq=>by simp [Value.ownBlock] at hq;omega);have hs5:=hx5.size;have b50:=(HB4.out.ext hx5).cell 0;have b51:=(HB4.out.ext hx5).cell 1;simp only [gA,gB,gC] at b50 b51;have HO1:=gH hown1;clear hown1 hgr1) | (at_builtin;refine qAf rfl (.tmp 28) (.tmp 30) 35 rfl qBe Tryz.underlying35 rfl (by decide) (HO1.out.alloc _) (by exact rfl) w5.heap.size _ (by exact rfl) (by exact Blk.new' rfl) (by exact rfl) (by simp [Value.oneCell']) (by omega) (by simp [maxLen]<;>omega) (by first | omega | (simp;omega) | simp) ?_;intro v2 w6 hown2 hgr2;have hx6:Ext w4 w6:=Ext.grown (hx5.alloc _) hgr2 (fun q hq=>by have:=qAp HO1.out q hq;omega);have hs6:=hx6.size;have HO2:=gH hown2;have HX6:=gH hx6;have HT6:=gH (fun A=>Sl.ext (Cells.stays _) (HT2.out A) hx6);clear hown2 hgr2) | (at_builtin;refine qAl rfl (.tmp 32) (.tmp 35) 35 rfl qBe Tryz.underlying35 rfl (by decide) (by exact HO2.out) (by exact rfl) (by exact rfl) (by first | exact HT6.out | exact HT6.out _) (fun _=>rfl) qHl (by omega) (by simp [maxLen]<;>omega) (by first | omega | (simp;omega) | simp) ?_;intro v3 w7 hown3 hgr3 hnil3;have hx7:Ext w4 w7:=Ext.grown HX6.out hgr3 (fun q hq=>by have:=qAp HO2.out q hq;omega);have HO3:=gH hown3;clear hown3 hgr3))
  all_goals go_ret
  all_goals (refine ⟨_,rfl,?_,HX4.out.trans hx7⟩;have h1:=own_le' HO3.out (show w.heap.size≤w4.heap.size from hsz4);exact h1)
set_option maxHeartbeats 16000000 in
theorem R5put_some (gb cap:Nat) (l:List Spn) (s:Spn) (w:World) (hl:qBj w (some ⟨gb,0,none⟩) l.length l) (hcap:l.length≤cap) (hn:l.length≤1000000) :
 Calls Tryz.prog 100 #[.slice (some ⟨gb,0,none⟩) l.length cap,.agg #[.int .i64 s.inn,.int .i64 s.out]] w (PutSPost (putS l s) w):=by
 have HL:=gH hl;clear hl;have HB0:=gH (Blk.new w 60 #[.int .i64 s.inn,.int .i64 s.out]);have HX0:=gH ((Ext.refl w).alloc (.cells #[.int .i64 s.inn,.int .i64 s.out] 60));go_enter Tryz.func100,Tryz.ntmps100;go_wp2_with fail;obtain ⟨W1,hW1⟩:∃ W1,W1=w.alloc (.cells #[.int .i64 s.inn,.int .i64 s.out] 60):=⟨_,rfl⟩;rw [← hW1] at HB0 HX0 ⊢;clear hW1
 go_loopw [5] (fun i wr=>PutSRel W1 l s i wr) (fun i _=>l.length-(intOf i).toNat)
 case atStart=>exact ⟨0,Nat.zero_le _,rfl,Ext.refl W1⟩
 case round =>
  obtain ⟨k,hk,rfl,hx⟩:=hrel;have HX:=gH hx;have hpl:=putT_le l s;have b0:=(HB0.out.ext hx).cell 0;have b1:=(HB0.out.ext hx).cell 1;simp only [gA,gB,gC] at b0 b1;clear hx
  by_cases hlt:k<l.length
  · have hji:(k:Int)<(l.length:Int):=by omega
    obtain ⟨b',off',x,hA',hxk,hC⟩:=(HL.out.ext (HX0.out.trans HX.out)).at_ hlt
    cases hA'
    have c0:=hC 0 _ rfl;simp only [Nat.zero_add,Nat.add_zero] at c0;have HGo:=gH (putT_go hk hxk);clear hxk hC
    by_cases ht:x.inn≤s.inn
    · have hk1:k+1≤putT l s:=HGo.out.1 ht
      (have hd:decide (x.inn≤s.inn)=true:=by simpa using ht);clear ht;go_wp2_with fail;go_quiet (fail);go_wp2_with fail;exact ⟨⟨k+1,hk1,by go_num,HX.out.drewN _⟩,by simp [intOf];omega⟩
    · have HK:=gH (HGo.out.2 ht)
      (have hd:decide (x.inn≤s.inn)=false:=by simpa using ht);clear HGo ht;go_wp2_with fail;go_quiet (fail);clear c0 b0 b1 hd;go_upto_region 4 with fail;refine qBs ?_;intro w4 hx4 hs4;(have hx4:Ext wr w4:=by first | exact hx4 | exact Ext.trans ((Ext.refl wr).drewN _) hx4);have HX4:=gH (HX0.out.trans (HX.out.trans hx4));have HB4:=gH (HB0.out.ext (HX.out.trans hx4));have HT1:=gH ((HL.out.ext HX4.out).take (by omega:k≤l.length));(have HT2:Hid (Sl w4 2 (Cells Spn.vals) (some ⟨gb,k*2,none⟩) (l.length-k) (l.drop k)):=by have h:=(HL.out.ext HX4.out).drop k;rw [Nat.zero_add] at h;exact h);have hsz4:=HX4.out.size;clear hx4 hs4
      go_wp2_with (first | (at_builtin;refine qAl rfl (.tmp 23) (.tmp 26) 35 rfl qBe Tryz.underlying35 rfl (by decide) (by exact own_nil0' (base:=w4.heap.size) rfl (Nat.le_refl _)) (by exact rfl) (by exact rfl) (by exact Sl.ext (Cells.stays _) HT1.out ((Ext.refl w4).alloc _)) (fun _=>rfl) qHl (by omega) (by simp [maxLen]<;>omega) (by first | omega | (simp;omega) | simp) ?_;intro v1 w5 hown1 hgr1 hnil1;have hx5:Ext w4 w5:=Ext.grown ((Ext.refl w4).alloc _) hgr1 (fun q hq=>by simp [Value.ownBlock] at hq;omega);have hs5:=hx5.size;have b50:=(HB4.out.ext hx5).cell 0;have b51:=(HB4.out.ext hx5).cell 1;simp only [gA,gB,gC] at b50 b51;have HO1:=gH hown1;clear hown1 hgr1) | (at_builtin;refine qAf rfl (.tmp 28) (.tmp 30) 35 rfl qBe Tryz.underlying35 rfl (by decide) (HO1.out.alloc _) (by exact rfl) w5.heap.size _ (by exact rfl) (by exact Blk.new' rfl) (by exact rfl) (by simp [Value.oneCell']) (by omega) (by simp [maxLen]<;>omega) (by first | omega | (simp;omega) | simp) ?_;intro v2 w6 hown2 hgr2;have hx6:Ext w4 w6:=Ext.grown (hx5.alloc _) hgr2 (fun q hq=>by have:=qAp HO1.out q hq;omega);have hs6:=hx6.size;have HO2:=gH hown2;have HX6:=gH hx6;have HT6:=gH (Sl.ext (Cells.stays _) HT2.out hx6);clear hown2 hgr2) | (at_builtin;refine qAl rfl (.tmp 32) (.tmp 35) 35 rfl qBe Tryz.underlying35 rfl (by decide) (by exact HO2.out) (by exact rfl) (by exact rfl) (by first | exact HT6.out | exact HT6.out _) (fun _=>rfl) qHl (by omega) (by simp [maxLen]<;>omega) (by first | omega | (simp;omega) | simp) ?_;intro v3 w7 hown3 hgr3 hnil3;have hx7:Ext w4 w7:=Ext.grown HX6.out hgr3 (fun q hq=>by have:=qAp HO2.out q hq;omega);have HO3:=gH hown3;clear hown3 hgr3))
      all_goals go_ret
      all_goals (refine ⟨_,rfl,?_,HX4.out.trans hx7⟩;have h1:=own_le' HO3.out (show w.heap.size≤w4.heap.size from hsz4);have hl1:putS l s=l.take k++[s]++l.drop k:=(by rw [putS_eq,HK.out]);have hl2:(putS l s).length=k+1+(l.length-k):=(by rw [putS_len];omega);rw [hl2,hl1,List.flatMap_append,List.flatMap_append];rw [Nat.zero_add] at h1;exact h1)
  · have hkl:k=l.length:=by omega
    (have HK:Hid (putT l s=k):=by show _=_;omega);(have hji:decide ((k:Int)<(l.length:Int))=false:=by simp;omega);(have hk1:k≤l.length:=by omega);clear hkl;go_wp2_with fail;go_quiet (fail);clear b0 b1;go_upto_region 4 with fail;refine qBs ?_;intro w4 hx4 hs4;(have hx4:Ext wr w4:=by first | exact hx4 | exact Ext.trans ((Ext.refl wr).drewN _) hx4);have HX4:=gH (HX0.out.trans (HX.out.trans hx4));have HB4:=gH (HB0.out.ext (HX.out.trans hx4));have HT1:=gH ((HL.out.ext HX4.out).take (by omega:k≤l.length));(have HT2:Hid (∀ A,Sl w4 2 (Cells Spn.vals) A (l.length-k) (l.drop k)):=fun A=>⟨by simp,fun h=>absurd h (by omega)⟩);have hsz4:=HX4.out.size;clear hx4 hs4
    go_wp2_with (first | (at_builtin;refine qAl rfl (.tmp 23) (.tmp 26) 35 rfl qBe Tryz.underlying35 rfl (by decide) (by exact own_nil0' (base:=w4.heap.size) rfl (Nat.le_refl _)) (by exact rfl) (by exact rfl) (by exact Sl.ext (Cells.stays _) HT1.out ((Ext.refl w4).alloc _)) (fun _=>rfl) qHl (by omega) (by simp [maxLen]<;>omega) (by first | omega | (simp;omega) | simp) ?_;intro v1 w5 hown1 hgr1 hnil1;have hx5:Ext w4 w5:=Ext.grown ((Ext.refl w4).alloc _) hgr1 (fun q hq=>by simp [Value.ownBlock] at hq;omega);have hs5:=hx5.size;have b50:=(HB4.out.ext hx5).cell 0;have b51:=(HB4.out.ext hx5).cell 1;simp only [gA,gB,gC] at b50 b51;have HO1:=gH hown1;clear hown1 hgr1) | (at_builtin;refine qAf rfl (.tmp 28) (.tmp 30) 35 rfl qBe Tryz.underlying35 rfl (by decide) (HO1.out.alloc _) (by exact rfl) w5.heap.size _ (by exact rfl) (by exact Blk.new' rfl) (by exact rfl) (by simp [Value.oneCell']) (by omega) (by simp [maxLen]<;>omega) (by first | omega | (simp;omega) | simp) ?_;intro v2 w6 hown2 hgr2;have hx6:Ext w4 w6:=Ext.grown (hx5.alloc _) hgr2 (fun q hq=>by have:=qAp HO1.out q hq;omega);have hs6:=hx6.size;have HO2:=gH hown2;have HX6:=gH hx6;have HT6:=gH (fun A=>Sl.ext (Cells.stays _) (HT2.out A) hx6);clear hown2 hgr2) | (at_builtin;refine qAl rfl (.tmp 32) (.tmp 35) 35 rfl qBe Tryz.underlying35 rfl (by decide) (by exact HO2.out) (by exact rfl) (by exact rfl) (by first | exact HT6.out | exact HT6.out _) (fun _=>rfl) qHl (by omega) (by simp [maxLen]<;>omega) (by first | omega | (simp;omega) | simp) ?_;intro v3 w7 hown3 hgr3 hnil3;have hx7:Ext w4 w7:=Ext.grown HX6.out hgr3 (fun q hq=>by have:=qAp HO2.out q hq;omega);have HO3:=gH hown3;clear hown3 hgr3))
    all_goals go_ret
    all_goals (refine ⟨_,rfl,?_,HX4.out.trans hx7⟩;have h1:=own_le' HO3.out (show w.heap.size≤w4.heap.size from hsz4);have hl1:putS l s=l.take k++[s]++l.drop k:=(by rw [putS_eq,HK.out]);have hl2:(putS l s).length=k+1+(l.length-k):=(by rw [putS_len];omega);rw [hl2,hl1,List.flatMap_append,List.flatMap_append];rw [Nat.zero_add] at h1;exact h1)
end
end Go.Proofs.YtablhmobekmflaaGreatDoor