/- Texts laid together. -/
import Derived.Test.YtablhmobekmflaaGreatDoorCm01
import Derived.Lib.SliceRun
import Derived.Test.YtablhmobekmflaaGreatDoorCm02
import Derived.Test.YtablhmobekmflaaGreatDoorCm03
import Derived.Lib.LaidU8T
import Derived.Deep.DeepHandedRow
import Derived.Lib.LaidTab
import Derived.Lib.Join
set_option linter.unusedVariables false
set_option linter.unusedSimpArgs false
set_option maxRecDepth 100000
namespace Go.Proofs.YtablhmobekmflaaGreatDoor
section
open Go.RowKit
def qDu (w:World) (T:TypeId) (L:Nat) (A:Option Addr):Prop:=∀ ad,A=some ad→L≤ad.block∧qBf w T ad.block
theorem qDu.le {w:World} {T:TypeId} {L L':Nat} {A:Option Addr} (h:qDu w T L A) (hl:L'≤L):qDu w T L' A:=fun ad e=>⟨Nat.le_trans hl (h ad e).1,(h ad e).2⟩
theorem qDu.ext {w w1:World} {T:TypeId} {L:Nat} {A:Option Addr} (h:qDu w T L A) (k:Ext w w1):qDu w1 T L A:=fun ad e=>⟨(h ad e).1,(h ad e).2.ext k⟩
theorem qDu.setCell {w:World} {T:TypeId} {L:Nat} {A:Option Addr} (h:qDu w T L A) (p:Addr) (u:Value):qDu (w.setCell p u) T L A:=fun ad e=>⟨(h ad e).1,(h ad e).2.setCell p u⟩
theorem qDu.grown {w w1:World} {T T':TypeId} {L:Nat} {A:Option Addr} {row:Option Nat} (h:qDu w T L A) (hg:w.grownBy w1 row) (hr:∀ q,row=some q→qBf w T' q) (hne:T≠T'):qDu w1 T L A:=fun ad e=>⟨(h ad e).1,(h ad e).2.grown hg hr hne⟩
theorem qDu.put {w:World} {T t:TypeId} {L g:Nat} {A:Option Addr} {cs:Array Value} (h:qDu w T L A) (hB:Blk w g t cs) (cs':Array Value) (hne:T≠t):qDu (putB w g t cs') T L A:=fun ad e=>⟨(h ad e).1,(h ad e).2.put hB cs' hne⟩
theorem qDu.of_own {w:World} {base:Nat} {e:TypeId} {size n m c:Nat} {A:Option Addr} {xs:List Value} (h:w.ownsRow base e size (.slice A m c) n xs):qDu w e base A:=fun ad hA=>by
 subst hA;exact ⟨qAp h _ rfl,qAj h _ rfl⟩
def Run.cells (r:Run):List Value:=[.string r.text,.int .u8 r.color,.bool r.italic,.bool r.under,.string r.ruby]
theorem runC_cells {w:World} {b o:Nat} {r:Run} (h:RunC w b o r):Cells Run.cells w b o r:=by
 obtain ⟨h0,h1,h2,h3,h4⟩:=h;intro j u hu
 match j,hu with
 | 0,hu=>simp [Run.cells] at hu;subst hu;exact h0
 | 1,hu=>simp [Run.cells] at hu;subst hu;exact h1
 | 2,hu=>simp [Run.cells] at hu;subst hu;exact h2
 | 3,hu=>simp [Run.cells] at hu;subst hu;exact h3
 | 4,hu=>simp [Run.cells] at hu;subst hu;exact h4
 | j+5,hu=>simp [Run.cells] at hu
theorem cells_runC {w:World} {b o:Nat} {r:Run} (h:Cells Run.cells w b o r):RunC w b o r:=⟨h 0 _ rfl,h 1 _ rfl,h 2 _ rfl,h 3 _ rfl,h 4 _ rfl⟩
theorem qCt.cells {w:World} {A:Option Addr} {n:Nat} {l:Row} (h:qCt w A n l):Sl w 5 (Cells Run.cells) A n l:=Sl.change h fun _ _ _=>runC_cells
theorem qCt.of_cells {w:World} {A:Option Addr} {n:Nat} {l:Row} (h:Sl w 5 (Cells Run.cells) A n l):qCt w A n l:=Sl.change h fun _ _ _=>cells_runC
theorem info_run:(Tryz.prog.info? 171).map (fun i=>(i.zero,i.size,i.bytes))=some (some (.agg #[.string ⟨#[]⟩,.int .u8 0,.bool false,.bool false,.string ⟨#[]⟩]),5,40):=by kernel_rfl
theorem info_row:(Tryz.prog.info? 174).map (fun i=>(i.zero,i.size,i.bytes))=some (some (.agg #[.slice none 0 0]),1,24):=by kernel_rfl
def CloneRunsPost (l:Row) (n:Nat) (w:World) (e:Ending) (w':World):Prop :=
 ∃ A c,e = .returned (.slice A n c)∧n≤c∧qCt w' A n l∧qDu w' 171 w.heap.size A∧Ext w w'
set_option maxHeartbeats 1000000 in
theorem CloneRuns_any (A:Option Addr) (n c:Nat) (l:Row) (w:World) (hl:qCt w A n l) (hn:n*40≤140737488355328) :
 Calls Tryz.prog 231 #[.slice A n c] w (CloneRunsPost l n w):=by
 (have hq:=fun w=>Lib.run_eql_slice_nil (P:=Tryz.prog) w 172 171 A n c 0 0 Tryz.underlying172);have HL:=gH hl;clear hl
 cases A with
 | none =>
  have hn0:n=0:=by
   rcases Nat.eq_zero_or_pos n with h | h
   · exact h
   · obtain ⟨_,_,h,_⟩:=HL.out.2 h;cases h
  subst hn0;simp only [Option.isNone_none] at hq;go_enter Tryz.func231,Tryz.ntmps231;go_wp2_with fail;go_ret;exact ⟨none,0,rfl,Nat.le_refl _,HL.out,(fun _ h=>by cases h),Ext.refl _⟩
 | some ad =>
  simp only [Option.isNone_some] at hq;go_enter Tryz.func231,Tryz.ntmps231;go_wp2_with (at_builtin;refine qAl rfl (.tmp 5) (.tmp 6) 172 rfl info_run Tryz.underlying172 rfl (by decide) (by exact qIt w _ _ w.heap.size (Nat.le_refl _)) (by exact rfl) (by exact rfl) (by exact Sl.ext (Cells.stays _) HL.out.cells ((Ext.refl w).alloc _)) (fun _=>rfl) (by intro r u hu;simp [Run.cells] at hu;rcases hu with rfl | rfl | rfl | rfl | rfl<;>rfl) (by omega) (by simp [maxLen];omega) (by simp) ?_;intro v' w' hown hgr hnil);go_ret;simp only [Nat.zero_add,List.nil_append] at hown;obtain ⟨A',c',rfl,hc,_,hsl,hfr⟩:=qBg (f:=Run.cells) (size:=5) (fun _=>rfl) HL.out.len hown;exact ⟨A',c',rfl,hc,qCt.of_cells hsl,qDu.of_own hown,((Ext.refl w).alloc _).grown hgr (fun q hq=>by simp [Value.ownBlock] at hq;omega)⟩
abbrev Hd:=Option Addr × Nat × Nat
def Hd.val (h:Hd):Value:=.slice h.1 h.2.1 h.2.2
def Good (w:World) (h:Hd) (r:Row):Prop:=h.2.1≤h.2.2∧h.2.1*40≤140737488355328∧qCt w h.1 h.2.1 r
theorem Good.ext {w w1:World} {h:Hd} {r:Row} (g:Good w h r) (k:Ext w w1):Good w1 h r:=⟨g.1,g.2.1,g.2.2.ext k⟩
def Goods (w:World) (hs:List Hd) (l:List Row):Prop:=∀ (i:Nat) (h:Hd) (r:Row),hs[i]?=some h→l[i]?=some r→Good w h r
def HdsAt (w:World) (A:Option Addr) (n:Nat) (hs:List Hd):Prop:=Sl w 1 (Cells fun h=>[Hd.val h]) A n hs
theorem rows_heads {w:World} {A:Option Addr} {n:Nat} {l:List Row} (h:qFx w A n l):∃ hs:List Hd,HdsAt w A n hs∧Goods w hs l:=by
 have hall:∀ i:Nat,∃ hd:Hd,i<n→(∀ b off,A=some ⟨b,off,none⟩→w.cell? ⟨b,off+i,none⟩=some (Hd.val hd))∧∀ r,l[i]?=some r→Good w hd r:=by
  intro i
  by_cases hi:i<n
  · obtain ⟨b,off,r,hA,hr,A',n',c',h1,h2,h3,h4⟩:=h.at_ hi
    refine ⟨(A',n',c'),fun _=>⟨fun b' off' hA'=>?_,fun r' hr'=>?_⟩⟩
    · rw [hA] at hA'
      cases hA'
      rw [Nat.mul_one] at h1;exact h1
    · rw [hr] at hr'
      cases hr'
      exact ⟨h2,h3,h4⟩
  · exact ⟨(none,0,0),fun h=>absurd h hi⟩
 obtain ⟨f,hf⟩:=Classical.axiomOfChoice hall;refine ⟨(List.range n).map f,⟨by simp,fun hn=>?_⟩,?_⟩
 · obtain ⟨b,off,hA,_⟩:=h.2 hn
   refine ⟨b,off,hA,fun i x hx j u hu=>?_⟩
   have hi:i<n:=by
    have:=(List.getElem?_eq_some_iff.1 hx).1;simpa using this
   have hx':x=f i:=by
    rw [List.getElem?_map,List.getElem?_range hi] at hx;exact (Option.some.inj hx).symm
   match j,hu with
   | 0,hu =>
    have hu':u=Hd.val x:=(Option.some.inj hu).symm;subst hu' hx';simpa using (hf i hi).1 b off hA
   | j+1,hu=>simp at hu
 · intro i hd r hh hr
   have hi:i<n:=by
    have:=(List.getElem?_eq_some_iff.1 hh).1;simpa using this
   have hx':hd=f i:=by
    rw [List.getElem?_map,List.getElem?_range hi] at hh;exact (Option.some.inj hh).symm
   subst hx';exact (hf i hi).2 r hr
theorem rows_of_heads {w:World} {A:Option Addr} {n:Nat} {l:List Row} {hs:List Hd} (h:HdsAt w A n hs) (hl:l.length=n) (hg:Goods w hs l):qFx w A n l:=by
 refine ⟨hl,fun hn=>?_⟩;obtain ⟨b,off,hA,hc⟩:=h.2 hn;refine ⟨b,off,hA,fun i r hr=>?_⟩
 have hi:i<hs.length:=by
  rw [h.len,← hl];exact (List.getElem?_eq_some_iff.1 hr).1
 have hx:hs[i]?=some hs[i]:=List.getElem?_eq_getElem hi;have g:=hg i _ r hx hr;exact ⟨_,_,_,hc i _ hx 0 _ rfl,g.1,g.2.1,g.2.2⟩
def CloneHdsPost (hs:List Hd) (n:Nat) (w:World) (e:Ending) (w':World):Prop :=
 ∃ A c,e = .returned (.slice A n c)∧w'.ownsRow w.heap.size 174 1 (.slice A n c) n (hs.flatMap fun h=>[Hd.val h])∧Ext w w'
set_option maxHeartbeats 1000000 in
theorem CloneHds_any (A:Option Addr) (n c:Nat) (hs:List Hd) (w:World) (hl:HdsAt w A n hs) (hn:n*24≤140737488355328) :
 Calls Tryz.prog 230 #[.slice A n c] w (CloneHdsPost hs n w):=by
 (have hq:=fun w=>Lib.run_eql_slice_nil (P:=Tryz.prog) w 62 174 A n c 0 0 Tryz.underlying62);have HL:=gH hl;clear hl
 cases A with
 | none =>
  have hn0:n=0:=by
   rcases Nat.eq_zero_or_pos n with h | h
   · exact h
   · obtain ⟨_,_,h,_⟩:=HL.out.2 h;cases h
  subst hn0;have hs0:hs=[]:=List.eq_nil_of_length_eq_zero HL.out.len;subst hs0;simp only [Option.isNone_none] at hq;go_enter Tryz.func230,Tryz.ntmps230;go_wp2_with fail;go_ret;exact ⟨none,0,rfl,⟨rfl,.inl ⟨rfl,rfl⟩⟩,Ext.refl _⟩
 | some ad =>
  simp only [Option.isNone_some] at hq;go_enter Tryz.func230,Tryz.ntmps230;go_wp2_with (at_builtin;refine qAl rfl (.tmp 5) (.tmp 6) 62 rfl info_row Tryz.underlying62 rfl (by decide) (by exact qIt w _ _ w.heap.size (Nat.le_refl _)) (by exact rfl) (by exact rfl) (by exact Sl.ext (Cells.stays _) HL.out ((Ext.refl w).alloc _)) (fun _=>rfl) (by intro r u hu;simp at hu;subst hu;rfl) (by omega) (by simp [maxLen];omega) (by simp) ?_;intro v' w' hown hgr hnil);go_ret;simp only [Nat.zero_add,List.nil_append] at hown;obtain ⟨A',c',rfl,hc,_,hsl,hfr⟩:=qBg (f:=fun h:Hd=>[Hd.val h]) (size:=1) (fun _=>rfl) HL.out.len hown;exact ⟨A',c',rfl,hown,((Ext.refl w).alloc _).grown hgr (fun q hq=>by simp [Value.ownBlock] at hq;omega)⟩
def qCs (w:World) (L:Nat) (A:Option Addr) (n:Nat) (l:List Row):Prop :=
 ∃ hs:List Hd,HdsAt w A n hs∧Goods w hs l∧l.length=n∧qDu w 174 L A∧∀ h∈hs,qDu w 171 L h.1
theorem qCs.rows {w:World} {L:Nat} {A:Option Addr} {n:Nat} {l:List Row} (h:qCs w L A n l):qFx w A n l:=by
 obtain ⟨hs,h1,h2,h3,_⟩:=h;exact rows_of_heads h1 h3 h2
theorem qCs.le {w:World} {L L':Nat} {A:Option Addr} {n:Nat} {l:List Row} (h:qCs w L A n l) (hl:L'≤L):qCs w L' A n l:=by
 obtain ⟨hs,h1,h2,h3,h4,h5⟩:=h;exact ⟨hs,h1,h2,h3,h4.le hl,fun x hx=>(h5 x hx).le hl⟩
def Apart (g:Nat) (h:Hd):Prop:=0<h.2.1→∀ ad,h.1=some ad→ad.block≠g
theorem Sl.keep {α:Type} {C:World→Nat→Nat→α→Prop} {w w1:World} {size n:Nat} {A:Option Addr} {l:List α} (h:Sl w size C A n l) (hk:0<n→∀ b off,A=some ⟨b,off,none⟩→∀ o x,C w b o x→C w1 b o x):Sl w1 size C A n l :=
 ⟨h.1,fun hn=>(h.2 hn).elim fun b hb=>hb.elim fun off ho=>⟨b,off,ho.1,fun i x hx=>hk hn b off ho.1 _ _ (ho.2 i x hx)⟩⟩
theorem RunC.set {w:World} {b o:Nat} {r:Run} (h:RunC w b o r) {p:Addr} (hp:b≠p.block) (u:Value):RunC (w.setCell p u) b o r:=by
 have key:∀ q v,w.cell? ⟨b,q,none⟩=some v→(w.setCell p u).cell? ⟨b,q,none⟩=some v:=fun q v hv=>by
  rw [World.cell?_setCell_other w p ⟨b,q,none⟩ u (fun e=>hp (by rw [e]))];exact hv
 exact ⟨key _ _ h.1,key _ _ h.2.1,key _ _ h.2.2.1,key _ _ h.2.2.2.1,key _ _ h.2.2.2.2⟩
theorem Good.set {w:World} {h:Hd} {r:Row} (g:Good w h r) {p:Addr} (hp:Apart p.block h) (u:Value):Good (w.setCell p u) h r :=
 ⟨g.1,g.2.1,Sl.keep g.2.2 fun hn b off hA o x hx=>hx.set (hp hn _ hA) u⟩
def qEh (w:World) (L:Nat) (A:Option Addr) (n c:Nat) (l:List Row):Prop :=
 ∃ hs:List Hd,w.ownsRow L 174 1 (.slice A n c) n (hs.flatMap fun h=>[Hd.val h])∧hs.length=n∧Goods w hs l∧l.length=n∧∀ h∈hs,qDu w 171 L h.1
theorem qEh.fresh {w:World} {L:Nat} {A:Option Addr} {n c:Nat} {l:List Row} (h:qEh w L A n c l):qCs w L A n l:=by
 obtain ⟨hs,h1,h2,h3,h4,h5⟩:=h;obtain ⟨A',c',hv,_,_,hsl,_⟩:=qBg (f:=fun h:Hd=>[Hd.val h]) (size:=1) (fun _=>rfl) h2 h1;injection hv with e1 e2 e3;subst e1 e3;exact ⟨hs,hsl,h3,h4,qDu.of_own h1,h5⟩
theorem qLc {w:World} {L L':Nat} {e:TypeId} {size:Nat} {v:Value} {n:Nat} {xs:List Value} (h:w.ownsRow L e size v n xs) (hl:L'≤L):w.ownsRow L' e size v n xs:=by
 refine ⟨h.1,?_⟩
 rcases h.2 with hn | ⟨g,cap,cur,rfl,hb,rest⟩
 · exact .inl hn
 · exact .inr ⟨g,cap,cur,rfl,Nat.le_trans hl hb,rest⟩
theorem qEh.le {w:World} {L L':Nat} {A:Option Addr} {n c:Nat} {l:List Row} (h:qEh w L A n c l) (hl:L'≤L):qEh w L' A n c l:=by
 obtain ⟨hs,h1,h2,h3,h4,h5⟩:=h;exact ⟨hs,qLc h1 hl,h2,h3,h4,fun x hx=>(h5 x hx).le hl⟩
def SOwnPost (rows:List Row) (n:Nat) (w:World) (e:Ending) (w':World):Prop :=
 ∃ A c,e = .returned (.slice A n c)∧n≤c∧qEh w' w.heap.size A n c rows∧Ext w w'
def SCloneRel (w:World) (rows:List Row) (A:Option Addr) (n c:Nat) (i:Value) (wr:World):Prop :=
 ∃ (k:Nat) (hs:List Hd),k≤n∧i = .int .i64 k∧hs.length=n∧wr.ownsRow w.heap.size 174 1 (.slice A n c) n (hs.flatMap fun h=>[Hd.val h])∧Ext w wr∧Goods wr hs rows ∧
  (∀ ad,A=some ad→∀ h∈hs,Apart ad.block h)∧(∀ j h,j<k→hs[j]?=some h→qDu wr 171 w.heap.size h.1)
theorem flatMap_set (hs:List Hd) (k:Nat) (h:Hd):(hs.set k h).flatMap (fun h=>[Hd.val h])=(hs.flatMap fun h=>[Hd.val h]).set k (Hd.val h):=by
 (have e:∀ l:List Hd,(l.flatMap fun h=>[Hd.val h])=l.map Hd.val:=fun l=>by induction l<;>simp_all);rw [e,e,List.map_set]
theorem sclone_step {w wr w2:World} {rows:List Row} {n c g k:Nat} {hs:List Hd} {hd:Hd} {r:Row} {A2:Option Addr} {c2:Nat} (hlt:k<n) (hx:Ext w wr) (hx2:Ext wr w2) (hsl:hs.length=n)
 (hO:wr.ownsRow w.heap.size 174 1 (.slice (some ⟨g,0,none⟩) n c) n (hs.flatMap fun h=>[Hd.val h])) (hgb:w.heap.size≤g) (hglt:g<wr.heap.size) (hG:Goods wr hs rows)
 (hA:∀ h∈hs,Apart g h) (hF:∀ (j:Nat) (h:Hd),j<k→hs[j]?=some h→qDu wr 171 w.heap.size h.1) (hr:rows[k]?=some r) (hn40:hd.2.1*40≤140737488355328) (hnc:hd.2.1≤c2) (hru:qCt w2 A2 hd.2.1 r) (hfr:qDu w2 171 wr.heap.size A2) :
 SCloneRel w rows (some ⟨g,0,none⟩) n c (.int .i64 ((k:Int)+1)) (w2.setCell ⟨g,k,none⟩ (.slice A2 hd.2.1 c2)):=by
 (have hap:Apart g (A2,hd.2.1,c2):=fun _ ad had=>by have:=(hfr ad had).1;omega);refine ⟨k+1,hs.set k (A2,hd.2.1,c2),by omega,by simp,by simpa using hsl,?_,(hx.trans hx2).setCell hgb _,?_,?_,?_⟩
 · rw [flatMap_set]
   exact ((qAh hO hx2).stored k _).1
 · intro i h q hi hq
   by_cases hik:k=i
   · subst hik
     rw [List.getElem?_set_self (by rw [hsl];exact hlt)] at hi
     cases hi
     rw [hr] at hq
     cases hq
     exact Good.set (h:=(A2,hd.2.1,c2)) (p:=⟨g,k,none⟩) ⟨hnc,hn40,hru⟩ hap _
   · rw [List.getElem?_set_ne hik] at hi
     exact Good.set (p:=⟨g,k,none⟩) ((hG i h q hi hq).ext hx2) (hA h (List.mem_of_getElem? hi)) _
 · intro ad had h hm
   cases had
   rcases List.mem_or_eq_of_mem_set hm with h1 | h1
   · exact hA h h1
   · subst h1;exact hap
 · intro j h hj hh
   by_cases hik:k=j
   · subst hik
     rw [List.getElem?_set_self (by rw [hsl];exact hlt)] at hh
     cases hh
     exact (hfr.le hx.size).setCell _ _
   · rw [List.getElem?_set_ne hik] at hh
     exact ((hF j h (by omega) hh).ext hx2).setCell _ _
set_option maxHeartbeats 2000000 in
theorem SClone_own (A:Option Addr) (n c:Nat) (rows:List Row) (w:World) (hl:qFx w A n rows) (hn:n*24≤140737488355328) :
 Calls Tryz.prog 184 #[.slice A n c] w (SOwnPost rows n w):=by
 obtain ⟨hs0,hh0,hg0⟩:=rows_heads hl;have HLn:=gH hl.len;have HH:=gH hh0;have HG:=gH hg0;have HH0:=gH hh0.len
 have hold:Hid (∀ h∈hs0,∀ g,w.heap.size≤g→Apart g h):=by
  intro h hm g hg hp ad had;obtain ⟨i,hi⟩:=List.getElem?_of_mem hm
  have hil:i<rows.length:=by
   rw [HLn.out,← HH0.out];exact (List.getElem?_eq_some_iff.1 hi).1
  have hgd:=hg0 i h _ hi (List.getElem?_eq_getElem hil);obtain ⟨b,off,x,hA,hx,hC⟩:=hgd.2.2.at_ (i:=0) hp;rw [hA] at had
  cases had
  have:=World.block_lt_of_cell? w _ hC.1;(exact fun e=>by simp only at e this;omega)
 clear hl hh0 hg0;go_enter Tryz.func184,Tryz.ntmps184;go_wp2_with fail;refine (CloneHds_any A n c hs0 _ HH.out hn).mono ?_;rintro e w1 ⟨A1,c1,rfl,hown1,hx1⟩;have HO1:=gH hown1;clear hown1;go_wp2_with fail
 go_loopw [9] (fun i wr=>SCloneRel w rows A1 n c1 i wr) (fun i _=>n-(intOf i).toNat)
 case atStart =>
  refine ⟨0,hs0,Nat.zero_le _,rfl,HH0.out,HO1.out,hx1,fun i h r a b=>(HG.out i h r a b).ext hx1,fun ad hA h hm=>?_,fun j h hj=>absurd hj (by omega)⟩;subst hA;exact hold.out h hm _ (qAp HO1.out _ rfl)
 case round =>
  obtain ⟨k,hs,hk,rfl,hsl,hown,hx,hgd,hap,hfr⟩:=hrel;have HGd:=gH hgd;have HAp:=gH hap;have HFr:=gH hfr;have HSl:=gH hsl;have HO:=gH hown;clear hgd hap hfr hsl hown
  by_cases hlt:k<n
  · obtain ⟨g,cp,hv,hgb,hglt⟩:=qFn HO.out (by omega)
    (have hA1:A1=some ⟨g,0,none⟩:=by injection hv);subst hA1;have hcell:=gH (HO.out.cellAt k (by omega));obtain ⟨hd,hhd⟩:∃ hd,hs[k]?=some hd:=⟨_,List.getElem?_eq_getElem (by rw [HSl.out];exact hlt)⟩;obtain ⟨r,hr⟩:∃ r,rows[k]?=some r:=⟨_,List.getElem?_eq_getElem (by rw [HLn.out];exact hlt)⟩
    have hck:wr.cell? ⟨g,k,none⟩=some (.slice hd.1 hd.2.1 hd.2.2):=by
     rw [hcell.out];have:=qEx (fun h:Hd=>[Hd.val h]) 1 (fun _=>rfl) hs k hd 0 hhd (by omega);simp only [Nat.mul_one,Nat.add_zero] at this;rw [this];rfl
    have hfz:wr.frozen? ⟨g,k,none⟩=false:=HO.out.frozenAt k;have hgk:=HGd.out k hd r hhd hr;have HGk:=gH hgk;have hn40:hd.2.1*40≤140737488355328:=hgk.2.1;have HHd:=gH hhd;have HRr:=gH hr;clear hgk hhd hr;go_wp2_with fail;refine (CloneRuns_any hd.1 hd.2.1 hd.2.2 r _ HGk.out.2.2 hn40).mono ?_;rintro e w2 ⟨A2,c2,rfl,hnc2,hru2,hfr2,hx2⟩;have hck2:w2.cell? ⟨g,k,none⟩=some (.slice hd.1 hd.2.1 hd.2.2):=hx2.cell hck;have hfz2:w2.frozen? ⟨g,k,none⟩=false:=hx2.frozen hck hfz;have HRu2:=gH hru2;clear hru2 hck hfz;go_wp2_with fail;exact ⟨sclone_step hlt hx hx2 HSl.out HO.out hgb hglt HGd.out (fun h hm=>HAp.out _ rfl h hm) HFr.out HRr.out hn40 hnc2 HRu2.out hfr2,by simp [intOf];omega⟩
  · have hkn:k=n:=by omega
    subst hkn;go_wp2_with fail;go_ret;obtain ⟨A',c',hv,hc,_,hsl',hfr'⟩:=qBg (f:=fun h:Hd=>[Hd.val h]) (size:=1) (fun _=>rfl) HSl.out HO.out;injection hv with hv1 hv2 hv3;subst hv1 hv3;refine ⟨A1,c1,rfl,hc,⟨hs,HO.out,HSl.out,HGd.out,HLn.out,fun h hm=>?_⟩,hx⟩;obtain ⟨j,hj⟩:=List.getElem?_of_mem hm;exact HFr.out j h (by rw [← HSl.out];exact (List.getElem?_eq_some_iff.1 hj).1) hj
end
section
open Go.RowKit Go.ChangeShapes Go.WideShapes Go.ChangeAt
set_option maxRecDepth 100000
theorem cells_color:Tryz.prog.cellsOf 167=1:=by kernel_rfl
theorem qOb:Tryz.prog.cellsOf 169=3:=by kernel_rfl
theorem cells_run:Tryz.prog.cellsOf 171=5:=by kernel_rfl
theorem cells_row:Tryz.prog.cellsOf 174=1:=by kernel_rfl
theorem cells_runs:Tryz.prog.cellsOf 172=1:=by kernel_rfl
theorem cells_rows:Tryz.prog.cellsOf 62=1:=by kernel_rfl
theorem cells_kind:Tryz.prog.cellsOf 61=1:=by kernel_rfl
theorem qOo:Tryz.prog.cellsOf 64=7:=by kernel_rfl
theorem bytes_run:Tryz.prog.bytesOf 171=40:=by kernel_rfl
theorem bytes_row:Tryz.prog.bytesOf 174=24:=by kernel_rfl
theorem open_style (W:World):qBr Tryz.prog W 169 (fun cs (a:Int × Bool × Bool)=>cs=[.int .u8 a.1,.bool a.2.1,.bool a.2.2]∧0≤a.1∧a.1≤255):=by
 intro H enc fuel cs x h hw;obtain ⟨hl,hf⟩:=qBr.fields Tryz.underlying169 h hw;rw [qOb] at hl;obtain ⟨v0,v1,v2,rfl⟩:=qHg hl;obtain ⟨a0,h0,s0⟩:=hf 0 _ rfl (qBr.int Tryz.underlying167);obtain ⟨a1,h1⟩:=hf 1 _ rfl (qBr.bool Tryz.underlying4);obtain ⟨a2,h2⟩:=hf 2 _ rfl (qBr.bool Tryz.underlying4);simp [cells_color,qHe] at h0 h1 h2;subst h0 h1 h2;exact ⟨(a0,a1,a2),rfl,bounds_u8 s0⟩
end
section
open Go.RowKit
def qJj:Int→List Int→Int
 | s,[]=>s
 | s,n :: l=>if n<0 then -1 else qJj (s+n) l
def Ev.len (e:Ev):Int:=qJj (max ((e.rows.length:Int)-1) 0) (e.rows.map qAq)
def Ev.bytes (e:Ev):Nat:=(e.rows.map qAk).sum
theorem qOl:∀ l:Row,qAq l≤qAk l
 | []=>by simp [qAq,qAk]
 | r :: l=>by
  have h1:=qOl l;have h2:=clen_le r.text;rw [rowBytes_cons];unfold qAq
  split
  · omega
  · split<;>omega
theorem qPe (l:List Row) (k:Nat) (r:Row) (h:l[k]?=some r):((l.take k).map qAk).sum+qAk r≤(l.map qAk).sum:=by
 have e:=List.take_append_drop k l
 have h1:(l.map qAk).sum=((l.take k).map qAk).sum+((l.drop k).map qAk).sum:=by
  conv=>lhs;rw [← e]
  rw [List.map_append,List.sum_append]
 rw [h1,qDe l k r h];simp
def ELenRel (n:Nat) (e:Ev) (v i:Value):Prop :=
 ∃ (k:Nat) (s:Int),k≤n∧i = .int .i64 k∧v = .int .i64 s∧0≤s∧s≤n+((e.rows.take k).map qAk).sum∧e.len=qJj s ((e.rows.map qAq).drop k)
set_option maxHeartbeats 2000000 in
theorem ELen_any (e:Ev) (A:Option Addr) (n c:Nat) (w:World) (hE:Env w) (he:EvAt w e A n c) (hb:∀ r∈e.rows,qNy r) (hby:e.bytes≤1099511627776) :
 Calls Tryz.prog 199 #[.agg (e.cells A n c)] w fun en w'=>en = .returned (.int .i64 e.len)∧Ext w w':=by
 (have hn24:n*24≤140737488355328:=by have:=he.2;omega);have HL:=gH (fun w hE he=>lens_any e A n c w hE he hb);have HA:=gH he;have HLn:=gH he.len;have HEn:=gH hE;clear he hE hb;unfold Ev.cells at HL ⊢;go_enter Tryz.func199,Tryz.ntmps199;go_wp2_with fail;refine (HL.out _ (HEn.out.ext ((Ext.refl w).alloc _)) (HA.out.ext ((Ext.refl w).alloc _))).mono ?_;rintro en w1 ⟨A1,n1,c1,rfl,hints,hnc1,hx1⟩;have hxw1:Ext w w1:=((Ext.refl w).alloc _).trans hx1;(obtain rfl:n=n1:=by rw [← HLn.out,← hints.len,List.length_map]);have HI:=gH hints;clear hints;go_wp2_with fail;go_loop [3,14] (fun v i=>ELenRel n e v i) (fun _ i=>n-(intOf i).toNat)
 case atStart=>exact ⟨0,_,Nat.zero_le _,rfl,rfl,by omega,by simp;omega,by unfold Ev.len;rw [HLn.out];rfl⟩
 case round =>
  obtain ⟨k,s,hk,rfl,rfl,hs0,hs1,hp⟩:=hrel;have HP:=gH hp;clear hp
  by_cases hlt:k<n
  · obtain ⟨b,off,x,rfl,hxx,hcell⟩:=HI.out.cell hlt
    have HD:=gH (qDe _ k x hxx);rw [List.getElem?_map] at hxx;obtain ⟨r,hr,rfl⟩:=Option.map_eq_some_iff.1 hxx;have h1:=qPe e.rows k r hr;have h2:=qOl r
    have h3:Hid (((e.rows.take (k+1)).map qAk).sum=((e.rows.take k).map qAk).sum+qAk r):=by
     show _=_
     rw [take_snoc' e.rows k r hr,List.map_append,List.sum_append];simp
    have hby':(e.rows.map qAk).sum≤1099511627776:=hby;(have hs2:s+qAq r≤4611686018427387904:=by omega);(have hs3:s≤4611686018427387904:=by omega);clear hr hxx h1 hby'
    by_cases hneg:qAq r<0
    · go_wp2_with fail
      go_ret;exact ⟨qAa (by rw [HP.out,HD.out,qJj,if_pos (by omega)]),hxw1⟩
    · go_wp2_with fail
      refine ⟨⟨k+1,s+qAq r,by omega,by go_num,rfl,by omega,?_,?_⟩,by simp [intOf];omega⟩
      · rw [h3.out];omega
      · rw [HP.out,HD.out,qJj,if_neg (by omega)]
  · have HD:Hid ((e.rows.map qAq).drop k=[]):=List.drop_eq_nil_of_le (by rw [List.length_map,HLn.out];omega)
    go_wp2_with fail;go_ret;exact ⟨qAa (by rw [HP.out,HD.out];rfl),hxw1⟩
end
section
open Go.RowKit
def qGg (l:List Reg):Prop:=∀ r∈l,r.name.size≤9223372036854775807
theorem findR_small {l:List Reg} {nm:ByteArray} (h:qGg l):((qFo l nm).getD Reg.zero).name.size≤9223372036854775807:=by
 unfold qFo
 split
 · show ByteArray.empty.size≤_
   decide
 · cases hf:l.find? (fun r=>r.name.toList == nm.toList) with
   | none=>show ByteArray.empty.size≤_;decide
   | some r=>exact h r (List.mem_of_find?_eq_some hf)
end
section
open Go.RowKit Go.ChangeShapes Go.WideShapes Go.ChangeAt
def qCa {α:Type} (P:Program) (W:World) (t:TypeId) (R:Nat→List Value→α→Prop):Prop :=
 ∀ (H:Type) (enc:TypeId × Value→H) (fuel:Nat) (cs:List Value) (x:DataW H × List MemPlace),DataW.trod enc P W 0 (fun _=>true) true fuel t cs=some x→(∀ n∈x.1.weights P t,n≤reachBytes)→∃ a,R (Rows.uptoBulk x.1) cs a
theorem bulkAll_map {H β:Type} (l:List (DataW H × β)):Rows.uptoBulkAll (l.map (·.1))=(l.map fun x=>Rows.uptoBulk x.1).sum:=by
 induction l with
 | nil=>simp [Rows.uptoBulkAll]
 | cons x l ih=>simp only [List.map_cons,Rows.uptoBulkAll,ih,List.sum_cons]
theorem bulk_at {H:Type}:∀ {l:List (DataW H)} {i:Nat} {d:DataW H},l[i]?=some d→Rows.uptoBulk d≤Rows.uptoBulkAll l
 | [],_,_,h=>by simp at h
 | x :: l,0,d,h=>by simp at h;subst h;simp only [Rows.uptoBulkAll];omega
 | x :: l,i+1,d,h=>by have:=bulk_at (l:=l) (i:=i) (by simpa using h);simp only [Rows.uptoBulkAll];omega
theorem qCa.slice {α:Type} {P:Program} {W:World} {t e:TypeId} {s bts:Nat} {R:Nat→List Value→α→Prop} (ht:P.underlying t=some (.slice e)) (hc:P.cellsOf e=s) (hs:0<s) (hb:P.bytesOf e=bts) (hR:qCa P W e R)
 {H:Type} {enc:TypeId × Value→H} {fuel:Nat} {cs:List Value} {x:DataW H × List MemPlace} (h:DataW.trod enc P W 0 (fun _=>true) true fuel t cs=some x) (hw:∀ n∈x.1.weights P t,n≤reachBytes) :
 ∃ A n c,∃ l:List (α × Nat),cs=[.slice A n c]∧n≤c∧c≤maxLen∧c*bts≤reachBytes∧Sl W s (fun w b o p=>Mem (R p.2) w b o p.1) A n l∧(l.map (·.2)).sum+1≤Rows.uptoBulk x.1:=by
 rcases DataW.trod_slice ht h with ⟨rfl,rfl⟩ | ⟨ad,len,cap,elems,rest,n,rfl,rfl,rfl,_,hlc,hcm,hel,hat,hsp,_⟩
 · exact ⟨none,0,0,[],rfl,Nat.le_refl _,by simp [maxLen],by simp [reachBytes],Sl.nil,by simp [Rows.uptoBulk]⟩
 · obtain ⟨hrl,_⟩:=hsp rfl
   simp only [DataW.weights,ht,List.mem_cons,List.mem_append,List.length_map] at hw
   have hcap:cap*bts≤reachBytes:=by
    have:=hw _ (.inl rfl);rw [hel,hrl,hb,show len+(cap-len)=cap by omega] at this;exact this
   have hall:∀ i (hi:i<elems.length),∃ a b off,ad=⟨b,off,none⟩∧Mem (R (Rows.uptoBulk elems[i].1)) W b (off+i*s) a:=by
    intro i hie;(have hi:i<len:=by omega);have h1:=hat i hi;rw [List.getElem?_eq_getElem hie,Option.bind_eq_some_iff] at h1;obtain ⟨cs',h2,h3⟩:=h1;obtain ⟨a,ha⟩:=hR H enc n cs' _ h3 (fun m hm=>hw m (.inr (.inl (qGx (List.mem_map.2 ⟨_,List.getElem_mem hie,rfl⟩) hm))));obtain ⟨_,hcl,hcc⟩:=World.cells?_some h2;rw [hc] at hcl hcc;obtain ⟨b,off,sp⟩:=ad;refine ⟨a,b,off,?_,cs',fun j u hu=>?_,ha⟩
    · have hz:=hat 0 (by omega)
      rw [List.getElem?_eq_getElem (show 0<elems.length by omega),Option.bind_eq_some_iff] at hz;obtain ⟨cz,hz2,_⟩:=hz;obtain ⟨_,hzl,hzc⟩:=World.cells?_some hz2;rw [hc] at hzl hzc;have:=hzc 0 hs;rw [List.getElem?_eq_getElem (show 0<cz.length by omega)] at this;simp only [Nat.zero_mul,Addr.add,if_true] at this;rw [qKs this]
    · have hj:j<s:=by rw [← hcl];exact (List.getElem?_eq_some_iff.1 hu).1
      have h4:=hcc j hj;rw [hu] at h4;(have e1:(⟨b,off+i*s+j,none⟩:Addr)=(Addr.add ⟨b,off,none⟩ (i*s)).add j:=by rw [Addr.add_mid,Addr.add_mid]);rw [e1]
      by_cases hz:i*s+j=0
      · have hi0:i*s=0:=by omega
        (have hj0:j=0:=by omega);rw [hi0,hj0] at h4 ⊢;simp only [Addr.add,if_true] at h4 ⊢;obtain rfl:=qKs h4;exact h4
      · have e2:(Addr.add ⟨b,off,sp⟩ (i*s)).add j=(Addr.add ⟨b,off,none⟩ (i*s)).add j:=by
         simp only [Addr.add]
         by_cases h5:i*s=0
         · rw [if_pos h5,if_pos h5,if_neg (by omega),if_neg (by omega)]
         · rw [if_neg h5,if_neg h5]
        rw [e2] at h4;exact h4
   have hbk:∀ l:List (α × Nat),l.map (·.2)=elems.map (fun y=>Rows.uptoBulk y.1)→(l.map (·.2)).sum+1≤Rows.uptoBulk (DataW.slice (elems.map (·.1)) (rest.map (·.1))):=fun l hl=>by
    rw [hl];simp only [Rows.uptoBulk,bulkAll_map];omega
   by_cases h0:len=0
   · subst h0
     exact ⟨some ad,0,cap,[],rfl,hlc,hcm,hcap,Sl.nil,hbk [] (by rw [List.eq_nil_of_length_eq_zero hel];rfl)⟩
   · obtain ⟨_,b,off,rfl,_⟩:=hall 0 (by omega)
     have key:∀ (es:List (DataW H × List MemPlace)) (k:Nat),(∀ i (hi:i<es.length),∃ a,Mem (R (Rows.uptoBulk es[i].1)) W b (off+(k+i)*s) a) →
      ∃ l:List (α × Nat),l.length=es.length∧(∀ i p,l[i]?=some p→Mem (R p.2) W b (off+(k+i)*s) p.1)∧l.map (·.2)=es.map (fun y=>Rows.uptoBulk y.1):=by
      intro es
      induction es with
      | nil=>intro k _;exact ⟨[],rfl,fun i p h=>by simp at h,rfl⟩
      | cons y es ih =>
       intro k hes;obtain ⟨a,ha⟩:=hes 0 (by simp)
       obtain ⟨l,h1,h2,h3⟩:=ih (k+1) (fun i hi=>by
        obtain ⟨a,ha⟩:=hes (i+1) (by simp;omega);refine ⟨a,?_⟩;rw [show k+1+i=k+(i+1) by omega]
        exact ha)
       refine ⟨(a,Rows.uptoBulk y.1) :: l,by simp [h1],fun i p hp=>?_,by simp [h3]⟩
       match i,hp with
       | 0,hp=>simp at hp;subst hp;exact ha
       | i+1,hp =>
        have:=h2 i p (by simpa using hp);rw [show k+1+i=k+(i+1) by omega] at this;exact this
     obtain ⟨l,h1,h2,h3⟩:=key elems 0 (fun i hi=>by
      obtain ⟨a,b',off',he,hm⟩:=hall i hi
      cases he
      exact ⟨a,by rw [Nat.zero_add];exact hm⟩)
     refine ⟨_,len,cap,l,rfl,hlc,hcm,hcap,⟨by omega,fun _=>⟨b,off,rfl,fun i p hp=>?_⟩⟩,hbk l h3⟩;have:=h2 i p hp;rw [Nat.zero_add] at this;exact this
theorem qCa.of {α:Type} {P:Program} {W:World} {t:TypeId} {R:List Value→α→Prop} (h:qBr P W t R):qCa P W t (fun _ cs a=>R cs a):=fun H enc fuel cs x h1 h2=>h H enc fuel cs x h1 h2
theorem qCa.string {P:Program} {W:World} {t:TypeId} (ht:P.underlying t=some .string):qCa P W t (fun k cs (a:ByteArray)=>cs=[.string a]∧a.size+1≤k) :=
 fun _ _ _ _ _ h _=>by
  obtain ⟨s,h1,h2,_⟩:=DataW.trod_string ht h;subst h2;exact ⟨s,h1,by simp [Rows.uptoBulk]⟩
theorem qCa.fields {P:Program} {W:World} {t:TypeId} {fs:Array Field} (ht:P.underlying t=some (.struct fs)) {H:Type} {enc:TypeId × Value→H} {fuel:Nat} {cs:List Value} {x:DataW H × List MemPlace}
 (h:DataW.trod enc P W 0 (fun _=>true) true fuel t cs=some x) (hw:∀ n∈x.1.weights P t,n≤reachBytes) :
 cs.length=P.cellsOf t∧∃ ks:List Nat,ks.sum≤Rows.uptoBulk x.1∧ks.length=fs.size∧∀ (i:Nat) (f:Field),fs[i]?=some f→∀ {α:Type} {R:Nat→List Value→α→Prop},qCa P W f.type R→∃ a,R (ks.getD i 0) ((cs.drop f.offset).take (P.cellsOf f.type)) a:=by
 obtain ⟨xs,n,rfl,rfl,hl,hlen,hf⟩:=DataW.trod_struct ht h;refine ⟨hl,xs.map (fun y=>Rows.uptoBulk y.1),by simp only [Rows.uptoBulk,bulkAll_map];omega,by simpa using hlen,fun i f hif α R hR=>?_⟩;have h1:=hf i f hif;(have hi:i<xs.length:=by rw [hlen];exact (Array.getElem?_eq_some_iff.1 hif).1);rw [List.getElem?_eq_getElem hi] at h1;(have hk:(xs.map (fun y=>Rows.uptoBulk y.1)).getD i 0=Rows.uptoBulk xs[i].1:=by simp [hi]);rw [hk];refine hR H enc n _ _ h1 (fun m hm=>hw m ?_);simp only [DataW.weights,ht];refine qEj (i:=i) (t:=f.type) (d:=xs[i].1) ?_ ?_ hm
 · rw [List.getElem?_map]
   (have:fs.toList[i]?=some f:=by simpa using hif);(rw [this];rfl)
 · rw [List.getElem?_map,List.getElem?_eq_getElem hi];rfl
theorem Sl.mapK {α:Type} {C:World→Nat→Nat→α × Nat→Prop} {D:World→Nat→Nat→α→Prop} {w:World} {size n:Nat} {A:Option Addr} {l:List (α × Nat)} (h:Sl w size C A n l) (hcd:∀ b o p,C w b o p→D w b o p.1):Sl w size D A n (l.map (·.1)):=by
 refine ⟨by simpa using h.1,fun hn=>?_⟩;obtain ⟨b,off,hA,hc⟩:=h.2 hn;refine ⟨b,off,hA,fun i x hx=>?_⟩;rw [List.getElem?_map,Option.map_eq_some_iff] at hx;obtain ⟨p,hp,rfl⟩:=hx;exact hcd _ _ _ (hc i p hp)
theorem qOx {α:Type} {f:α→Nat}:∀ {l:List (α × Nat)},(∀ p∈l,f p.1≤p.2)→((l.map (·.1)).map f).sum≤(l.map (·.2)).sum
 | [],_=>by simp
 | p :: l,h=>by
  have h1:=h p (List.mem_cons_self ..);(have h2:=qOx (l:=l) fun q hq=>h q (List.mem_cons_of_mem _ hq));simp only [List.map_cons,List.sum_cons];omega
theorem le_sum {α:Type} {f:α→Nat}:∀ {l:List α} {x:α},x∈l→f x≤(l.map f).sum
 | [],_,h=>by cases h
 | y :: l,x,h=>by
  simp only [List.map_cons,List.sum_cons]
  cases List.mem_cons.1 h with
  | inl e=>subst e;omega
  | inr e=>have:=le_sum (f:=f) e;omega
set_option maxRecDepth 100000
theorem openK_style (W:World):qCa Tryz.prog W 169 (fun _ cs (a:Int × Bool × Bool)=>cs=[.int .u8 a.1,.bool a.2.1,.bool a.2.2]∧0≤a.1∧a.1≤255):=.of (open_style W)
theorem openK_run (W:World):qCa Tryz.prog W 171 (fun k cs (r:Run)=>cs=[.string r.text,.int .u8 r.color,.bool r.italic,.bool r.under,.string r.ruby]∧r.text.size+r.ruby.size≤k):=by
 intro H enc fuel cs x h hw;obtain ⟨hl,ks,hks,hkl,hf⟩:=qCa.fields Tryz.underlying171 h hw;rw [cells_run] at hl;obtain ⟨v0,v1,v2,v3,v4,rfl⟩:=list_5 hl;obtain ⟨k0,k1,k2,rfl⟩:=qHg (show ks.length=3 from hkl);obtain ⟨a0,h0,s0⟩:=hf 0 _ rfl (qCa.string Tryz.underlying9);obtain ⟨⟨a1,a2,a3⟩,h1,s1⟩:=hf 1 _ rfl (openK_style W);obtain ⟨a4,h4,s4⟩:=hf 2 _ rfl (qCa.string Tryz.underlying9);simp [qCz,qOb] at h0 h1 h4 s0 s4;obtain ⟨h1,h2,h3⟩:=h1;subst h0 h1 h2 h3 h4;simp at hks;exact ⟨⟨a0,a1,a2,a3,a4⟩,rfl,by simp only;omega⟩
def qMg (r:Run):Nat:=r.text.size+r.ruby.size
def qGf (r:Row):Nat:=(r.map qMg).sum
def qIw (l:List Row):Nat:=(l.map qGf).sum
theorem qPi (r:Row):qAk r≤qGf r:=by
 unfold qAk qGf
 induction r with
 | nil=>simp
 | cons x r ih=>simp only [List.map_cons,List.sum_cons,qMg];omega
theorem openK_row (W:World):qCa Tryz.prog W 174 (fun k cs (r:Row)=>(∃ A n c,cs=[.slice A n c]∧n≤c∧n*40≤140737488355328∧qCt W A n r)∧qGf r≤k):=by
 intro H enc fuel cs x h hw;obtain ⟨hl,ks,hks,hkl,hf⟩:=qCa.fields Tryz.underlying174 h hw;rw [cells_row] at hl;obtain ⟨v0,rfl⟩:=qEq hl;obtain ⟨k0,rfl⟩:=qEq (show ks.length=1 from hkl)
 obtain ⟨r,h0,hb⟩:=hf 0 _ rfl (R:=fun k cs (r:Row)=>(∃ A n c,cs=[.slice A n c]∧n≤c∧n*40≤140737488355328∧qCt W A n r)∧qGf r≤k) (fun H enc fuel cs x h hw=>by
  obtain ⟨A,n,c,l,rfl,hnc,_,hb,hs,hk⟩:=qCa.slice Tryz.underlying172 cells_run (by decide) bytes_run (openK_run W) h hw;(have hn:n*40≤140737488355328:=by simp only [reachBytes] at hb;omega);refine ⟨l.map (fun p:Run × Nat=>p.1),⟨A,n,c,rfl,hnc,hn,Sl.mapK (D:=RunC) hs fun b o p hm=>?_⟩,?_⟩
  · obtain ⟨cs,h1,h2,_⟩:=hm
    subst h2;exact ⟨h1 0 _ rfl,h1 1 _ rfl,h1 2 _ rfl,h1 3 _ rfl,h1 4 _ rfl⟩
  · have:=qOx (f:=qMg) (l:=l) (fun p hp=>by
     have:=hs.all (p:=fun p=>qMg p.1≤p.2) (fun b o q hm=>by obtain ⟨_,_,_,h3⟩:=hm;exact h3) p hp
     exact this)
    unfold qGf
    omega)
 simp [cells_runs] at h0 hb hks;exact ⟨r,by simpa using h0,by omega⟩
def Ev.bulk (e:Ev):Nat:=qIw e.rows+e.region.size+e.speaker.size
theorem qNc:Tryz.prog.cellsOf 105=7:=by kernel_rfl
theorem bytes_region:Tryz.prog.bytesOf 105=56:=by kernel_rfl
theorem open_region (W:World):qBr Tryz.prog W 105 (fun cs (r:Reg)=>cs=[.string r.name,.int .i64 r.top,.int .i64 r.height,.int .i64 r.left,.int .i64 r.width,.int .u8 r.align,.bool r.bottom]∧r.name.size≤140737488351232):=by
 intro H enc fuel cs x h hw;obtain ⟨hl,hf⟩:=qBr.fields Tryz.underlying105 h hw;rw [qNc] at hl;obtain ⟨v0,v1,v2,v3,v4,v5,v6,rfl⟩:=list_7 hl;obtain ⟨a0,h0,s0⟩:=hf 0 _ rfl (qBr.string Tryz.underlying9);obtain ⟨a1,h1,s1⟩:=hf 1 _ rfl (qBr.int Tryz.underlying3);obtain ⟨a2,h2,s2⟩:=hf 2 _ rfl (qBr.int Tryz.underlying3);obtain ⟨a3,h3,s3⟩:=hf 3 _ rfl (qBr.int Tryz.underlying3);obtain ⟨a4,h4,s4⟩:=hf 4 _ rfl (qBr.int Tryz.underlying3);obtain ⟨a5,h5,s5⟩:=hf 5 _ rfl (qBr.int Tryz.underlying103);obtain ⟨a6,h6⟩:=hf 6 _ rfl (qBr.bool Tryz.underlying4);simp [qCz,cells_int,qHe,show Tryz.prog.cellsOf 103=1 by kernel_rfl] at h0 h1 h2 h3 h4 h5 h6;subst h0 h1 h2 h3 h4 h5 h6;exact ⟨⟨a0,a1,a2,a3,a4,a5,a6⟩,rfl,s0⟩
end
section
open Go.RowKit
def qAo:List Row→Int
 | []=>0
 | r :: l=>if qBp r=0 then qAo l else qBp r
def Ev.err (e:Ev) (regs:List Reg):Int :=
 if e.id<1∨1099511627776<e.id∨qFh e.inn e.out=false then 2
 else match qFo regs e.region with
 | none=>6
 | some r =>
  if qIa e.kind=true then 3
  else if e.speaker.toList.isEmpty=false∧qBm e.speaker=false then 5
  else if e.rows.length=0∨4<e.rows.length then 9
  else if qAo e.rows≠0 then qAo e.rows
  else r.place (e.rows.map qAq)
def ChkRel (w:World) (n:Nat) (rows:List Row) (i:Value) (wr:World):Prop:=∃ k:Nat,k≤n∧i = .int .i64 k∧Ext w wr∧qAo rows=qAo (rows.drop k)
set_option maxHeartbeats 8000000 in
theorem ECheck_any (e:Ev) (A:Option Addr) (n c:Nat) (A2:Option Addr) (n2 c2:Nat) (regs:List Reg) (w:World) (hE:Env w) (he:EvAt w e A n c) (hb:EvSmall e) (hr:qDs w A2 n2 regs) (hr2:n2≤9223372036854775807) (hrs:qGg regs) :
 Calls Tryz.prog 71 #[.agg (e.cells A n c),.slice A2 n2 c2] w fun en w'=>en = .returned (.int .i64 (e.err regs))∧Ext w w':=by
 (have hn24:n * 24≤140737488355328:=by have:=he.2;omega);have HL:=gH (fun w hE he=>lens_any e A n c w hE he hb.2.2);have HA:=gH he;have HLn:=gH he.len;have HEn:=gH hE;have HR:=gH hr;have HSm:=gH hb.2.2;have hspk:=hb.2.1;have hsm:=findR_small (nm:=e.region) hrs;clear he hE hr hb;unfold Ev.cells at HL ⊢;have HPl:=gH (fun A n c lens w hl hn=>Place_any ((qFo regs e.region).getD Reg.zero) A n c lens w hsm hl hn);go_enter Tryz.func71,Tryz.ntmps71;go_wp2_with fail;refine (Find_any A2 n2 c2 regs e.region _ (HR.out.ext ((Ext.refl w).alloc _)) hr2).mono ?_;rintro en w1 ⟨rfl,hx1⟩;have HB1:=gH (Blk.ext (Blk.new w _ _) hx1);have hxw1:Ext w w1:=((Ext.refl w).alloc _).trans hx1;have hblt:w.heap.size<w1.heap.size:=HB1.out.lt;(have hbne:w.heap.size≠w1.heap.size:=by omega);(have hc1:=fun o=>HB1.out.cell o);generalize hfr:(qFo regs e.region).getD Reg.zero=r at *;have HFr:=gH hfr;clear hfr hsm;unfold Reg.val at HPl ⊢
 by_cases h1:e.id<1
 · go_wp2_with fail
   go_ret;exact ⟨qAa (by unfold Ev.err;rw [if_pos (by omega)]),hxw1.alloc _⟩
 · by_cases h2:1099511627776<e.id
   · go_wp2_with fail
     go_ret;exact ⟨qAa (by unfold Ev.err;rw [if_pos (by omega)]),hxw1.alloc _⟩
   · go_wp2_with fail
     refine (spans_any _ _ _).mono ?_;rintro en w2 ⟨rfl,hx2⟩;have hxw2:Ext w w2:=(hxw1.alloc _).trans hx2;have HBa:=gH ((HB1.out.alloc (.cells #[.string r.name,.int .i64 r.top,.int .i64 r.height,.int .i64 r.left,.int .i64 r.width,.int .u8 r.align,.bool r.bottom] 105)).ext hx2);have HBr:=gH (Blk.ext (Blk.new w1 _ _) hx2);clear hc1;(have hca:=fun o=>HBa.out.cell o)
     cases hs:qFh e.inn e.out
     · have HSp:=gH hs
       clear hs;go_wp2_with fail;go_ret;exact ⟨qAa (by unfold Ev.err;rw [if_pos (.inr (.inr HSp.out))]),hxw2⟩
     · have HSp:=gH hs
       clear hs
       have HE1:Hid (¬ (e.id<1∨1099511627776<e.id∨qFh e.inn e.out=false)):=by
        show ¬ _
        rw [HSp.out];simp;omega
       cases hf:qFo regs e.region with
       | none =>
        (have HF:Hid (e.err regs=6):=by show _=_;unfold Ev.err;rw [if_neg HE1.out,hf]);clear hf;simp only [Option.isSome_none];go_wp2_with fail;go_ret;exact ⟨qAa HF.out.symm,hxw2⟩
       | some r' =>
        obtain rfl:r'=r:=by have:=HFr.out;rw [hf] at this;exact this
        have HF:Hid (e.err regs=if qIa e.kind=true then 3 else if e.speaker.toList.isEmpty=false∧qBm e.speaker=false then 5 else if e.rows.length=0∨4<e.rows.length then 9 else if qAo e.rows≠0 then qAo e.rows else r'.place (e.rows.map qAq)):=by
         show _=_;unfold Ev.err;rw [if_neg HE1.out,hf]
        clear hf HE1;simp only [Option.isSome_some];go_wp2_with fail;refine (KindName_any _ _).mono ?_;rintro en w3 ⟨s,rfl,hke,hx3⟩;have hxw3:Ext w w3:=hxw2.trans hx3;have HBa3:=gH (HBa.out.ext hx3);have HBr3:=gH (HBr.out.ext hx3);clear hca;(have hca:=fun o=>HBa3.out.cell o)
        cases hnk:qIa e.kind
        · rw [hnk] at hke
          have HNk:=gH hnk;clear hnk
          cases hse:e.speaker.toList.isEmpty
          · go_wp2_with fail
            refine (qDr _ _ hspk).mono ?_;rintro en w4 ⟨rfl,rfl⟩
            cases hnm:qBm e.speaker
            · have HNm:=gH hnm
              clear hnm;go_wp2_with fail;go_ret;exact ⟨qAa (by rw [HF.out,if_neg (by rw [HNk.out];simp),if_pos ⟨hse,HNm.out⟩]),hxw3⟩
            · have HF2:Hid (e.err regs=if e.rows.length=0∨4<e.rows.length then 9 else if qAo e.rows≠0 then qAo e.rows else r'.place (e.rows.map qAq)):=by
               show _=_;rw [HF.out,if_neg (by rw [HNk.out];simp),if_neg (by rw [hnm];simp)]
              clear hnm
              by_cases h5:n=0
              · subst h5
                go_wp2_with fail;go_ret;exact ⟨qAa (by rw [HF2.out,if_pos (.inl HLn.out)]),hxw3⟩
              · have h5':((n:Int) == 0)=false:=by simp;omega
                by_cases h6:4<n
                · have h6':(4:Int)<(n:Int):=by omega
                  clear h5;go_wp2_with fail;go_ret;exact ⟨qAa (by rw [HF2.out,if_pos (.inr (by rw [HLn.out];exact h6))]),hxw3⟩
                · have h6':(n:Int)≤4:=by omega
                  (have HF3:Hid (e.err regs=if qAo e.rows≠0 then qAo e.rows else r'.place (e.rows.map qAq)):=by show _=_;rw [HF2.out,if_neg (by rw [HLn.out];omega)]);clear HF2 h5 h6;go_wp2_with fail;clear hca
                  go_loopw [66] (fun i wr=>ChkRel w3 n e.rows i wr) (fun i _=>n-(intOf i).toNat)
                  case atStart=>exact ⟨0,Nat.zero_le _,rfl,Ext.refl _,rfl⟩
                  case round =>
                   obtain ⟨k,hk,rfl,hx,hp⟩:=hrel;have HP:=gH hp;clear hp;have hxw:Ext w wr:=hxw3.trans hx
                   by_cases hlt:k<n
                   · obtain ⟨b,off,rw_,rfl,hrw,A',n',c',hcell,hnc,hc40,hruns⟩:=(HA.out.ext hxw).1.at_ hlt
                     simp only [Nat.mul_one] at hcell;have HRu:=gH hruns;have HD:=gH (qDe e.rows k rw_ hrw);have hsmr:=HSm.out rw_ (List.mem_of_getElem? hrw);have HSr:=gH hsmr;clear hrw hruns hsmr;go_wp2_with fail;refine (row_any A' n' c' rw_ _ (HEn.out.ext (hxw.alloc _)) (HRu.out.ext ((Ext.refl wr).alloc _)) HSr.out.2 (by omega) HSr.out.1).mono ?_;rintro en w4 ⟨rfl,hx4⟩
                     by_cases hre:qBp rw_=0
                     · have hre':(qBp rw_ != 0)=false:=by simp [hre]
                       (have HP2:Hid (qAo e.rows=qAo (e.rows.drop (k+1))):=by show _=_;rw [HP.out,HD.out,qAo,if_pos hre]);clear hre;go_wp2_with fail;exact ⟨⟨k+1,by omega,by go_num,(hx.alloc _).trans hx4,HP2.out⟩,by simp [intOf];omega⟩
                     · have hre':(qBp rw_ != 0)=true:=by simp [hre]
                       (have HP2:Hid (qAo e.rows=qBp rw_):=by show _=_;rw [HP.out,HD.out,qAo,if_neg hre]);have HNe:=gH hre;clear hre;go_wp2_with fail;go_ret;exact ⟨qAa (by rw [HF3.out,HP2.out,if_pos HNe.out]),(hxw.alloc _).trans hx4⟩
                   · have HD:Hid (e.rows.drop k=[]):=List.drop_eq_nil_of_le (by rw [HLn.out];omega)
                     (have HF4:Hid (e.err regs=r'.place (e.rows.map qAq)):=by show _=_;rw [HF3.out,HP.out,HD.out,if_neg (by simp [qAo])]);have y0:=(HBa3.out.ext hx).cell;have y1:=(HBr3.out.ext hx).cell;have y00:=y0 0;have y01:=y0 1;have y02:=y0 2;have y03:=y0 3;have y04:=y0 4;have y05:=y0 5;have y06:=y0 6;have y10:=y1 0;have y11:=y1 1;have y12:=y1 2;have y13:=y1 3;have y14:=y1 4;have y15:=y1 5;have y16:=y1 6;simp at y00 y01 y02 y03 y04 y05 y06 y10 y11 y12 y13 y14 y15 y16;clear y0 y1;go_wp2_with fail
                     go_region_held3 (fun w'=>w'.cell? ⟨w.heap.size,0,none⟩=some (.int .i64 e.id)∧w'.cell? ⟨w.heap.size,1,none⟩=some (.int .i64 e.inn)∧w'.cell? ⟨w.heap.size,2,none⟩=some (.int .i64 e.out)∧w'.cell? ⟨w.heap.size,3,none⟩=some (.string e.region)∧w'.cell? ⟨w.heap.size,4,none⟩=some (.int .u8 e.kind)∧w'.cell? ⟨w.heap.size,5,none⟩=some (.string e.speaker)∧w'.cell? ⟨w.heap.size,6,none⟩=some (.slice A n c) ∧
                      w'.cell? ⟨w1.heap.size,0,none⟩=some (.string r'.name)∧w'.cell? ⟨w1.heap.size,1,none⟩=some (.int .i64 r'.top)∧w'.cell? ⟨w1.heap.size,2,none⟩=some (.int .i64 r'.height)∧w'.cell? ⟨w1.heap.size,3,none⟩=some (.int .i64 r'.left)∧w'.cell? ⟨w1.heap.size,4,none⟩=some (.int .i64 r'.width)∧w'.cell? ⟨w1.heap.size,5,none⟩=some (.int .u8 r'.align)∧w'.cell? ⟨w1.heap.size,6,none⟩=some (.bool r'.bottom))
                      (first | go_keep | (go_split_ands;refine ⟨?_,?_,?_,?_,?_,?_,?_,?_,?_,?_,?_,?_,?_,?_⟩<;>(apply hx6.cell;assumption)) | (go_split_ands;refine ⟨?_,?_,?_,?_,?_,?_,?_,?_,?_,?_,?_,?_,?_,?_⟩<;>(apply hx5.cell;assumption)))
                      (first | (go_at_call 132;refine (HL.out _ (HEn.out.ext (by exact hxw.drew)) (HA.out.ext (by exact hxw.drew))).mono ?_;rintro en w5 ⟨A1,n1,c1,rfl,hints,hnc1,hx5⟩) | (go_at_call 131;refine (HPl.out _ _ _ _ _ hints (by have:=hints.len;rw [List.length_map,HLn.out] at this;omega)).mono ?_;rintro en w6 ⟨A3,n3,c3,rfl,hsp,hnc3,hx6⟩))
                     go_wp2_with fail;go_ret;exact ⟨qAa HF4.out.symm,(hxw.drew.trans hx5).trans hx6⟩
          · have HF2:Hid (e.err regs=if e.rows.length=0∨4<e.rows.length then 9 else if qAo e.rows≠0 then qAo e.rows else r'.place (e.rows.map qAq)):=by
             show _=_;rw [HF.out,if_neg (by rw [HNk.out];simp),if_neg (by rw [hse];simp)]
            by_cases h5:n=0
            · subst h5
              go_wp2_with fail;go_ret;exact ⟨qAa (by rw [HF2.out,if_pos (.inl HLn.out)]),hxw3⟩
            · have h5':((n:Int) == 0)=false:=by simp;omega
              by_cases h6:4<n
              · have h6':(4:Int)<(n:Int):=by omega
                clear h5;go_wp2_with fail;go_ret;exact ⟨qAa (by rw [HF2.out,if_pos (.inr (by rw [HLn.out];exact h6))]),hxw3⟩
              · have h6':(n:Int)≤4:=by omega
                (have HF3:Hid (e.err regs=if qAo e.rows≠0 then qAo e.rows else r'.place (e.rows.map qAq)):=by show _=_;rw [HF2.out,if_neg (by rw [HLn.out];omega)]);clear HF2 h5 h6;go_wp2_with fail;clear hca
                go_loopw [66] (fun i wr=>ChkRel w3 n e.rows i wr) (fun i _=>n-(intOf i).toNat)
                case atStart=>exact ⟨0,Nat.zero_le _,rfl,Ext.refl _,rfl⟩
                case round =>
                 obtain ⟨k,hk,rfl,hx,hp⟩:=hrel;have HP:=gH hp;clear hp;have hxw:Ext w wr:=hxw3.trans hx
                 by_cases hlt:k<n
                 · obtain ⟨b,off,rw_,rfl,hrw,A',n',c',hcell,hnc,hc40,hruns⟩:=(HA.out.ext hxw).1.at_ hlt
                   simp only [Nat.mul_one] at hcell;have HRu:=gH hruns;have HD:=gH (qDe e.rows k rw_ hrw);have hsmr:=HSm.out rw_ (List.mem_of_getElem? hrw);have HSr:=gH hsmr;clear hrw hruns hsmr;go_wp2_with fail;refine (row_any A' n' c' rw_ _ (HEn.out.ext (hxw.alloc _)) (HRu.out.ext ((Ext.refl wr).alloc _)) HSr.out.2 (by omega) HSr.out.1).mono ?_;rintro en w4 ⟨rfl,hx4⟩
                   by_cases hre:qBp rw_=0
                   · have hre':(qBp rw_ != 0)=false:=by simp [hre]
                     (have HP2:Hid (qAo e.rows=qAo (e.rows.drop (k+1))):=by show _=_;rw [HP.out,HD.out,qAo,if_pos hre]);clear hre;go_wp2_with fail;exact ⟨⟨k+1,by omega,by go_num,(hx.alloc _).trans hx4,HP2.out⟩,by simp [intOf];omega⟩
                   · have hre':(qBp rw_ != 0)=true:=by simp [hre]
                     (have HP2:Hid (qAo e.rows=qBp rw_):=by show _=_;rw [HP.out,HD.out,qAo,if_neg hre]);have HNe:=gH hre;clear hre;go_wp2_with fail;go_ret;exact ⟨qAa (by rw [HF3.out,HP2.out,if_pos HNe.out]),(hxw.alloc _).trans hx4⟩
                 · have HD:Hid (e.rows.drop k=[]):=List.drop_eq_nil_of_le (by rw [HLn.out];omega)
                   (have HF4:Hid (e.err regs=r'.place (e.rows.map qAq)):=by show _=_;rw [HF3.out,HP.out,HD.out,if_neg (by simp [qAo])]);have y0:=(HBa3.out.ext hx).cell;have y1:=(HBr3.out.ext hx).cell;have y00:=y0 0;have y01:=y0 1;have y02:=y0 2;have y03:=y0 3;have y04:=y0 4;have y05:=y0 5;have y06:=y0 6;have y10:=y1 0;have y11:=y1 1;have y12:=y1 2;have y13:=y1 3;have y14:=y1 4;have y15:=y1 5;have y16:=y1 6;simp at y00 y01 y02 y03 y04 y05 y06 y10 y11 y12 y13 y14 y15 y16;clear y0 y1;go_wp2_with fail
                   go_region_held3 (fun w'=>w'.cell? ⟨w.heap.size,0,none⟩=some (.int .i64 e.id)∧w'.cell? ⟨w.heap.size,1,none⟩=some (.int .i64 e.inn)∧w'.cell? ⟨w.heap.size,2,none⟩=some (.int .i64 e.out)∧w'.cell? ⟨w.heap.size,3,none⟩=some (.string e.region)∧w'.cell? ⟨w.heap.size,4,none⟩=some (.int .u8 e.kind)∧w'.cell? ⟨w.heap.size,5,none⟩=some (.string e.speaker)∧w'.cell? ⟨w.heap.size,6,none⟩=some (.slice A n c) ∧
                    w'.cell? ⟨w1.heap.size,0,none⟩=some (.string r'.name)∧w'.cell? ⟨w1.heap.size,1,none⟩=some (.int .i64 r'.top)∧w'.cell? ⟨w1.heap.size,2,none⟩=some (.int .i64 r'.height)∧w'.cell? ⟨w1.heap.size,3,none⟩=some (.int .i64 r'.left)∧w'.cell? ⟨w1.heap.size,4,none⟩=some (.int .i64 r'.width)∧w'.cell? ⟨w1.heap.size,5,none⟩=some (.int .u8 r'.align)∧w'.cell? ⟨w1.heap.size,6,none⟩=some (.bool r'.bottom))
                    (first | go_keep | (go_split_ands;refine ⟨?_,?_,?_,?_,?_,?_,?_,?_,?_,?_,?_,?_,?_,?_⟩<;>(apply hx6.cell;assumption)) | (go_split_ands;refine ⟨?_,?_,?_,?_,?_,?_,?_,?_,?_,?_,?_,?_,?_,?_⟩<;>(apply hx5.cell;assumption)))
                    (first | (go_at_call 132;refine (HL.out _ (HEn.out.ext (by exact hxw.drew)) (HA.out.ext (by exact hxw.drew))).mono ?_;rintro en w5 ⟨A1,n1,c1,rfl,hints,hnc1,hx5⟩) | (go_at_call 131;refine (HPl.out _ _ _ _ _ hints (by have:=hints.len;rw [List.length_map,HLn.out] at this;omega)).mono ?_;rintro en w6 ⟨A3,n3,c3,rfl,hsp,hnc3,hx6⟩))
                   go_wp2_with fail;go_ret;exact ⟨qAa HF4.out.symm,(hxw.drew.trans hx5).trans hx6⟩
        · rw [hnk] at hke
          have HNk:=gH hnk;clear hnk;go_wp2_with fail;go_ret;exact ⟨qAa (by rw [HF.out,if_pos HNk.out]),hxw3⟩
end
section
open Go.RowKit
def cmpI (a b:Int):Int:=if a<b then -1 else if b<a then 1 else 0
theorem isNaN_any (a:Int) (w:World):Calls Tryz.prog 198 #[.int .i64 a] w fun e w'=>e = .returned (.bool false)∧w=w':=by
 go_enter Tryz.func198,Tryz.ntmps198;go_wp2;go_ret;exact ⟨rfl,rfl⟩
set_option maxHeartbeats 400000 in
theorem Compare_any (a b:Int) (w:World):Calls Tryz.prog 134 #[.int .i64 a,.int .i64 b] w fun e w'=>e = .returned (.int .i64 (cmpI a b))∧w=w':=by
 go_enter Tryz.func134,Tryz.ntmps134;go_wp2_with (first | (go_at_call 198;refine (isNaN_any _ _).mono ?_;rintro e w' ⟨rfl,rfl⟩))
 all_goals go_ret
 · exact ⟨qAa (by unfold cmpI;simp;omega),rfl⟩
 · exact ⟨qAa (by unfold cmpI;rw [if_neg (by omega),if_pos (by omega)]),rfl⟩
 · exact ⟨qAa (by unfold cmpI;rw [if_neg (by omega),if_neg (by omega)]),rfl⟩
end
end Go.Proofs.YtablhmobekmflaaGreatDoor