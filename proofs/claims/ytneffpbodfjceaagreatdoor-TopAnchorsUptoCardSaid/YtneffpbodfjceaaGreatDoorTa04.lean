/- Texts laid together. -/
import Derived.Test.YtneffpbodfjceaaGreatDoorTa03
import Derived.Lib.SliceRun
import Derived.Lib.LaidU8T
import Derived.Deep.DeepHandedRow
import Derived.Lib.LaidTab
import Derived.Lib.Join
set_option linter.unusedVariables false
set_option linter.unusedSimpArgs false
set_option maxRecDepth 100000
set_option maxHeartbeats 16000000
namespace Go.Proofs.YtneffpbodfjceaaGreatDoor
section
open Go.RowKit
structure Ev where
 id:Int
 inn:Int
 out:Int
 region:ByteArray
 kind:Int
 speaker:ByteArray
 rows:List Row
 deriving DecidableEq
def Ev.cells (e:Ev) (A:Option Addr) (n c:Nat):Array Value:=#[.int .i64 e.id,.int .i64 e.inn,.int .i64 e.out,.string e.region,.int .u8 e.kind,.string e.speaker,.slice A n c]
def EvAt (w:World) (e:Ev) (A:Option Addr) (n c:Nat):Prop:=qCb w A n e.rows/\n<=c/\n*24<=140737488355328
theorem EvAt.ext {w w1:World} {e:Ev} {A:Option Addr} {n c:Nat} (h:EvAt w e A n c) (k:Ext w w1):EvAt w1 e A n c:=⟨h.1.ext k,h.2⟩
theorem EvAt.len {w:World} {e:Ev} {A:Option Addr} {n c:Nat} (h:EvAt w e A n c):e.rows.length=n:=h.1.len
def qDn (r:Row):Prop:=qAe r<4294967281/\∀ x∈r,x.text.size<=4611686018427387904/\x.ruby.size<=4611686018427387904
def qFi (e:Ev):Prop:=e.region.size<=9223372036854775807/\e.speaker.size<=9223372036854775807/\∀ r∈e.rows,qDn r
def qZj (e:Ev) (w:World) (en:Ending) (w':World):Prop :=
 ∃ A n c,en = .returned (.slice A n c)/\qNc w' A n (e.rows.map qAs)/\n<=c/\Ext w w'
def zMy (w:World) (bx:Array Value) (n:Nat) (rows:List Row) (v i:Value) (wr:World):Prop :=
 ∃ k:Nat,k<=n/\i = .int .i64 k/\Ext (w.alloc (.cells bx 54)) wr/\wr.ownsRow (w.heap.size+1) 3 1 v k (((rows.take k).map qAs).flatMap fun x=>[Value.int .i64 x])
theorem zKl:(Tryz.prog.info? 3).map (fun i=>(i.zero,i.size,i.bytes))=some (some (.int .i64 0),1,8):=by kernel_rfl
theorem qYi {e:Ev} {w w':World} {v:Value} {n base:Nat} (hn:e.rows.length=n) (hown:w'.ownsRow base 3 1 v n ((e.rows.map qAs).flatMap fun x=>[Value.int .i64 x])) (hx:Ext w w'):qZj e w (.returned v) w':=by
 (have hl:(e.rows.map qAs).length=n:=by rw [List.length_map,hn]);obtain ⟨A,c,rfl,hc,_,hsl,_⟩:=qBn (f:=fun x:Int=>[Value.int .i64 x]) (size:=1) (fun _=>rfl) hl hown;exact ⟨A,n,c,rfl,hsl,hc,hx⟩
theorem zAa (e:Ev) (A:Option Addr) (n c:Nat) (w:World) (hE:Env w) (he:EvAt w e A n c) (hb:∀ r∈e.rows,qDn r) :
 Calls Tryz.prog 183 #[.agg (e.cells A n c)] w (qZj e w):=by
 (have hn24:n*24<=140737488355328:=by have:=he.2;omega);have HA:=gH he.1;have HLn:=gH he.len;have HEn:=gH hE;have HBd:=gH hb;clear he hE hb;unfold Ev.cells;go_enter Tryz.func183,Tryz.ntmps183;go_wp2_with fail
 go_loopw [3,9] (fun v i wr=>zMy w #[.int .i64 e.id,.int .i64 e.inn,.int .i64 e.out,.string e.region,.int .u8 e.kind,.string e.speaker,.slice A n c] n e.rows v i wr) (fun _ i _=>n-(intOf i).toNat)
 case atStart=>exact ⟨0,Nat.zero_le _,rfl,Ext.refl _,⟨rfl,.inl ⟨rfl,rfl⟩⟩⟩
 case round =>
  obtain ⟨k,hk,rfl,hx,hown⟩:=hrel;have hxw:Ext w wr:=((Ext.refl w).alloc _).trans hx
  by_cases hlt:k<n
  . obtain ⟨b,off,r,rfl,hr,A',n',c',hcell,hnc,hc40,hruns⟩:=(HA.out.ext hxw).at_ hlt
    simp only [Nat.mul_one] at hcell;have HR:=gH hruns;have hsm:=HBd.out r (List.mem_of_getElem? hr);have HT:=gH (take_snoc' e.rows k r hr);have hrb:qAe r<4294967281:=hsm.1;clear hr hruns hsm;go_wp2_with fail;refine (qIm A' n' c' r _ (HEn.out.ext (hxw.alloc _)) (HR.out.ext ((Ext.refl wr).alloc _)) (by omega) (by omega)).mono ?_;rintro en w2 ⟨rfl,hx2⟩;have HO2:=gH (qAh (hown.alloc (.cells #[.slice A' n' c'] 61)) hx2);have hsz2:=hx.size;have hsz3:=hx2.size;simp only [World.size_alloc] at hsz2 hsz3;go_wp2_with (at_builtin;refine qAi rfl (.tmp 13) (.tmp 16) 275 rfl zKl Tryz.underlying275 rfl (by decide) (HO2.out.alloc _) (by exact rfl) w2.heap.size _ (by exact rfl) (by exact Blk.new' rfl) (by exact rfl) (by simp [Value.oneCell']) (by omega) (by simp [maxLen];omega) (by simp;omega) ?_;intro v' w3 hown3 hgr);refine ⟨⟨k+1,by omega,by go_num,((hx.alloc _).trans (hx2.alloc _)).grown hgr (fun q hq=>by have:=qBg hown q hq;simpa using this),?_⟩,by simp [intOf];omega⟩;rw [HT.out,List.map_append,List.flatMap_append];exact hown3
  . have hkn:k=n:=by omega
    subst hkn;have HT:Hid (e.rows.take k=e.rows):=List.take_of_length_le (by rw [HLn.out];omega);have HO:=gH hown;clear hown;go_wp2_with fail;go_ret;exact qYi HLn.out (by have:=HO.out;rw [HT.out] at this;exact this) hxw
def qEk (w:World) (T:TypeId) (L:Nat) (A:Option Addr):Prop:=∀ ad,A=some ad->L<=ad.block/\qBc w T ad.block
theorem qEk.le {w:World} {T:TypeId} {L L':Nat} {A:Option Addr} (h:qEk w T L A) (hl:L'<=L):qEk w T L' A:=fun ad e=>⟨Nat.le_trans hl (h ad e).1,(h ad e).2⟩
theorem qEk.ext {w w1:World} {T:TypeId} {L:Nat} {A:Option Addr} (h:qEk w T L A) (k:Ext w w1):qEk w1 T L A:=fun ad e=>⟨(h ad e).1,(h ad e).2.ext k⟩
theorem qEk.setCell {w:World} {T:TypeId} {L:Nat} {A:Option Addr} (h:qEk w T L A) (p:Addr) (u:Value):qEk (w.setCell p u) T L A:=fun ad e=>⟨(h ad e).1,(h ad e).2.setCell p u⟩
theorem qEk.put {w:World} {T t:TypeId} {L g:Nat} {A:Option Addr} {cs:Array Value} (h:qEk w T L A) (hB:Blk w g t cs) (cs':Array Value) (hne:T≠t):qEk (putB w g t cs') T L A:=fun ad e=>⟨(h ad e).1,(h ad e).2.put hB cs' hne⟩
theorem qEk.of_own {w:World} {base:Nat} {e:TypeId} {size n m c:Nat} {A:Option Addr} {xs:List Value} (h:w.ownsRow base e size (.slice A m c) n xs):qEk w e base A:=fun ad hA=>by
 subst hA;exact ⟨qBg h _ rfl,qAt h _ rfl⟩
def Run.cells (r:Run):List Value:=[.string r.text,.int .u8 r.color,.bool r.italic,.bool r.under,.string r.ruby]
theorem zDf {w:World} {b o:Nat} {r:Run} (h:RunC w b o r):Cells Run.cells w b o r:=by
 obtain ⟨h0,h1,h2,h3,h4⟩:=h;intro j u hu
 match j,hu with
 | 0,hu=>simp [Run.cells] at hu;subst hu;exact h0
 | 1,hu=>simp [Run.cells] at hu;subst hu;exact h1
 | 2,hu=>simp [Run.cells] at hu;subst hu;exact h2
 | 3,hu=>simp [Run.cells] at hu;subst hu;exact h3
 | 4,hu=>simp [Run.cells] at hu;subst hu;exact h4
 | j+5,hu=>simp [Run.cells] at hu
theorem zBu {w:World} {b o:Nat} {r:Run} (h:Cells Run.cells w b o r):RunC w b o r:=⟨h 0 _ rfl,h 1 _ rfl,h 2 _ rfl,h 3 _ rfl,h 4 _ rfl⟩
theorem qBj.cells {w:World} {A:Option Addr} {n:Nat} {l:Row} (h:qBj w A n l):Sl w 5 (Cells Run.cells) A n l:=Sl.change h fun _ _ _=>zDf
theorem qBj.of_cells {w:World} {A:Option Addr} {n:Nat} {l:Row} (h:Sl w 5 (Cells Run.cells) A n l):qBj w A n l:=Sl.change h fun _ _ _=>zBu
theorem zKn:(Tryz.prog.info? 102).map (fun i=>(i.zero,i.size,i.bytes))=some (some (.agg #[.string ⟨#[]⟩,.int .u8 0,.bool false,.bool false,.string ⟨#[]⟩]),5,40):=by kernel_rfl
theorem zKm:(Tryz.prog.info? 61).map (fun i=>(i.zero,i.size,i.bytes))=some (some (.agg #[.slice none 0 0]),1,24):=by kernel_rfl
def qRh (l:Row) (n:Nat) (w:World) (e:Ending) (w':World):Prop :=
 ∃ A c,e = .returned (.slice A n c)/\n<=c/\qBj w' A n l/\qEk w' 102 w.heap.size A/\Ext w w'
theorem qRi (A:Option Addr) (n c:Nat) (l:Row) (w:World) (hl:qBj w A n l) (hn:n*40<=140737488355328) :
 Calls Tryz.prog 47 #[.slice A n c] w (qRh l n w):=by
 (have hq:=fun w=>Lib.run_eql_slice_nil (P:=Tryz.prog) w 59 102 A n c 0 0 Tryz.underlying59);have HL:=gH hl;clear hl
 cases A with
 | none =>
  have hn0:n=0:=by
   rcases Nat.eq_zero_or_pos n with h | h
   . exact h
   . obtain ⟨_,_,h,_⟩:=HL.out.2 h;cases h
  subst hn0;simp only [Option.isNone_none] at hq;go_enter Tryz.func47,Tryz.ntmps47;go_wp2_with fail;go_ret;exact ⟨none,0,rfl,Nat.le_refl _,HL.out,(fun _ h=>by cases h),Ext.refl _⟩
 | some ad =>
  simp only [Option.isNone_some] at hq;go_enter Tryz.func47,Tryz.ntmps47;go_wp2_with (at_builtin;refine qAx rfl (.tmp 5) (.tmp 6) 59 rfl zKn Tryz.underlying59 rfl (by decide) (by exact qKo w _ _ w.heap.size (Nat.le_refl _)) (by exact rfl) (by exact rfl) (by exact Sl.ext (Cells.stays _) HL.out.cells ((Ext.refl w).alloc _)) (fun _=>rfl) (by intro r u hu;simp [Run.cells] at hu;rcases hu with rfl | rfl | rfl | rfl | rfl<;>rfl) (by omega) (by simp [maxLen];omega) (by simp) ?_;intro v' w' hown hgr hnil);go_ret;simp only [Nat.zero_add,List.nil_append] at hown;obtain ⟨A',c',rfl,hc,_,hsl,hfr⟩:=qBn (f:=Run.cells) (size:=5) (fun _=>rfl) HL.out.len hown;exact ⟨A',c',rfl,hc,qBj.of_cells hsl,qEk.of_own hown,((Ext.refl w).alloc _).grown hgr (fun q hq=>by simp [Value.ownBlock] at hq;omega)⟩
abbrev Hd:=Option Addr × Nat × Nat
def Hd.val (h:Hd):Value:=.slice h.1 h.2.1 h.2.2
def Good (w:World) (h:Hd) (r:Row):Prop:=h.2.1<=h.2.2/\h.2.1*40<=140737488355328/\qBj w h.1 h.2.1 r
theorem Good.ext {w w1:World} {h:Hd} {r:Row} (g:Good w h r) (k:Ext w w1):Good w1 h r:=⟨g.1,g.2.1,g.2.2.ext k⟩
def zBd (w:World) (hs:List Hd) (l:List Row):Prop:=∀ (i:Nat) (h:Hd) (r:Row),hs[i]?=some h->l[i]?=some r->Good w h r
def zJe (w:World) (A:Option Addr) (n:Nat) (hs:List Hd):Prop:=Sl w 1 (Cells fun h=>[Hd.val h]) A n hs
theorem zDe {w:World} {A:Option Addr} {n:Nat} {l:List Row} (h:qCb w A n l):∃ hs:List Hd,zJe w A n hs/\zBd w hs l:=by
 have hall:∀ i:Nat,∃ hd:Hd,i<n->(∀ b off,A=some ⟨b,off,none⟩->w.cell? ⟨b,off+i,none⟩=some (Hd.val hd))/\∀ r,l[i]?=some r->Good w hd r:=by
  intro i
  by_cases hi:i<n
  . obtain ⟨b,off,r,hA,hr,A',n',c',h1,h2,h3,h4⟩:=h.at_ hi
    refine ⟨(A',n',c'),fun _=>⟨fun b' off' hA'=>?_,fun r' hr'=>?_⟩⟩
    . rw [hA] at hA'
      cases hA'
      rw [Nat.mul_one] at h1;exact h1
    . rw [hr] at hr'
      cases hr'
      exact ⟨h2,h3,h4⟩
  . exact ⟨(none,0,0),fun h=>absurd h hi⟩
 obtain ⟨f,hf⟩:=Classical.axiomOfChoice hall;refine ⟨(List.range n).map f,⟨by simp,fun hn=>?_⟩,?_⟩
 . obtain ⟨b,off,hA,_⟩:=h.2 hn
   refine ⟨b,off,hA,fun i x hx j u hu=>?_⟩
   have hi:i<n:=by
    have:=(List.getElem?_eq_some_iff.1 hx).1;simpa using this
   have hx':x=f i:=by
    rw [List.getElem?_map,List.getElem?_range hi] at hx;exact (Option.some.inj hx).symm
   match j,hu with
   | 0,hu =>
    have hu':u=Hd.val x:=(Option.some.inj hu).symm;subst hu' hx';simpa using (hf i hi).1 b off hA
   | j+1,hu=>simp at hu
 . intro i hd r hh hr
   have hi:i<n:=by
    have:=(List.getElem?_eq_some_iff.1 hh).1;simpa using this
   have hx':hd=f i:=by
    rw [List.getElem?_map,List.getElem?_range hi] at hh;exact (Option.some.inj hh).symm
   subst hx';exact (hf i hi).2 r hr
theorem qHg {w:World} {A:Option Addr} {n:Nat} {l:List Row} {hs:List Hd} (h:zJe w A n hs) (hl:l.length=n) (hg:zBd w hs l):qCb w A n l:=by
 refine ⟨hl,fun hn=>?_⟩;obtain ⟨b,off,hA,hc⟩:=h.2 hn;refine ⟨b,off,hA,fun i r hr=>?_⟩
 have hi:i<hs.length:=by
  rw [h.len,← hl];exact (List.getElem?_eq_some_iff.1 hr).1
 have hx:hs[i]?=some hs[i]:=List.getElem?_eq_getElem hi;have g:=hg i _ r hx hr;exact ⟨_,_,_,hc i _ hx 0 _ rfl,g.1,g.2.1,g.2.2⟩
def qTx (hs:List Hd) (n:Nat) (w:World) (e:Ending) (w':World):Prop :=
 ∃ A c,e = .returned (.slice A n c)/\w'.ownsRow w.heap.size 61 1 (.slice A n c) n (hs.flatMap fun h=>[Hd.val h])/\Ext w w'
theorem qTy (A:Option Addr) (n c:Nat) (hs:List Hd) (w:World) (hl:zJe w A n hs) (hn:n*24<=140737488355328) :
 Calls Tryz.prog 46 #[.slice A n c] w (qTx hs n w):=by
 (have hq:=fun w=>Lib.run_eql_slice_nil (P:=Tryz.prog) w 46 61 A n c 0 0 Tryz.underlying46);have HL:=gH hl;clear hl
 cases A with
 | none =>
  have hn0:n=0:=by
   rcases Nat.eq_zero_or_pos n with h | h
   . exact h
   . obtain ⟨_,_,h,_⟩:=HL.out.2 h;cases h
  subst hn0;have hs0:hs=[]:=List.eq_nil_of_length_eq_zero HL.out.len;subst hs0;simp only [Option.isNone_none] at hq;go_enter Tryz.func46,Tryz.ntmps46;go_wp2_with fail;go_ret;exact ⟨none,0,rfl,⟨rfl,.inl ⟨rfl,rfl⟩⟩,Ext.refl _⟩
 | some ad =>
  simp only [Option.isNone_some] at hq;go_enter Tryz.func46,Tryz.ntmps46;go_wp2_with (at_builtin;refine qAx rfl (.tmp 5) (.tmp 6) 46 rfl zKm Tryz.underlying46 rfl (by decide) (by exact qKo w _ _ w.heap.size (Nat.le_refl _)) (by exact rfl) (by exact rfl) (by exact Sl.ext (Cells.stays _) HL.out ((Ext.refl w).alloc _)) (fun _=>rfl) (by intro r u hu;simp at hu;subst hu;rfl) (by omega) (by simp [maxLen];omega) (by simp) ?_;intro v' w' hown hgr hnil);go_ret;simp only [Nat.zero_add,List.nil_append] at hown;obtain ⟨A',c',rfl,hc,_,hsl,hfr⟩:=qBn (f:=fun h:Hd=>[Hd.val h]) (size:=1) (fun _=>rfl) HL.out.len hown;exact ⟨A',c',rfl,hown,((Ext.refl w).alloc _).grown hgr (fun q hq=>by simp [Value.ownBlock] at hq;omega)⟩
def qBu (w:World) (L:Nat) (A:Option Addr) (n:Nat) (l:List Row):Prop :=
 ∃ hs:List Hd,zJe w A n hs/\zBd w hs l/\l.length=n/\qEk w 61 L A/\∀ h∈hs,qEk w 102 L h.1
theorem qBu.rows {w:World} {L:Nat} {A:Option Addr} {n:Nat} {l:List Row} (h:qBu w L A n l):qCb w A n l:=by
 obtain ⟨hs,h1,h2,h3,_⟩:=h;exact qHg h1 h3 h2
theorem qBu.ext {w w1:World} {L:Nat} {A:Option Addr} {n:Nat} {l:List Row} (h:qBu w L A n l) (k:Ext w w1):qBu w1 L A n l:=by
 obtain ⟨hs,h1,h2,h3,h4,h5⟩:=h;exact ⟨hs,Sl.ext (Cells.stays _) h1 k,fun i hd r a b=>(h2 i hd r a b).ext k,h3,h4.ext k,fun x hx=>(h5 x hx).ext k⟩
theorem qBu.le {w:World} {L L':Nat} {A:Option Addr} {n:Nat} {l:List Row} (h:qBu w L A n l) (hl:L'<=L):qBu w L' A n l:=by
 obtain ⟨hs,h1,h2,h3,h4,h5⟩:=h;exact ⟨hs,h1,h2,h3,h4.le hl,fun x hx=>(h5 x hx).le hl⟩
def zDv (g:Nat) (h:Hd):Prop:=0<h.2.1->∀ ad,h.1=some ad->ad.block≠g
theorem Sl.keep {α:Type} {C:World->Nat->Nat->α->Prop} {w w1:World} {size n:Nat} {A:Option Addr} {l:List α} (h:Sl w size C A n l) (hk:0<n->∀ b off,A=some ⟨b,off,none⟩->∀ o x,C w b o x->C w1 b o x):Sl w1 size C A n l :=
 ⟨h.1,fun hn=>(h.2 hn).elim fun b hb=>hb.elim fun off ho=>⟨b,off,ho.1,fun i x hx=>hk hn b off ho.1 _ _ (ho.2 i x hx)⟩⟩
theorem RunC.set {w:World} {b o:Nat} {r:Run} (h:RunC w b o r) {p:Addr} (hp:b≠p.block) (u:Value):RunC (w.setCell p u) b o r:=by
 have key:∀ q v,w.cell? ⟨b,q,none⟩=some v->(w.setCell p u).cell? ⟨b,q,none⟩=some v:=fun q v hv=>by
  rw [World.cell?_setCell_other w p ⟨b,q,none⟩ u (fun e=>hp (by rw [e]))];exact hv
 exact ⟨key _ _ h.1,key _ _ h.2.1,key _ _ h.2.2.1,key _ _ h.2.2.2.1,key _ _ h.2.2.2.2⟩
theorem Good.set {w:World} {h:Hd} {r:Row} (g:Good w h r) {p:Addr} (hp:zDv p.block h) (u:Value):Good (w.setCell p u) h r :=
 ⟨g.1,g.2.1,Sl.keep g.2.2 fun hn b off hA o x hx=>hx.set (hp hn _ hA) u⟩
def qDg (w:World) (L:Nat) (A:Option Addr) (n c:Nat) (l:List Row):Prop :=
 ∃ hs:List Hd,w.ownsRow L 61 1 (.slice A n c) n (hs.flatMap fun h=>[Hd.val h])/\hs.length=n/\zBd w hs l/\l.length=n/\∀ h∈hs,qEk w 102 L h.1
theorem qDg.fresh {w:World} {L:Nat} {A:Option Addr} {n c:Nat} {l:List Row} (h:qDg w L A n c l):qBu w L A n l:=by
 obtain ⟨hs,h1,h2,h3,h4,h5⟩:=h;obtain ⟨A',c',hv,_,_,hsl,_⟩:=qBn (f:=fun h:Hd=>[Hd.val h]) (size:=1) (fun _=>rfl) h2 h1;injection hv with e1 e2 e3;subst e1 e3;exact ⟨hs,hsl,h3,h4,qEk.of_own h1,h5⟩
theorem qDg.ext {w w1:World} {L:Nat} {A:Option Addr} {n c:Nat} {l:List Row} (h:qDg w L A n c l) (k:Ext w w1):qDg w1 L A n c l:=by
 obtain ⟨hs,h1,h2,h3,h4,h5⟩:=h;exact ⟨hs,qAh h1 k,h2,fun i hd r a b=>(h3 i hd r a b).ext k,h4,fun x hx=>(h5 x hx).ext k⟩
theorem qOi {w:World} {L L':Nat} {e:TypeId} {size:Nat} {v:Value} {n:Nat} {xs:List Value} (h:w.ownsRow L e size v n xs) (hl:L'<=L):w.ownsRow L' e size v n xs:=by
 refine ⟨h.1,?_⟩
 rcases h.2 with hn | ⟨g,cap,cur,rfl,hb,rest⟩
 . exact .inl hn
 . exact .inr ⟨g,cap,cur,rfl,Nat.le_trans hl hb,rest⟩
theorem qDg.le {w:World} {L L':Nat} {A:Option Addr} {n c:Nat} {l:List Row} (h:qDg w L A n c l) (hl:L'<=L):qDg w L' A n c l:=by
 obtain ⟨hs,h1,h2,h3,h4,h5⟩:=h;exact ⟨hs,qOi h1 hl,h2,h3,h4,fun x hx=>(h5 x hx).le hl⟩
def qZk (rows:List Row) (n:Nat) (w:World) (e:Ending) (w':World):Prop :=
 ∃ A c,e = .returned (.slice A n c)/\n<=c/\qDg w' w.heap.size A n c rows/\Ext w w'
def qUg (w:World) (rows:List Row) (A:Option Addr) (n c:Nat) (i:Value) (wr:World):Prop :=
 ∃ (k:Nat) (hs:List Hd),k<=n/\i = .int .i64 k/\hs.length=n/\wr.ownsRow w.heap.size 61 1 (.slice A n c) n (hs.flatMap fun h=>[Hd.val h])/\Ext w wr/\zBd wr hs rows /\
  (∀ ad,A=some ad->∀ h∈hs,zDv ad.block h)/\(∀ j h,j<k->hs[j]?=some h->qEk wr 102 w.heap.size h.1)
theorem qYf (hs:List Hd) (k:Nat) (h:Hd):(hs.set k h).flatMap (fun h=>[Hd.val h])=(hs.flatMap fun h=>[Hd.val h]).set k (Hd.val h):=by
 (have e:∀ l:List Hd,(l.flatMap fun h=>[Hd.val h])=l.map Hd.val:=fun l=>by induction l<;>simp_all);rw [e,e,List.map_set]
theorem qYz {w wr w2:World} {rows:List Row} {n c g k:Nat} {hs:List Hd} {hd:Hd} {r:Row} {A2:Option Addr} {c2:Nat} (hlt:k<n) (hx:Ext w wr) (hx2:Ext wr w2) (hsl:hs.length=n)
 (hO:wr.ownsRow w.heap.size 61 1 (.slice (some ⟨g,0,none⟩) n c) n (hs.flatMap fun h=>[Hd.val h])) (hgb:w.heap.size<=g) (hglt:g<wr.heap.size) (hG:zBd wr hs rows)
 (hA:∀ h∈hs,zDv g h) (hF:∀ (j:Nat) (h:Hd),j<k->hs[j]?=some h->qEk wr 102 w.heap.size h.1) (hr:rows[k]?=some r) (hn40:hd.2.1*40<=140737488355328) (hnc:hd.2.1<=c2) (hru:qBj w2 A2 hd.2.1 r) (hfr:qEk w2 102 wr.heap.size A2) :
 qUg w rows (some ⟨g,0,none⟩) n c (.int .i64 ((k:Int)+1)) (w2.setCell ⟨g,k,none⟩ (.slice A2 hd.2.1 c2)):=by
 (have hap:zDv g (A2,hd.2.1,c2):=fun _ ad had=>by have:=(hfr ad had).1;omega);refine ⟨k+1,hs.set k (A2,hd.2.1,c2),by omega,by simp,by simpa using hsl,?_,(hx.trans hx2).setCell hgb _,?_,?_,?_⟩
 . rw [qYf]
   exact ((qAh hO hx2).stored k _).1
 . intro i h q hi hq
   by_cases hik:k=i
   . subst hik
     rw [List.getElem?_set_self (by rw [hsl];exact hlt)] at hi
     cases hi
     rw [hr] at hq
     cases hq
     exact Good.set (h:=(A2,hd.2.1,c2)) (p:=⟨g,k,none⟩) ⟨hnc,hn40,hru⟩ hap _
   . rw [List.getElem?_set_ne hik] at hi
     exact Good.set (p:=⟨g,k,none⟩) ((hG i h q hi hq).ext hx2) (hA h (List.mem_of_getElem? hi)) _
 . intro ad had h hm
   cases had
   rcases List.mem_or_eq_of_mem_set hm with h1 | h1
   . exact hA h h1
   . subst h1;exact hap
 . intro j h hj hh
   by_cases hik:k=j
   . subst hik
     rw [List.getElem?_set_self (by rw [hsl];exact hlt)] at hh
     cases hh
     exact (hfr.le hx.size).setCell _ _
   . rw [List.getElem?_set_ne hik] at hh
     exact ((hF j h (by omega) hh).ext hx2).setCell _ _
theorem qPx (A:Option Addr) (n c:Nat) (rows:List Row) (w:World) (hl:qCb w A n rows) (hn:n*24<=140737488355328) :
 Calls Tryz.prog 9 #[.slice A n c] w (qZk rows n w):=by
 obtain ⟨hs0,hh0,hg0⟩:=zDe hl;have HLn:=gH hl.len;have HH:=gH hh0;have HG:=gH hg0;have HH0:=gH hh0.len
 have hold:Hid (∀ h∈hs0,∀ g,w.heap.size<=g->zDv g h):=by
  intro h hm g hg hp ad had;obtain ⟨i,hi⟩:=List.getElem?_of_mem hm
  have hil:i<rows.length:=by
   rw [HLn.out,← HH0.out];exact (List.getElem?_eq_some_iff.1 hi).1
  have hgd:=hg0 i h _ hi (List.getElem?_eq_getElem hil);obtain ⟨b,off,x,hA,hx,hC⟩:=hgd.2.2.at_ (i:=0) hp;rw [hA] at had
  cases had
  have:=World.block_lt_of_cell? w _ hC.1;(exact fun e=>by simp only at e this;omega)
 clear hl hh0 hg0;go_enter Tryz.func9,Tryz.ntmps9;go_wp2_with fail;refine (qTy A n c hs0 _ HH.out hn).mono ?_;rintro e w1 ⟨A1,c1,rfl,hown1,hx1⟩;have HO1:=gH hown1;clear hown1;go_wp2_with fail
 go_loopw [9] (fun i wr=>qUg w rows A1 n c1 i wr) (fun i _=>n-(intOf i).toNat)
 case atStart =>
  refine ⟨0,hs0,Nat.zero_le _,rfl,HH0.out,HO1.out,hx1,fun i h r a b=>(HG.out i h r a b).ext hx1,fun ad hA h hm=>?_,fun j h hj=>absurd hj (by omega)⟩;subst hA;exact hold.out h hm _ (qBg HO1.out _ rfl)
 case round =>
  obtain ⟨k,hs,hk,rfl,hsl,hown,hx,hgd,hap,hfr⟩:=hrel;have HGd:=gH hgd;have HAp:=gH hap;have HFr:=gH hfr;have HSl:=gH hsl;have HO:=gH hown;clear hgd hap hfr hsl hown
  by_cases hlt:k<n
  . obtain ⟨g,cp,hv,hgb,hglt⟩:=qBt HO.out (by omega)
    (have hA1:A1=some ⟨g,0,none⟩:=by injection hv);subst hA1;have hcell:=gH (HO.out.cellAt k (by omega));obtain ⟨hd,hhd⟩:∃ hd,hs[k]?=some hd:=⟨_,List.getElem?_eq_getElem (by rw [HSl.out];exact hlt)⟩;obtain ⟨r,hr⟩:∃ r,rows[k]?=some r:=⟨_,List.getElem?_eq_getElem (by rw [HLn.out];exact hlt)⟩
    have hck:wr.cell? ⟨g,k,none⟩=some (.slice hd.1 hd.2.1 hd.2.2):=by
     rw [hcell.out];have:=qDr (fun h:Hd=>[Hd.val h]) 1 (fun _=>rfl) hs k hd 0 hhd (by omega);simp only [Nat.mul_one,Nat.add_zero] at this;rw [this];rfl
    have hfz:wr.frozen? ⟨g,k,none⟩=false:=HO.out.frozenAt k;have hgk:=HGd.out k hd r hhd hr;have HGk:=gH hgk;have hn40:hd.2.1*40<=140737488355328:=hgk.2.1;have HHd:=gH hhd;have HRr:=gH hr;clear hgk hhd hr;go_wp2_with fail;refine (qRi hd.1 hd.2.1 hd.2.2 r _ HGk.out.2.2 hn40).mono ?_;rintro e w2 ⟨A2,c2,rfl,hnc2,hru2,hfr2,hx2⟩;have hck2:w2.cell? ⟨g,k,none⟩=some (.slice hd.1 hd.2.1 hd.2.2):=hx2.cell hck;have hfz2:w2.frozen? ⟨g,k,none⟩=false:=hx2.frozen hck hfz;have HRu2:=gH hru2;clear hru2 hck hfz;go_wp2_with fail;exact ⟨qYz hlt hx hx2 HSl.out HO.out hgb hglt HGd.out (fun h hm=>HAp.out _ rfl h hm) HFr.out HRr.out hn40 hnc2 HRu2.out hfr2,by simp [intOf];omega⟩
  . have hkn:k=n:=by omega
    subst hkn;go_wp2_with fail;go_ret;obtain ⟨A',c',hv,hc,_,hsl',hfr'⟩:=qBn (f:=fun h:Hd=>[Hd.val h]) (size:=1) (fun _=>rfl) HSl.out HO.out;injection hv with hv1 hv2 hv3;subst hv1 hv3;refine ⟨A1,c1,rfl,hc,⟨hs,HO.out,HSl.out,HGd.out,HLn.out,fun h hm=>?_⟩,hx⟩;obtain ⟨j,hj⟩:=List.getElem?_of_mem hm;exact HFr.out j h (by rw [← HSl.out];exact (List.getElem?_eq_some_iff.1 hj).1) hj
end
section
open Go.RowKit Go.ChangeShapes Go.WideShapes Go.ChangeAt
set_option maxRecDepth 100000
theorem qXi:Tryz.prog.cellsOf 40=1:=by kernel_rfl
theorem qNh:Tryz.prog.cellsOf 42=3:=by kernel_rfl
theorem qUq:Tryz.prog.cellsOf 102=5:=by kernel_rfl
theorem qUp:Tryz.prog.cellsOf 61=1:=by kernel_rfl
theorem zBv:Tryz.prog.cellsOf 59=1:=by kernel_rfl
theorem zBt:Tryz.prog.cellsOf 46=1:=by kernel_rfl
theorem zBo:Tryz.prog.cellsOf 39=1:=by kernel_rfl
theorem qNg:Tryz.prog.cellsOf 54=7:=by kernel_rfl
theorem zEq:Tryz.prog.bytesOf 102=40:=by kernel_rfl
theorem zEp:Tryz.prog.bytesOf 61=24:=by kernel_rfl
theorem zCy (W:World):qCa Tryz.prog W 42 (fun cs (a:Int × Bool × Bool)=>cs=[.int .u8 a.1,.bool a.2.1,.bool a.2.2]/\0<=a.1/\a.1<=255):=by
 intro H enc fuel cs x h hw;obtain ⟨hl,hf⟩:=qCa.fields Tryz.underlying42 h hw;rw [qNh] at hl;obtain ⟨v0,v1,v2,rfl⟩:=qCn hl;obtain ⟨a0,h0,s0⟩:=hf 0 _ rfl (qCa.int Tryz.underlying40);obtain ⟨a1,h1⟩:=hf 1 _ rfl (qCa.bool Tryz.underlying4);obtain ⟨a2,h2⟩:=hf 2 _ rfl (qCa.bool Tryz.underlying4);simp [qXi,qIn] at h0 h1 h2;subst h0 h1 h2;exact ⟨(a0,a1,a2),rfl,bounds_u8 s0⟩
end
section
open Go.RowKit
def qKl:Int->List Int->Int
 | s,[]=>s
 | s,n :: l=>if n<0 then -1 else qKl (s+n) l
def Ev.len (e:Ev):Int:=qKl (max ((e.rows.length:Int)-1) 0) (e.rows.map qAs)
def Ev.bytes (e:Ev):Nat:=(e.rows.map qAe).sum
theorem qWe:∀ l:Row,qAs l<=qAe l
 | []=>by simp [qAs,qAe]
 | r :: l=>by
  have h1:=qWe l;have h2:=zFa r.text;rw [qEd];unfold qAs
  split
  . omega
  . split<;>omega
theorem qOx (l:List Row) (k:Nat) (r:Row) (h:l[k]?=some r):((l.take k).map qAe).sum+qAe r<=(l.map qAe).sum:=by
 have e:=List.take_append_drop k l
 have h1:(l.map qAe).sum=((l.take k).map qAe).sum+((l.drop k).map qAe).sum:=by
  conv=>lhs;rw [← e]
  rw [List.map_append,List.sum_append]
 rw [h1,qDh l k r h];simp
def zMv (n:Nat) (e:Ev) (v i:Value):Prop :=
 ∃ (k:Nat) (s:Int),k<=n/\i = .int .i64 k/\v = .int .i64 s/\0<=s/\s<=n+((e.rows.take k).map qAe).sum/\e.len=qKl s ((e.rows.map qAs).drop k)
theorem qZi (e:Ev) (A:Option Addr) (n c:Nat) (w:World) (hE:Env w) (he:EvAt w e A n c) (hb:∀ r∈e.rows,qDn r) (hby:e.bytes<=1099511627776) :
 Calls Tryz.prog 122 #[.agg (e.cells A n c)] w fun en w'=>en = .returned (.int .i64 e.len)/\Ext w w':=by
 (have hn24:n*24<=140737488355328:=by have:=he.2;omega);have HL:=gH (fun w hE he=>zAa e A n c w hE he hb);have HA:=gH he;have HLn:=gH he.len;have HEn:=gH hE;clear he hE hb;unfold Ev.cells at HL ⊢;go_enter Tryz.func122,Tryz.ntmps122;go_wp2_with fail;refine (HL.out _ (HEn.out.ext ((Ext.refl w).alloc _)) (HA.out.ext ((Ext.refl w).alloc _))).mono ?_;rintro en w1 ⟨A1,n1,c1,rfl,hints,hnc1,hx1⟩;have hxw1:Ext w w1:=((Ext.refl w).alloc _).trans hx1;(obtain rfl:n=n1:=by rw [← HLn.out,← hints.len,List.length_map]);have HI:=gH hints;clear hints;go_wp2_with fail;go_loop [3,14] (fun v i=>zMv n e v i) (fun _ i=>n-(intOf i).toNat)
 case atStart=>exact ⟨0,_,Nat.zero_le _,rfl,rfl,by omega,by simp;omega,by unfold Ev.len;rw [HLn.out];rfl⟩
 case round =>
  obtain ⟨k,s,hk,rfl,rfl,hs0,hs1,hp⟩:=hrel;have HP:=gH hp;clear hp
  by_cases hlt:k<n
  . obtain ⟨b,off,x,rfl,hxx,hcell⟩:=HI.out.cell hlt
    have HD:=gH (qDh _ k x hxx);rw [List.getElem?_map] at hxx;obtain ⟨r,hr,rfl⟩:=Option.map_eq_some_iff.1 hxx;have h1:=qOx e.rows k r hr;have h2:=qWe r
    have h3:Hid (((e.rows.take (k+1)).map qAe).sum=((e.rows.take k).map qAe).sum+qAe r):=by
     show _=_
     rw [take_snoc' e.rows k r hr,List.map_append,List.sum_append];simp
    have hby':(e.rows.map qAe).sum<=1099511627776:=hby;(have hs2:s+qAs r<=4611686018427387904:=by omega);(have hs3:s<=4611686018427387904:=by omega);clear hr hxx h1 hby'
    by_cases hneg:qAs r<0
    . go_wp2_with fail
      go_ret;exact ⟨qAf (by rw [HP.out,HD.out,qKl,if_pos (by omega)]),hxw1⟩
    . go_wp2_with fail
      refine ⟨⟨k+1,s+qAs r,by omega,by go_num,rfl,by omega,?_,?_⟩,by simp [intOf];omega⟩
      . rw [h3.out];omega
      . rw [HP.out,HD.out,qKl,if_neg (by omega)]
  . have HD:Hid ((e.rows.map qAs).drop k=[]):=List.drop_eq_nil_of_le (by rw [List.length_map,HLn.out];omega)
    go_wp2_with fail;go_ret;exact ⟨qAf (by rw [HP.out,HD.out];rfl),hxw1⟩
def Ev.text (e:Ev):List UInt8:=Lib.join (e.rows.map qAy) [10]
def zEa (w:World) (bx:Array Value) (n:Nat) (rows:List Row) (v i:Value) (wr:World):Prop :=
 ∃ k:Nat,k<=n/\i = .int .i64 k/\Ext (w.alloc (.cells bx 54)) wr/\wr.ownsRow (w.heap.size+1) 9 1 v k (((rows.take k).map qHn).flatMap fun x=>[Value.string x])
theorem qYh:(Tryz.prog.info? 9).map (fun i=>(i.zero,i.size,i.bytes))=some (some (.string ⟨#[]⟩),1,16):=by kernel_rfl
theorem join_cons (sep a b:List UInt8) (l:List (List UInt8)):Lib.join (a :: b :: l) sep=a++(sep++Lib.join (b :: l) sep):=by
 simp [Lib.join,List.intercalate]
theorem qMt (sep:List UInt8):∀ l:List (List UInt8),(Lib.join l sep).length<=(l.map List.length).sum+l.length*sep.length
 | []=>by simp [Lib.join]
 | [a]=>by simp [Lib.join]
 | a :: b :: l=>by
  have:=qMt sep (b :: l);rw [join_cons];simp only [List.length_append,List.map_cons,List.sum_cons,List.length_cons,Nat.succ_mul] at this ⊢;omega
theorem qLc (e:Ev) (A:Option Addr) (n c:Nat) (w:World) (he:EvAt w e A n c) (hby:e.bytes<=1099511627776) :
 Calls Tryz.prog 44 #[.agg (e.cells A n c)] w fun en w'=>en = .returned (.string ⟨e.text.toArray⟩)/\Ext w w':=by
 (have hn24:n*24<=140737488355328:=by have:=he.2;omega);have HA:=gH he.1;have HLn:=gH he.len;clear he;unfold Ev.cells;go_enter Tryz.func44,Tryz.ntmps44;go_wp2_with fail
 go_loopw [3,9] (fun v i wr=>zEa w #[.int .i64 e.id,.int .i64 e.inn,.int .i64 e.out,.string e.region,.int .u8 e.kind,.string e.speaker,.slice A n c] n e.rows v i wr) (fun _ i _=>n-(intOf i).toNat)
 case atStart=>exact ⟨0,Nat.zero_le _,rfl,Ext.refl _,⟨rfl,.inl ⟨rfl,rfl⟩⟩⟩
 case round =>
  obtain ⟨k,hk,rfl,hx,hown⟩:=hrel;have hxw:Ext w wr:=((Ext.refl w).alloc _).trans hx
  by_cases hlt:k<n
  . obtain ⟨b,off,r,rfl,hr,A',n',c',hcell,hnc,hc40,hruns⟩:=(HA.out.ext hxw).at_ hlt
    simp only [Nat.mul_one] at hcell;have HR:=gH hruns;have HT:=gH (take_snoc' e.rows k r hr)
    have hrb:qAe r<=1099511627776:=by
     have h1:=qOx e.rows k r hr;have h2:(e.rows.map qAe).sum<=1099511627776:=hby;omega
    clear hr hruns;go_wp2_with fail;refine (qUf A' n' c' r _ (HR.out.ext ((Ext.refl wr).alloc _)) (by omega) (by omega)).mono ?_;rintro en w2 ⟨rfl,hx2⟩;have HO2:=gH (qAh (hown.alloc (.cells #[.slice A' n' c'] 61)) hx2);have hsz2:=hx.size;have hsz3:=hx2.size;simp only [World.size_alloc] at hsz2 hsz3;rw [show (⟨(qAy r).toArray⟩:ByteArray)=qHn r from rfl];go_wp2_with (at_builtin;refine qAi rfl (.tmp 13) (.tmp 16) 129 rfl qYh Tryz.underlying129 rfl (by decide) (HO2.out.alloc _) (by exact rfl) w2.heap.size _ (by exact rfl) (by exact Blk.new' rfl) (by exact rfl) (by simp [Value.oneCell']) (by omega) (by simp [maxLen];omega) (by simp;omega) ?_;intro v' w3 hown3 hgr);refine ⟨⟨k+1,by omega,by go_num,((hx.alloc _).trans (hx2.alloc _)).grown hgr (fun q hq=>by have:=qBg hown q hq;simpa using this),?_⟩,by simp [intOf];omega⟩;rw [HT.out,List.map_append,List.flatMap_append];exact hown3
  . have hkn:k=n:=by omega
    subst hkn;have HT:Hid (e.rows.take k=e.rows):=List.take_of_length_le (by rw [HLn.out];omega);(have hl:(e.rows.map qHn).length=k:=by rw [List.length_map,HLn.out]);rw [HT.out] at hown;obtain ⟨A',c',rfl,hc,_,hsl,_⟩:=qBn (f:=fun x:ByteArray=>[Value.string x]) (size:=1) (fun _=>rfl) hl hown;have HS:=gH hsl;have HK:=gH hl;clear hsl hown hl;go_wp2_with fail
    by_cases hk0:k=0
    . subst hk0
      refine (Tryz.strings_Join_none _ _ _ _).mono ?_;rintro en w2 ⟨rfl,rfl⟩;go_wp2_with fail;go_ret;have:e.rows=[]:=List.eq_nil_of_length_eq_zero HLn.out;exact ⟨by unfold Ev.text;rw [this];rfl,hxw⟩
    . obtain ⟨b,off,hA',hcs⟩:=HS.out.2 (by omega)
      subst hA';have hk':Hid (k=(e.rows.map qHn).length):=HK.out.symm;have hfit:=Tryz.strings_Join b off c' (e.rows.map qHn) ⟨#[10]⟩ wr (fun j x hx=>by simpa using hcs j x hx 0 _ rfl) ?_ (by rw [HK.out];omega) (by rw [HK.out];exact hc) ?_
      . rw [HK.out] at hfit
        refine hfit.mono ?_;rintro en w2 ⟨rfl,hx2⟩;go_wp2_with fail;go_ret;refine ⟨?_,hxw.trans hx2⟩;unfold Ev.text;rfl
      . obtain ⟨x,hx⟩:∃ x,(e.rows.map qHn)[0]?=some x:=⟨_,List.getElem?_eq_getElem (by rw [HK.out];omega)⟩
        exact World.block_lt_of_cell? wr _ (hcs 0 x hx 0 _ rfl)
      . refine Nat.le_trans (qMt _ _) ?_
        have h1:(((e.rows.map qHn).map (·.data.toList)).map List.length).sum=e.bytes:=by
         unfold Ev.bytes;rw [List.map_map,List.map_map]
         congr 1
         apply List.map_congr_left;intro r _;exact qHf r
        rw [h1,List.length_map,HK.out]
        show e.bytes+k*1<=_
        omega
def qHp (l:List Reg):Prop:=∀ r∈l,r.name.size<=9223372036854775807
theorem qYd {l:List Reg} {nm:ByteArray} (h:qHp l):((qJl l nm).getD Reg.zero).name.size<=9223372036854775807:=by
 unfold qJl
 split
 . show ByteArray.empty.size<=_
   decide
 . cases hf:l.find? (fun r=>r.name.toList == nm.toList) with
   | none=>show ByteArray.empty.size<=_;decide
   | some r=>exact h r (List.mem_of_find?_eq_some hf)
end
section
open Go.RowKit Go.ChangeShapes Go.WideShapes Go.ChangeAt
def qBw {α:Type} (P:Program) (W:World) (t:TypeId) (R:Nat->List Value->α->Prop):Prop :=
 ∀ (H:Type) (enc:TypeId × Value->H) (fuel:Nat) (cs:List Value) (x:DataW H × List MemPlace),DataW.trod enc P W 0 (fun _=>true) true fuel t cs=some x->(∀ n∈x.1.weights P t,n<=reachBytes)->∃ a,R (Rows.uptoBulk x.1) cs a
theorem qNf {H β:Type} (l:List (DataW H × β)):Rows.uptoBulkAll (l.map (·.1))=(l.map fun x=>Rows.uptoBulk x.1).sum:=by
 induction l with
 | nil=>simp [Rows.uptoBulkAll]
 | cons x l ih=>simp only [List.map_cons,Rows.uptoBulkAll,ih,List.sum_cons]
theorem qXg {H:Type}:∀ {l:List (DataW H)} {i:Nat} {d:DataW H},l[i]?=some d->Rows.uptoBulk d<=Rows.uptoBulkAll l
 | [],_,_,h=>by simp at h
 | x :: l,0,d,h=>by simp at h;subst h;simp only [Rows.uptoBulkAll];omega
 | x :: l,i+1,d,h=>by have:=qXg (l:=l) (i:=i) (by simpa using h);simp only [Rows.uptoBulkAll];omega
theorem qBw.slice {α:Type} {P:Program} {W:World} {t e:TypeId} {s bts:Nat} {R:Nat->List Value->α->Prop} (ht:P.underlying t=some (.slice e)) (hc:P.cellsOf e=s) (hs:0<s) (hb:P.bytesOf e=bts) (hR:qBw P W e R)
 {H:Type} {enc:TypeId × Value->H} {fuel:Nat} {cs:List Value} {x:DataW H × List MemPlace} (h:DataW.trod enc P W 0 (fun _=>true) true fuel t cs=some x) (hw:∀ n∈x.1.weights P t,n<=reachBytes) :
 ∃ A n c,∃ l:List (α × Nat),cs=[.slice A n c]/\n<=c/\c<=maxLen/\c*bts<=reachBytes/\Sl W s (fun w b o p=>Mem (R p.2) w b o p.1) A n l/\(l.map (·.2)).sum+1<=Rows.uptoBulk x.1:=by
 rcases DataW.trod_slice ht h with ⟨rfl,rfl⟩ | ⟨ad,len,cap,elems,rest,n,rfl,rfl,rfl,_,hlc,hcm,hel,hat,hsp,_⟩
 . exact ⟨none,0,0,[],rfl,Nat.le_refl _,by simp [maxLen],by simp [reachBytes],Sl.nil,by simp [Rows.uptoBulk]⟩
 . obtain ⟨hrl,_⟩:=hsp rfl
   simp only [DataW.weights,ht,List.mem_cons,List.mem_append,List.length_map] at hw
   have hcap:cap*bts<=reachBytes:=by
    have:=hw _ (.inl rfl);rw [hel,hrl,hb,show len+(cap-len)=cap by omega] at this;exact this
   have hall:∀ i (hi:i<elems.length),∃ a b off,ad=⟨b,off,none⟩/\Mem (R (Rows.uptoBulk elems[i].1)) W b (off+i*s) a:=by
    intro i hie;(have hi:i<len:=by omega);have h1:=hat i hi;rw [List.getElem?_eq_getElem hie,Option.bind_eq_some_iff] at h1;obtain ⟨cs',h2,h3⟩:=h1;obtain ⟨a,ha⟩:=hR H enc n cs' _ h3 (fun m hm=>hw m (.inr (.inl (qGe (List.mem_map.2 ⟨_,List.getElem_mem hie,rfl⟩) hm))));obtain ⟨_,hcl,hcc⟩:=World.cells?_some h2;rw [hc] at hcl hcc;obtain ⟨b,off,sp⟩:=ad;refine ⟨a,b,off,?_,cs',fun j u hu=>?_,ha⟩
    . have hz:=hat 0 (by omega)
      rw [List.getElem?_eq_getElem (show 0<elems.length by omega),Option.bind_eq_some_iff] at hz;obtain ⟨cz,hz2,_⟩:=hz;obtain ⟨_,hzl,hzc⟩:=World.cells?_some hz2;rw [hc] at hzl hzc;have:=hzc 0 hs;rw [List.getElem?_eq_getElem (show 0<cz.length by omega)] at this;simp only [Nat.zero_mul,Addr.add,if_true] at this;rw [qKb this]
    . have hj:j<s:=by rw [← hcl];exact (List.getElem?_eq_some_iff.1 hu).1
      have h4:=hcc j hj;rw [hu] at h4;(have e1:(⟨b,off+i*s+j,none⟩:Addr)=(Addr.add ⟨b,off,none⟩ (i*s)).add j:=by rw [Addr.add_mid,Addr.add_mid]);rw [e1]
      by_cases hz:i*s+j=0
      . have hi0:i*s=0:=by omega
        (have hj0:j=0:=by omega);rw [hi0,hj0] at h4 ⊢;simp only [Addr.add,if_true] at h4 ⊢;obtain rfl:=qKb h4;exact h4
      . have e2:(Addr.add ⟨b,off,sp⟩ (i*s)).add j=(Addr.add ⟨b,off,none⟩ (i*s)).add j:=by
         simp only [Addr.add]
         by_cases h5:i*s=0
         . rw [if_pos h5,if_pos h5,if_neg (by omega),if_neg (by omega)]
         . rw [if_neg h5,if_neg h5]
        rw [e2] at h4;exact h4
   have hbk:∀ l:List (α × Nat),l.map (·.2)=elems.map (fun y=>Rows.uptoBulk y.1)->(l.map (·.2)).sum+1<=Rows.uptoBulk (DataW.slice (elems.map (·.1)) (rest.map (·.1))):=fun l hl=>by
    rw [hl];simp only [Rows.uptoBulk,qNf];omega
   by_cases h0:len=0
   . subst h0
     exact ⟨some ad,0,cap,[],rfl,hlc,hcm,hcap,Sl.nil,hbk [] (by rw [List.eq_nil_of_length_eq_zero hel];rfl)⟩
   . obtain ⟨_,b,off,rfl,_⟩:=hall 0 (by omega)
     have key:∀ (es:List (DataW H × List MemPlace)) (k:Nat),(∀ i (hi:i<es.length),∃ a,Mem (R (Rows.uptoBulk es[i].1)) W b (off+(k+i)*s) a) ->
      ∃ l:List (α × Nat),l.length=es.length/\(∀ i p,l[i]?=some p->Mem (R p.2) W b (off+(k+i)*s) p.1)/\l.map (·.2)=es.map (fun y=>Rows.uptoBulk y.1):=by
      intro es
      induction es with
      | nil=>intro k _;exact ⟨[],rfl,fun i p h=>by simp at h,rfl⟩
      | cons y es ih =>
       intro k hes;obtain ⟨a,ha⟩:=hes 0 (by simp)
       obtain ⟨l,h1,h2,h3⟩:=ih (k+1) (fun i hi=>by
        obtain ⟨a,ha⟩:=hes (i+1) (by simp;omega);refine ⟨a,?_⟩;rw [show k+1+i=k+(i+1) by omega]
        exact ha)
       refine ⟨(a,Rows.uptoBulk y.1) :: l,by simp [h1],fun i p hp=>?_,by simp [h3]⟩
       match i,hp with
       | 0,hp=>simp at hp;subst hp;exact ha
       | i+1,hp =>
        have:=h2 i p (by simpa using hp);rw [show k+1+i=k+(i+1) by omega] at this;exact this
     obtain ⟨l,h1,h2,h3⟩:=key elems 0 (fun i hi=>by
      obtain ⟨a,b',off',he,hm⟩:=hall i hi
      cases he
      exact ⟨a,by rw [Nat.zero_add];exact hm⟩)
     refine ⟨_,len,cap,l,rfl,hlc,hcm,hcap,⟨by omega,fun _=>⟨b,off,rfl,fun i p hp=>?_⟩⟩,hbk l h3⟩;have:=h2 i p hp;rw [Nat.zero_add] at this;exact this
theorem qBw.of {α:Type} {P:Program} {W:World} {t:TypeId} {R:List Value->α->Prop} (h:qCa P W t R):qBw P W t (fun _ cs a=>R cs a):=fun H enc fuel cs x h1 h2=>h H enc fuel cs x h1 h2
theorem qBw.string {P:Program} {W:World} {t:TypeId} (ht:P.underlying t=some .string):qBw P W t (fun k cs (a:ByteArray)=>cs=[.string a]/\a.size+1<=k) :=
 fun _ _ _ _ _ h _=>by
  obtain ⟨s,h1,h2,_⟩:=DataW.trod_string ht h;subst h2;exact ⟨s,h1,by simp [Rows.uptoBulk]⟩
theorem qBw.fields {P:Program} {W:World} {t:TypeId} {fs:Array Field} (ht:P.underlying t=some (.struct fs)) {H:Type} {enc:TypeId × Value->H} {fuel:Nat} {cs:List Value} {x:DataW H × List MemPlace}
 (h:DataW.trod enc P W 0 (fun _=>true) true fuel t cs=some x) (hw:∀ n∈x.1.weights P t,n<=reachBytes) :
 cs.length=P.cellsOf t/\∃ ks:List Nat,ks.sum<=Rows.uptoBulk x.1/\ks.length=fs.size/\∀ (i:Nat) (f:Field),fs[i]?=some f->∀ {α:Type} {R:Nat->List Value->α->Prop},qBw P W f.type R->∃ a,R (ks.getD i 0) ((cs.drop f.offset).take (P.cellsOf f.type)) a:=by
 obtain ⟨xs,n,rfl,rfl,hl,hlen,hf⟩:=DataW.trod_struct ht h;refine ⟨hl,xs.map (fun y=>Rows.uptoBulk y.1),by simp only [Rows.uptoBulk,qNf];omega,by simpa using hlen,fun i f hif α R hR=>?_⟩;have h1:=hf i f hif;(have hi:i<xs.length:=by rw [hlen];exact (Array.getElem?_eq_some_iff.1 hif).1);rw [List.getElem?_eq_getElem hi] at h1;(have hk:(xs.map (fun y=>Rows.uptoBulk y.1)).getD i 0=Rows.uptoBulk xs[i].1:=by simp [hi]);rw [hk];refine hR H enc n _ _ h1 (fun m hm=>hw m ?_);simp only [DataW.weights,ht];refine qEj (i:=i) (t:=f.type) (d:=xs[i].1) ?_ ?_ hm
 . rw [List.getElem?_map]
   (have:fs.toList[i]?=some f:=by simpa using hif);(rw [this];rfl)
 . rw [List.getElem?_map,List.getElem?_eq_getElem hi];rfl
theorem Sl.mapK {α:Type} {C:World->Nat->Nat->α × Nat->Prop} {D:World->Nat->Nat->α->Prop} {w:World} {size n:Nat} {A:Option Addr} {l:List (α × Nat)} (h:Sl w size C A n l) (hcd:∀ b o p,C w b o p->D w b o p.1):Sl w size D A n (l.map (·.1)):=by
 refine ⟨by simpa using h.1,fun hn=>?_⟩;obtain ⟨b,off,hA,hc⟩:=h.2 hn;refine ⟨b,off,hA,fun i x hx=>?_⟩;rw [List.getElem?_map,Option.map_eq_some_iff] at hx;obtain ⟨p,hp,rfl⟩:=hx;exact hcd _ _ _ (hc i p hp)
theorem qOw {α:Type} {f:α->Nat}:∀ {l:List (α × Nat)},(∀ p∈l,f p.1<=p.2)->((l.map (·.1)).map f).sum<=(l.map (·.2)).sum
 | [],_=>by simp
 | p :: l,h=>by
  have h1:=h p (List.mem_cons_self ..);(have h2:=qOw (l:=l) fun q hq=>h q (List.mem_cons_of_mem _ hq));simp only [List.map_cons,List.sum_cons];omega
theorem zGu {α:Type} {f:α->Nat}:∀ {l:List α} {x:α},x∈l->f x<=(l.map f).sum
 | [],_,h=>by cases h
 | y :: l,x,h=>by
  simp only [List.map_cons,List.sum_cons]
  cases List.mem_cons.1 h with
  | inl e=>subst e;omega
  | inr e=>have:=zGu (f:=f) e;omega
set_option maxRecDepth 100000
theorem qYm (W:World):qBw Tryz.prog W 42 (fun _ cs (a:Int × Bool × Bool)=>cs=[.int .u8 a.1,.bool a.2.1,.bool a.2.2]/\0<=a.1/\a.1<=255):=.of (zCy W)
theorem zHi (W:World):qBw Tryz.prog W 102 (fun k cs (r:Run)=>cs=[.string r.text,.int .u8 r.color,.bool r.italic,.bool r.under,.string r.ruby]/\r.text.size+r.ruby.size<=k):=by
 intro H enc fuel cs x h hw;obtain ⟨hl,ks,hks,hkl,hf⟩:=qBw.fields Tryz.underlying102 h hw;rw [qUq] at hl;obtain ⟨v0,v1,v2,v3,v4,rfl⟩:=qHz hl;obtain ⟨k0,k1,k2,rfl⟩:=qCn (show ks.length=3 from hkl);obtain ⟨a0,h0,s0⟩:=hf 0 _ rfl (qBw.string Tryz.underlying9);obtain ⟨⟨a1,a2,a3⟩,h1,s1⟩:=hf 1 _ rfl (qYm W);obtain ⟨a4,h4,s4⟩:=hf 2 _ rfl (qBw.string Tryz.underlying9);simp [qCy,qNh] at h0 h1 h4 s0 s4;obtain ⟨h1,h2,h3⟩:=h1;subst h0 h1 h2 h3 h4;simp at hks;exact ⟨⟨a0,a1,a2,a3,a4⟩,rfl,by simp only;omega⟩
def qLo (r:Run):Nat:=r.text.size+r.ruby.size
def qFp (r:Row):Nat:=(r.map qLo).sum
def qIv (l:List Row):Nat:=(l.map qFp).sum
theorem qOm (r:Row):qAe r<=qFp r:=by
 unfold qAe qFp
 induction r with
 | nil=>simp
 | cons x r ih=>simp only [List.map_cons,List.sum_cons,qLo];omega
theorem zHh (W:World):qBw Tryz.prog W 61 (fun k cs (r:Row)=>(∃ A n c,cs=[.slice A n c]/\n<=c/\n*40<=140737488355328/\qBj W A n r)/\qFp r<=k):=by
 intro H enc fuel cs x h hw;obtain ⟨hl,ks,hks,hkl,hf⟩:=qBw.fields Tryz.underlying61 h hw;rw [qUp] at hl;obtain ⟨v0,rfl⟩:=qBv hl;obtain ⟨k0,rfl⟩:=qBv (show ks.length=1 from hkl)
 obtain ⟨r,h0,hb⟩:=hf 0 _ rfl (R:=fun k cs (r:Row)=>(∃ A n c,cs=[.slice A n c]/\n<=c/\n*40<=140737488355328/\qBj W A n r)/\qFp r<=k) (fun H enc fuel cs x h hw=>by
  obtain ⟨A,n,c,l,rfl,hnc,_,hb,hs,hk⟩:=qBw.slice Tryz.underlying59 qUq (by decide) zEq (zHi W) h hw;(have hn:n*40<=140737488355328:=by simp only [reachBytes] at hb;omega);refine ⟨l.map (fun p:Run × Nat=>p.1),⟨A,n,c,rfl,hnc,hn,Sl.mapK (D:=RunC) hs fun b o p hm=>?_⟩,?_⟩
  . obtain ⟨cs,h1,h2,_⟩:=hm
    subst h2;exact ⟨h1 0 _ rfl,h1 1 _ rfl,h1 2 _ rfl,h1 3 _ rfl,h1 4 _ rfl⟩
  . have:=qOw (f:=qLo) (l:=l) (fun p hp=>by
     have:=hs.all (p:=fun p=>qLo p.1<=p.2) (fun b o q hm=>by obtain ⟨_,_,_,h3⟩:=hm;exact h3) p hp
     exact this)
    unfold qFp
    omega)
 simp [zBv] at h0 hb hks;exact ⟨r,by simpa using h0,by omega⟩
def Ev.bulk (e:Ev):Nat:=qIv e.rows+e.region.size+e.speaker.size
theorem qLv:Tryz.prog.cellsOf 45=7:=by kernel_rfl
theorem qUm:Tryz.prog.bytesOf 45=56:=by kernel_rfl
theorem qYn (W:World):qCa Tryz.prog W 45 (fun cs (r:Reg)=>cs=[.string r.name,.int .i64 r.top,.int .i64 r.height,.int .i64 r.left,.int .i64 r.width,.int .u8 r.align,.bool r.bottom]/\r.name.size<=140737488351232):=by
 intro H enc fuel cs x h hw;obtain ⟨hl,hf⟩:=qCa.fields Tryz.underlying45 h hw;rw [qLv] at hl;obtain ⟨v0,v1,v2,v3,v4,v5,v6,rfl⟩:=zMl hl;obtain ⟨a0,h0,s0⟩:=hf 0 _ rfl (qCa.string Tryz.underlying9);obtain ⟨a1,h1,s1⟩:=hf 1 _ rfl (qCa.int Tryz.underlying3);obtain ⟨a2,h2,s2⟩:=hf 2 _ rfl (qCa.int Tryz.underlying3);obtain ⟨a3,h3,s3⟩:=hf 3 _ rfl (qCa.int Tryz.underlying3);obtain ⟨a4,h4,s4⟩:=hf 4 _ rfl (qCa.int Tryz.underlying3);obtain ⟨a5,h5,s5⟩:=hf 5 _ rfl (qCa.int Tryz.underlying43);obtain ⟨a6,h6⟩:=hf 6 _ rfl (qCa.bool Tryz.underlying4);simp [qCy,qKd,qIn,show Tryz.prog.cellsOf 43=1 by kernel_rfl] at h0 h1 h2 h3 h4 h5 h6;subst h0 h1 h2 h3 h4 h5 h6;exact ⟨⟨a0,a1,a2,a3,a4,a5,a6⟩,rfl,s0⟩
end
section
open Go.RowKit
def qBp:List Row->Int
 | []=>0
 | r :: l=>if qCg r=0 then qBp l else qCg r
def Ev.err (e:Ev) (regs:List Reg):Int :=
 if e.id<1\/1099511627776<e.id\/qIi e.inn e.out=false then 2
 else match qJl regs e.region with
 | none=>6
 | some r =>
  if qKn e.kind=true then 3
  else if e.speaker.toList.isEmpty=false/\qCt e.speaker=false then 5
  else if e.rows.length=0\/4<e.rows.length then 9
  else if qBp e.rows≠0 then qBp e.rows
  else r.place (e.rows.map qAs)
def zMa (w:World) (n:Nat) (rows:List Row) (i:Value) (wr:World):Prop:=∃ k:Nat,k<=n/\i = .int .i64 k/\Ext w wr/\qBp rows=qBp (rows.drop k)
theorem qPu (e:Ev) (A:Option Addr) (n c:Nat) (A2:Option Addr) (n2 c2:Nat) (regs:List Reg) (w:World) (hE:Env w) (he:EvAt w e A n c) (hb:qFi e) (hr:qFw w A2 n2 regs) (hr2:n2<=9223372036854775807) (hrs:qHp regs) :
 Calls Tryz.prog 99 #[.agg (e.cells A n c),.slice A2 n2 c2] w fun en w'=>en = .returned (.int .i64 (e.err regs))/\Ext w w':=by
 (have hn24:n * 24<=140737488355328:=by have:=he.2;omega);have HL:=gH (fun w hE he=>zAa e A n c w hE he hb.2.2);have HA:=gH he;have HLn:=gH he.len;have HEn:=gH hE;have HR:=gH hr;have HSm:=gH hb.2.2;have hspk:=hb.2.1;have hsm:=qYd (nm:=e.region) hrs;clear he hE hr hb;unfold Ev.cells at HL ⊢;have HPl:=gH (fun A n c lens w hl hn=>zEf ((qJl regs e.region).getD Reg.zero) A n c lens w hsm hl hn);go_enter Tryz.func99,Tryz.ntmps99;go_wp2_with fail;refine (zJd A2 n2 c2 regs e.region _ (HR.out.ext ((Ext.refl w).alloc _)) hr2).mono ?_;rintro en w1 ⟨rfl,hx1⟩;have HB1:=gH (Blk.ext (Blk.new w _ _) hx1);have hxw1:Ext w w1:=((Ext.refl w).alloc _).trans hx1;have hblt:w.heap.size<w1.heap.size:=HB1.out.lt;(have hbne:w.heap.size≠w1.heap.size:=by omega);(have hc1:=fun o=>HB1.out.cell o);generalize hfr:(qJl regs e.region).getD Reg.zero=r at *;have HFr:=gH hfr;clear hfr hsm;unfold Reg.val at HPl ⊢
 by_cases h1:e.id<1
 . go_wp2_with fail
   go_ret;exact ⟨qAf (by unfold Ev.err;rw [if_pos (by omega)]),hxw1.alloc _⟩
 . by_cases h2:1099511627776<e.id
   . go_wp2_with fail
     go_ret;exact ⟨qAf (by unfold Ev.err;rw [if_pos (by omega)]),hxw1.alloc _⟩
   . go_wp2_with fail
     refine (zIi _ _ _).mono ?_;rintro en w2 ⟨rfl,hx2⟩;have hxw2:Ext w w2:=(hxw1.alloc _).trans hx2;have HBa:=gH ((HB1.out.alloc (.cells #[.string r.name,.int .i64 r.top,.int .i64 r.height,.int .i64 r.left,.int .i64 r.width,.int .u8 r.align,.bool r.bottom] 45)).ext hx2);have HBr:=gH (Blk.ext (Blk.new w1 _ _) hx2);clear hc1;(have hca:=fun o=>HBa.out.cell o)
     cases hs:qIi e.inn e.out
     . have HSp:=gH hs
       clear hs;go_wp2_with fail;go_ret;exact ⟨qAf (by unfold Ev.err;rw [if_pos (.inr (.inr HSp.out))]),hxw2⟩
     . have HSp:=gH hs
       clear hs
       have HE1:Hid (¬ (e.id<1\/1099511627776<e.id\/qIi e.inn e.out=false)):=by
        show ¬ _
        rw [HSp.out];simp;omega
       cases hf:qJl regs e.region with
       | none =>
        (have HF:Hid (e.err regs=6):=by show _=_;unfold Ev.err;rw [if_neg HE1.out,hf]);clear hf;simp only [Option.isSome_none];go_wp2_with fail;go_ret;exact ⟨qAf HF.out.symm,hxw2⟩
       | some r' =>
        obtain rfl:r'=r:=by have:=HFr.out;rw [hf] at this;exact this
        have HF:Hid (e.err regs=if qKn e.kind=true then 3 else if e.speaker.toList.isEmpty=false/\qCt e.speaker=false then 5 else if e.rows.length=0\/4<e.rows.length then 9 else if qBp e.rows≠0 then qBp e.rows else r'.place (e.rows.map qAs)):=by
         show _=_;unfold Ev.err;rw [if_neg HE1.out,hf]
        clear hf HE1;simp only [Option.isSome_some];go_wp2_with fail;refine (qLs _ _).mono ?_;rintro en w3 ⟨s,rfl,hke,hx3⟩;have hxw3:Ext w w3:=hxw2.trans hx3;have HBa3:=gH (HBa.out.ext hx3);have HBr3:=gH (HBr.out.ext hx3);clear hca;(have hca:=fun o=>HBa3.out.cell o)
        cases hnk:qKn e.kind
        . rw [hnk] at hke
          have HNk:=gH hnk;clear hnk
          cases hse:e.speaker.toList.isEmpty
          . go_wp2_with fail
            refine (qDc _ _ hspk).mono ?_;rintro en w4 ⟨rfl,rfl⟩
            cases hnm:qCt e.speaker
            . have HNm:=gH hnm
              clear hnm;go_wp2_with fail;go_ret;exact ⟨qAf (by rw [HF.out,if_neg (by rw [HNk.out];simp),if_pos ⟨hse,HNm.out⟩]),hxw3⟩
            . have HF2:Hid (e.err regs=if e.rows.length=0\/4<e.rows.length then 9 else if qBp e.rows≠0 then qBp e.rows else r'.place (e.rows.map qAs)):=by
               show _=_;rw [HF.out,if_neg (by rw [HNk.out];simp),if_neg (by rw [hnm];simp)]
              clear hnm
              by_cases h5:n=0
              . subst h5
                go_wp2_with fail;go_ret;exact ⟨qAf (by rw [HF2.out,if_pos (.inl HLn.out)]),hxw3⟩
              . have h5':((n:Int) == 0)=false:=by simp;omega
                by_cases h6:4<n
                . have h6':(4:Int)<(n:Int):=by omega
                  clear h5;go_wp2_with fail;go_ret;exact ⟨qAf (by rw [HF2.out,if_pos (.inr (by rw [HLn.out];exact h6))]),hxw3⟩
                . have h6':(n:Int)<=4:=by omega
                  (have HF3:Hid (e.err regs=if qBp e.rows≠0 then qBp e.rows else r'.place (e.rows.map qAs)):=by show _=_;rw [HF2.out,if_neg (by rw [HLn.out];omega)]);clear HF2 h5 h6;go_wp2_with fail;clear hca
                  go_loopw [66] (fun i wr=>zMa w3 n e.rows i wr) (fun i _=>n-(intOf i).toNat)
                  case atStart=>exact ⟨0,Nat.zero_le _,rfl,Ext.refl _,rfl⟩
                  case round =>
                   obtain ⟨k,hk,rfl,hx,hp⟩:=hrel;have HP:=gH hp;clear hp;have hxw:Ext w wr:=hxw3.trans hx
                   by_cases hlt:k<n
                   . obtain ⟨b,off,rw_,rfl,hrw,A',n',c',hcell,hnc,hc40,hruns⟩:=(HA.out.ext hxw).1.at_ hlt
                     simp only [Nat.mul_one] at hcell;have HRu:=gH hruns;have HD:=gH (qDh e.rows k rw_ hrw);have hsmr:=HSm.out rw_ (List.mem_of_getElem? hrw);have HSr:=gH hsmr;clear hrw hruns hsmr;go_wp2_with fail;refine (zHw A' n' c' rw_ _ (HEn.out.ext (hxw.alloc _)) (HRu.out.ext ((Ext.refl wr).alloc _)) HSr.out.2 (by omega) HSr.out.1).mono ?_;rintro en w4 ⟨rfl,hx4⟩
                     by_cases hre:qCg rw_=0
                     . have hre':(qCg rw_ != 0)=false:=by simp [hre]
                       (have HP2:Hid (qBp e.rows=qBp (e.rows.drop (k+1))):=by show _=_;rw [HP.out,HD.out,qBp,if_pos hre]);clear hre;go_wp2_with fail;exact ⟨⟨k+1,by omega,by go_num,(hx.alloc _).trans hx4,HP2.out⟩,by simp [intOf];omega⟩
                     . have hre':(qCg rw_ != 0)=true:=by simp [hre]
                       (have HP2:Hid (qBp e.rows=qCg rw_):=by show _=_;rw [HP.out,HD.out,qBp,if_neg hre]);have HNe:=gH hre;clear hre;go_wp2_with fail;go_ret;exact ⟨qAf (by rw [HF3.out,HP2.out,if_pos HNe.out]),(hxw.alloc _).trans hx4⟩
                   . have HD:Hid (e.rows.drop k=[]):=List.drop_eq_nil_of_le (by rw [HLn.out];omega)
                     (have HF4:Hid (e.err regs=r'.place (e.rows.map qAs)):=by show _=_;rw [HF3.out,HP.out,HD.out,if_neg (by simp [qBp])]);have y0:=(HBa3.out.ext hx).cell;have y1:=(HBr3.out.ext hx).cell;have y00:=y0 0;have y01:=y0 1;have y02:=y0 2;have y03:=y0 3;have y04:=y0 4;have y05:=y0 5;have y06:=y0 6;have y10:=y1 0;have y11:=y1 1;have y12:=y1 2;have y13:=y1 3;have y14:=y1 4;have y15:=y1 5;have y16:=y1 6;simp at y00 y01 y02 y03 y04 y05 y06 y10 y11 y12 y13 y14 y15 y16;clear y0 y1;go_wp2_with fail
                     go_region_held3 (fun w'=>w'.cell? ⟨w.heap.size,0,none⟩=some (.int .i64 e.id)/\w'.cell? ⟨w.heap.size,1,none⟩=some (.int .i64 e.inn)/\w'.cell? ⟨w.heap.size,2,none⟩=some (.int .i64 e.out)/\w'.cell? ⟨w.heap.size,3,none⟩=some (.string e.region)/\w'.cell? ⟨w.heap.size,4,none⟩=some (.int .u8 e.kind)/\w'.cell? ⟨w.heap.size,5,none⟩=some (.string e.speaker)/\w'.cell? ⟨w.heap.size,6,none⟩=some (.slice A n c) /\
                      w'.cell? ⟨w1.heap.size,0,none⟩=some (.string r'.name)/\w'.cell? ⟨w1.heap.size,1,none⟩=some (.int .i64 r'.top)/\w'.cell? ⟨w1.heap.size,2,none⟩=some (.int .i64 r'.height)/\w'.cell? ⟨w1.heap.size,3,none⟩=some (.int .i64 r'.left)/\w'.cell? ⟨w1.heap.size,4,none⟩=some (.int .i64 r'.width)/\w'.cell? ⟨w1.heap.size,5,none⟩=some (.int .u8 r'.align)/\w'.cell? ⟨w1.heap.size,6,none⟩=some (.bool r'.bottom))
                      (first | go_keep | (go_split_ands;refine ⟨?_,?_,?_,?_,?_,?_,?_,?_,?_,?_,?_,?_,?_,?_⟩<;>(apply hx6.cell;assumption)) | (go_split_ands;refine ⟨?_,?_,?_,?_,?_,?_,?_,?_,?_,?_,?_,?_,?_,?_⟩<;>(apply hx5.cell;assumption)))
                      (first | (go_at_call 183;refine (HL.out _ (HEn.out.ext (by exact hxw.drew)) (HA.out.ext (by exact hxw.drew))).mono ?_;rintro en w5 ⟨A1,n1,c1,rfl,hints,hnc1,hx5⟩) | (go_at_call 182;refine (HPl.out _ _ _ _ _ hints (by have:=hints.len;rw [List.length_map,HLn.out] at this;omega)).mono ?_;rintro en w6 ⟨A3,n3,c3,rfl,hsp,hnc3,hx6⟩))
                     go_wp2_with fail;go_ret;exact ⟨qAf HF4.out.symm,(hxw.drew.trans hx5).trans hx6⟩
          . have HF2:Hid (e.err regs=if e.rows.length=0\/4<e.rows.length then 9 else if qBp e.rows≠0 then qBp e.rows else r'.place (e.rows.map qAs)):=by
             show _=_;rw [HF.out,if_neg (by rw [HNk.out];simp),if_neg (by rw [hse];simp)]
            by_cases h5:n=0
            . subst h5
              go_wp2_with fail;go_ret;exact ⟨qAf (by rw [HF2.out,if_pos (.inl HLn.out)]),hxw3⟩
            . have h5':((n:Int) == 0)=false:=by simp;omega
              by_cases h6:4<n
              . have h6':(4:Int)<(n:Int):=by omega
                clear h5;go_wp2_with fail;go_ret;exact ⟨qAf (by rw [HF2.out,if_pos (.inr (by rw [HLn.out];exact h6))]),hxw3⟩
              . have h6':(n:Int)<=4:=by omega
                (have HF3:Hid (e.err regs=if qBp e.rows≠0 then qBp e.rows else r'.place (e.rows.map qAs)):=by show _=_;rw [HF2.out,if_neg (by rw [HLn.out];omega)]);clear HF2 h5 h6;go_wp2_with fail;clear hca
                go_loopw [66] (fun i wr=>zMa w3 n e.rows i wr) (fun i _=>n-(intOf i).toNat)
                case atStart=>exact ⟨0,Nat.zero_le _,rfl,Ext.refl _,rfl⟩
                case round =>
                 obtain ⟨k,hk,rfl,hx,hp⟩:=hrel;have HP:=gH hp;clear hp;have hxw:Ext w wr:=hxw3.trans hx
                 by_cases hlt:k<n
                 . obtain ⟨b,off,rw_,rfl,hrw,A',n',c',hcell,hnc,hc40,hruns⟩:=(HA.out.ext hxw).1.at_ hlt
                   simp only [Nat.mul_one] at hcell;have HRu:=gH hruns;have HD:=gH (qDh e.rows k rw_ hrw);have hsmr:=HSm.out rw_ (List.mem_of_getElem? hrw);have HSr:=gH hsmr;clear hrw hruns hsmr;go_wp2_with fail;refine (zHw A' n' c' rw_ _ (HEn.out.ext (hxw.alloc _)) (HRu.out.ext ((Ext.refl wr).alloc _)) HSr.out.2 (by omega) HSr.out.1).mono ?_;rintro en w4 ⟨rfl,hx4⟩
                   by_cases hre:qCg rw_=0
                   . have hre':(qCg rw_ != 0)=false:=by simp [hre]
                     (have HP2:Hid (qBp e.rows=qBp (e.rows.drop (k+1))):=by show _=_;rw [HP.out,HD.out,qBp,if_pos hre]);clear hre;go_wp2_with fail;exact ⟨⟨k+1,by omega,by go_num,(hx.alloc _).trans hx4,HP2.out⟩,by simp [intOf];omega⟩
                   . have hre':(qCg rw_ != 0)=true:=by simp [hre]
                     (have HP2:Hid (qBp e.rows=qCg rw_):=by show _=_;rw [HP.out,HD.out,qBp,if_neg hre]);have HNe:=gH hre;clear hre;go_wp2_with fail;go_ret;exact ⟨qAf (by rw [HF3.out,HP2.out,if_pos HNe.out]),(hxw.alloc _).trans hx4⟩
                 . have HD:Hid (e.rows.drop k=[]):=List.drop_eq_nil_of_le (by rw [HLn.out];omega)
                   (have HF4:Hid (e.err regs=r'.place (e.rows.map qAs)):=by show _=_;rw [HF3.out,HP.out,HD.out,if_neg (by simp [qBp])]);have y0:=(HBa3.out.ext hx).cell;have y1:=(HBr3.out.ext hx).cell;have y00:=y0 0;have y01:=y0 1;have y02:=y0 2;have y03:=y0 3;have y04:=y0 4;have y05:=y0 5;have y06:=y0 6;have y10:=y1 0;have y11:=y1 1;have y12:=y1 2;have y13:=y1 3;have y14:=y1 4;have y15:=y1 5;have y16:=y1 6;simp at y00 y01 y02 y03 y04 y05 y06 y10 y11 y12 y13 y14 y15 y16;clear y0 y1;go_wp2_with fail
                   go_region_held3 (fun w'=>w'.cell? ⟨w.heap.size,0,none⟩=some (.int .i64 e.id)/\w'.cell? ⟨w.heap.size,1,none⟩=some (.int .i64 e.inn)/\w'.cell? ⟨w.heap.size,2,none⟩=some (.int .i64 e.out)/\w'.cell? ⟨w.heap.size,3,none⟩=some (.string e.region)/\w'.cell? ⟨w.heap.size,4,none⟩=some (.int .u8 e.kind)/\w'.cell? ⟨w.heap.size,5,none⟩=some (.string e.speaker)/\w'.cell? ⟨w.heap.size,6,none⟩=some (.slice A n c) /\
                    w'.cell? ⟨w1.heap.size,0,none⟩=some (.string r'.name)/\w'.cell? ⟨w1.heap.size,1,none⟩=some (.int .i64 r'.top)/\w'.cell? ⟨w1.heap.size,2,none⟩=some (.int .i64 r'.height)/\w'.cell? ⟨w1.heap.size,3,none⟩=some (.int .i64 r'.left)/\w'.cell? ⟨w1.heap.size,4,none⟩=some (.int .i64 r'.width)/\w'.cell? ⟨w1.heap.size,5,none⟩=some (.int .u8 r'.align)/\w'.cell? ⟨w1.heap.size,6,none⟩=some (.bool r'.bottom))
                    (first | go_keep | (go_split_ands;refine ⟨?_,?_,?_,?_,?_,?_,?_,?_,?_,?_,?_,?_,?_,?_⟩<;>(apply hx6.cell;assumption)) | (go_split_ands;refine ⟨?_,?_,?_,?_,?_,?_,?_,?_,?_,?_,?_,?_,?_,?_⟩<;>(apply hx5.cell;assumption)))
                    (first | (go_at_call 183;refine (HL.out _ (HEn.out.ext (by exact hxw.drew)) (HA.out.ext (by exact hxw.drew))).mono ?_;rintro en w5 ⟨A1,n1,c1,rfl,hints,hnc1,hx5⟩) | (go_at_call 182;refine (HPl.out _ _ _ _ _ hints (by have:=hints.len;rw [List.length_map,HLn.out] at this;omega)).mono ?_;rintro en w6 ⟨A3,n3,c3,rfl,hsp,hnc3,hx6⟩))
                   go_wp2_with fail;go_ret;exact ⟨qAf HF4.out.symm,(hxw.drew.trans hx5).trans hx6⟩
        . rw [hnk] at hke
          have HNk:=gH hnk;clear hnk;go_wp2_with fail;go_ret;exact ⟨qAf (by rw [HF.out,if_pos HNk.out]),hxw3⟩
def cmpI (a b:Int):Int:=if a<b then -1 else if b<a then 1 else 0
theorem zGo (a:Int) (w:World):Calls Tryz.prog 234 #[.int .i64 a] w fun e w'=>e = .returned (.bool false)/\w=w':=by
 go_enter Tryz.func234,Tryz.ntmps234;go_wp2;go_ret;exact ⟨rfl,rfl⟩
theorem qNb (a b:Int) (w:World):Calls Tryz.prog 185 #[.int .i64 a,.int .i64 b] w fun e w'=>e = .returned (.int .i64 (cmpI a b))/\w=w':=by
 go_enter Tryz.func185,Tryz.ntmps185;go_wp2_with (first | (go_at_call 234;refine (zGo _ _).mono ?_;rintro e w' ⟨rfl,rfl⟩))
 all_goals go_ret
 . exact ⟨qAf (by unfold cmpI;simp;omega),rfl⟩
 . exact ⟨qAf (by unfold cmpI;rw [if_neg (by omega),if_pos (by omega)]),rfl⟩
 . exact ⟨qAf (by unfold cmpI;rw [if_neg (by omega),if_neg (by omega)]),rfl⟩
end
end Go.Proofs.YtneffpbodfjceaaGreatDoor