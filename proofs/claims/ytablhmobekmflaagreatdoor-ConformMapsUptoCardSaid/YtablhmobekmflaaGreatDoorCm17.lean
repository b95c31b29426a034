/- Texts laid together. -/
import Derived.Test.YtablhmobekmflaaGreatDoorCm16
import Derived.Shelf.SlSortCmp.WholeK
import Derived.Shelf.SlSortCmp.NoneTotal
import Derived.Test.YtablhmobekmflaaGreatDoorCm12
import Derived.Test.YtablhmobekmflaaGreatDoorCm15
import Derived.Test.YtablhmobekmflaaGreatDoorCm02
import Derived.Test.YtablhmobekmflaaGreatDoorCm08
import Derived.Test.YtablhmobekmflaaGreatDoorCm09
import Derived.Test.YtablhmobekmflaaGreatDoorCm11
import Derived.Test.YtablhmobekmflaaGreatDoorCm01
set_option linter.unusedVariables false
set_option linter.unusedSimpArgs false
set_option maxRecDepth 100000
namespace Go.Proofs.YtablhmobekmflaaGreatDoor
section
open Go.RowKit
theorem qDp:(Tryz.prog.info? 105).map (fun i=>(i.zero,i.size,i.bytes))=some (some (.agg #[.string ⟨#[]⟩,.int .i64 0,.int .i64 0,.int .i64 0,.int .i64 0,.int .u8 0,.bool false]),7,56):=by kernel_rfl
theorem info_comI:(Tryz.prog.info? 152).map (fun i=>(i.zero,i.size,i.bytes))=some (some (.agg #[.int .i64 0,.int .i64 0,.int .i64 0,.int .i64 0,.string ⟨#[]⟩,.string ⟨#[]⟩,.bool false,.bool false]),8,72):=by kernel_rfl
theorem info_evtI:(Tryz.prog.info? 64).map (fun i=>(i.zero,i.size,i.bytes))=some (some (.agg #[.int .i64 0,.int .i64 0,.int .i64 0,.string ⟨#[]⟩,.int .u8 0,.string ⟨#[]⟩,.slice none 0 0]),7,88):=by kernel_rfl
theorem qGm:∀ (r:Reg),∀ u∈r.vals,u.oneCell'=true:=by intro r u hu;simp [Reg.vals] at hu;rcases hu with rfl | rfl | rfl | rfl | rfl | rfl | rfl<;>rfl
theorem com_ones:∀ (r:Com),∀ u∈r.vals,u.oneCell'=true:=by intro r u hu;simp [Com.vals] at hu;rcases hu with rfl | rfl | rfl | rfl | rfl | rfl | rfl | rfl<;>rfl
theorem eh_ones:∀ (r:EH),∀ u∈r.vals,u.oneCell'=true:=by intro r u hu;simp [EH.vals] at hu;rcases hu with rfl | rfl | rfl | rfl | rfl | rfl | rfl<;>rfl
def CloneRegsPost (l:List Reg) (n:Nat) (w:World) (e:Ending) (w':World):Prop :=
 ∃ A c,e = .returned (.slice A n c)∧w'.ownsRow w.heap.size 105 7 (.slice A n c) n (l.flatMap Reg.vals)∧Ext w w'
set_option maxHeartbeats 1000000 in
theorem CloneRegs_any (A:Option Addr) (n c:Nat) (l:List Reg) (w:World) (hl:Sl w 7 (Cells Reg.vals) A n l) (hn:n*56≤140737488355328) :
 Calls Tryz.prog 116 #[.slice A n c] w (CloneRegsPost l n w):=by
 (have hq:=fun w=>Lib.run_eql_slice_nil (P:=Tryz.prog) w 48 105 A n c 0 0 Tryz.underlying48);have HL:=gH hl;clear hl
 cases A with
 | none =>
  have hn0:n=0:=by
   rcases Nat.eq_zero_or_pos n with h | h
   · exact h
   · obtain ⟨_,_,h,_⟩:=HL.out.2 h;cases h
  subst hn0;have hs0:l=[]:=List.eq_nil_of_length_eq_zero HL.out.len;subst hs0;simp only [Option.isNone_none] at hq;go_enter Tryz.func116,Tryz.ntmps116;go_wp2_with fail;go_ret;exact ⟨none,0,rfl,⟨rfl,.inl ⟨rfl,rfl⟩⟩,Ext.refl _⟩
 | some ad =>
  simp only [Option.isNone_some] at hq;go_enter Tryz.func116,Tryz.ntmps116;go_wp2_with (at_builtin;refine qAl rfl (.tmp 5) (.tmp 6) 48 rfl qDp Tryz.underlying48 rfl (by decide) (by exact qIt w _ _ w.heap.size (Nat.le_refl _)) (by exact rfl) (by exact rfl) (by exact Sl.ext (Cells.stays _) HL.out ((Ext.refl w).alloc _)) (fun _=>rfl) qGm (by omega) (by simp [maxLen];omega) (by simp) ?_;intro v' w' hown hgr hnil);go_ret;simp only [Nat.zero_add,List.nil_append] at hown;obtain ⟨A',c',rfl,hc,_,hsl,hfr⟩:=qBg (f:=Reg.vals) (size:=7) (fun _=>rfl) HL.out.len hown;exact ⟨A',c',rfl,hown,((Ext.refl w).alloc _).grown hgr (fun q hq=>by simp [Value.ownBlock] at hq;omega)⟩
def CloneComsPost (l:List Com) (n:Nat) (w:World) (e:Ending) (w':World):Prop :=
 ∃ A c,e = .returned (.slice A n c)∧w'.ownsRow w.heap.size 152 8 (.slice A n c) n (l.flatMap Com.vals)∧Ext w w'
set_option maxHeartbeats 1000000 in
theorem CloneComs_any (A:Option Addr) (n c:Nat) (l:List Com) (w:World) (hl:Sl w 8 (Cells Com.vals) A n l) (hn:n*72≤140737488355328) :
 Calls Tryz.prog 117 #[.slice A n c] w (CloneComsPost l n w):=by
 (have hq:=fun w=>Lib.run_eql_slice_nil (P:=Tryz.prog) w 50 152 A n c 0 0 Tryz.underlying50);have HL:=gH hl;clear hl
 cases A with
 | none =>
  have hn0:n=0:=by
   rcases Nat.eq_zero_or_pos n with h | h
   · exact h
   · obtain ⟨_,_,h,_⟩:=HL.out.2 h;cases h
  subst hn0;have hs0:l=[]:=List.eq_nil_of_length_eq_zero HL.out.len;subst hs0;simp only [Option.isNone_none] at hq;go_enter Tryz.func117,Tryz.ntmps117;go_wp2_with fail;go_ret;exact ⟨none,0,rfl,⟨rfl,.inl ⟨rfl,rfl⟩⟩,Ext.refl _⟩
 | some ad =>
  simp only [Option.isNone_some] at hq;go_enter Tryz.func117,Tryz.ntmps117;go_wp2_with (at_builtin;refine qAl rfl (.tmp 5) (.tmp 6) 50 rfl info_comI Tryz.underlying50 rfl (by decide) (by exact qIt w _ _ w.heap.size (Nat.le_refl _)) (by exact rfl) (by exact rfl) (by exact Sl.ext (Cells.stays _) HL.out ((Ext.refl w).alloc _)) (fun _=>rfl) com_ones (by omega) (by simp [maxLen];omega) (by simp) ?_;intro v' w' hown hgr hnil);go_ret;simp only [Nat.zero_add,List.nil_append] at hown;obtain ⟨A',c',rfl,hc,_,hsl,hfr⟩:=qBg (f:=Com.vals) (size:=8) (fun _=>rfl) HL.out.len hown;exact ⟨A',c',rfl,hown,((Ext.refl w).alloc _).grown hgr (fun q hq=>by simp [Value.ownBlock] at hq;omega)⟩
def CloneEHsPost (l:List EH) (n:Nat) (w:World) (e:Ending) (w':World):Prop :=
 ∃ A c,e = .returned (.slice A n c)∧w'.ownsRow w.heap.size 64 7 (.slice A n c) n (l.flatMap EH.vals)∧Ext w w'
set_option maxHeartbeats 1000000 in
theorem CloneEHs_any (A:Option Addr) (n c:Nat) (l:List EH) (w:World) (hl:Sl w 7 (Cells EH.vals) A n l) (hn:n*88≤140737488355328) :
 Calls Tryz.prog 118 #[.slice A n c] w (CloneEHsPost l n w):=by
 (have hq:=fun w=>Lib.run_eql_slice_nil (P:=Tryz.prog) w 49 64 A n c 0 0 Tryz.underlying49);have HL:=gH hl;clear hl
 cases A with
 | none =>
  have hn0:n=0:=by
   rcases Nat.eq_zero_or_pos n with h | h
   · exact h
   · obtain ⟨_,_,h,_⟩:=HL.out.2 h;cases h
  subst hn0;have hs0:l=[]:=List.eq_nil_of_length_eq_zero HL.out.len;subst hs0;simp only [Option.isNone_none] at hq;go_enter Tryz.func118,Tryz.ntmps118;go_wp2_with fail;go_ret;exact ⟨none,0,rfl,⟨rfl,.inl ⟨rfl,rfl⟩⟩,Ext.refl _⟩
 | some ad =>
  simp only [Option.isNone_some] at hq;go_enter Tryz.func118,Tryz.ntmps118;go_wp2_with (at_builtin;refine qAl rfl (.tmp 5) (.tmp 6) 49 rfl info_evtI Tryz.underlying49 rfl (by decide) (by exact qIt w _ _ w.heap.size (Nat.le_refl _)) (by exact rfl) (by exact rfl) (by exact Sl.ext (Cells.stays _) HL.out ((Ext.refl w).alloc _)) (fun _=>rfl) eh_ones (by omega) (by simp [maxLen];omega) (by simp) ?_;intro v' w' hown hgr hnil);go_ret;simp only [Nat.zero_add,List.nil_append] at hown;obtain ⟨A',c',rfl,hc,_,hsl,hfr⟩:=qBg (f:=EH.vals) (size:=7) (fun _=>rfl) HL.out.len hown;exact ⟨A',c',rfl,hown,((Ext.refl w).alloc _).grown hgr (fun q hq=>by simp [Value.ownBlock] at hq;omega)⟩
theorem qDs.vals {w:World} {A:Option Addr} {n:Nat} {l:List Reg} (h:qDs w A n l):Sl w 7 (Cells Reg.vals) A n l:=Sl.change h fun _ _ _=>cells_regC
theorem evs_heads {w:World} {A:Option Addr} {n:Nat} {l:List Ev} (h:qKw w A n l):∃ hs:List EH,Sl w 7 (Cells EH.vals) A n hs∧∀ (i:Nat) (x:EH) (e:Ev),hs[i]?=some x→l[i]?=some e→x=EH.of e x.A x.n x.c∧EvAt w e x.A x.n x.c:=by
 have hall:∀ i:Nat,∃ x:EH,i<n→(∀ b off,A=some ⟨b,off,none⟩→∀ j u,x.vals[j]?=some u→w.cell? ⟨b,off+i*7+j,none⟩=some u)∧∀ e,l[i]?=some e→x=EH.of e x.A x.n x.c∧EvAt w e x.A x.n x.c:=by
  intro i
  by_cases hi:i<n
  · obtain ⟨b,off,e,hA,he,A',n',c',h1,h2⟩:=h.at_ hi
    refine ⟨EH.of e A' n' c',fun _=>⟨fun b' off' hA'=>?_,fun e' he'=>?_⟩⟩
    · rw [hA] at hA'
      cases hA'
      exact h1
    · rw [he] at he'
      cases he'
      exact ⟨rfl,h2⟩
  · exact ⟨⟨0,0,0,⟨#[]⟩,0,⟨#[]⟩,none,0,0⟩,fun h=>absurd h hi⟩
 obtain ⟨f,hf⟩:=Classical.axiomOfChoice hall
 have hat:∀ (i:Nat) (x:EH),((List.range n).map f)[i]?=some x→i<n∧x=f i:=fun i x hx=>by
  have hi:i<n:=by
   have:=(List.getElem?_eq_some_iff.1 hx).1;simpa using this
  rw [List.getElem?_map,List.getElem?_range hi] at hx;exact ⟨hi,(Option.some.inj hx).symm⟩
 refine ⟨(List.range n).map f,⟨by simp,fun hn=>?_⟩,fun i x e hx he=>?_⟩
 · obtain ⟨b,off,hA,_⟩:=h.2 hn
   refine ⟨b,off,hA,fun i x hx j u hu=>?_⟩;obtain ⟨hi,rfl⟩:=hat i x hx;exact (hf i hi).1 b off hA j u hu
 · obtain ⟨hi,rfl⟩:=hat i x hx
   exact (hf i hi).2 e he
end
section
open Go.RowKit Go.Shelf Go.Sort
def rgIx (l:List Reg) (g:Reg):Int:=match l.findIdx? (fun x=>decide (x=g)) with | some k=>(k:Int) | none=>-1
theorem rgIx_has (l:List Reg) (g:Reg):decide (rgIx l g≥0)=decide (g∈l):=by
 unfold rgIx
 cases h:l.findIdx? (fun x=>decide (x=g)) with
 | none =>
  have:=List.findIdx?_eq_none_iff.1 h
  have hg:¬ g∈l:=fun hg=>by
   have:=this g hg;simp at this
  simp [hg]
 | some k =>
  obtain ⟨hk,h1,-⟩:=List.findIdx?_eq_some_iff_getElem.1 h;(have h1:l[k]=g:=by simpa using h1);(have hg:g∈l:=by rw [← h1];exact List.getElem_mem hk);simp [hg]
theorem rgIx_step {l:List Reg} {k:Nat} {x g:Reg} (hx:l[k]?=some x) (hp:∀ y∈l.take k,y≠g):(x=g→rgIx l g=k)∧(x≠g→∀ y∈l.take (k+1),y≠g):=by
 obtain ⟨hk,hxk⟩:=List.getElem?_eq_some_iff.1 hx;refine ⟨fun h=>?_,fun h y hy=>?_⟩
 · have:l.findIdx? (fun x=>decide (x=g))=some k:=List.findIdx?_eq_some_iff_getElem.2 ⟨hk,by simp [hxk,h],fun j hj=>by
    have:=hp l[j] (List.mem_take_iff_getElem.2 ⟨j,by omega,rfl⟩)
    simp [this]⟩
   unfold rgIx;rw [this]
 · rw [take_snoc' _ _ _ hx] at hy
   rcases List.mem_append.1 hy with hy | hy
   · exact hp y hy
   · simp at hy;subst hy;exact h
theorem rgIx_none {l:List Reg} {g:Reg} (hp:∀ y∈l,y≠g):rgIx l g = -1:=by
 unfold rgIx;rw [List.findIdx?_eq_none_iff.2 (fun y hy=>by simpa using hp y hy)]
def RiRel (w:World) (n:Nat) (l:List Reg) (g:Reg) (i:Value) (wr:World):Prop:=∃ k:Nat,k≤n∧i = .int .i64 k∧Ext w wr∧∀ y∈l.take k,y≠g
set_option maxHeartbeats 4000000 in
theorem RgIndex_any (A:Option Addr) (n c:Nat) (l:List Reg) (g:Reg) (w:World) (hl:qDs w A n l) (hn:n≤4611686018427387904) :
 Calls Tryz.prog 166 #[.slice A n c,g.val] w fun e w'=>e = .returned (.int .i64 (rgIx l g))∧Ext w w':=by
 have HL:=gH hl;have HLn:=gH hl.len;have HX0:=gH ((Ext.refl w).alloc (.cells #[.string g.name,.int .i64 g.top,.int .i64 g.height,.int .i64 g.left,.int .i64 g.width,.int .u8 g.align,.bool g.bottom] 105));have HB0:=gH (Blk.new w 105 #[.string g.name,.int .i64 g.top,.int .i64 g.height,.int .i64 g.left,.int .i64 g.width,.int .u8 g.align,.bool g.bottom]);clear hl;unfold Reg.val;go_enter Tryz.func166,Tryz.ntmps166;go_wp2_with fail
 go_loopw [8] (fun i wr=>RiRel (w.alloc (.cells #[.string g.name,.int .i64 g.top,.int .i64 g.height,.int .i64 g.left,.int .i64 g.width,.int .u8 g.align,.bool g.bottom] 105)) n l g i wr) (fun i _=>n-(intOf i).toNat)
 case atStart=>exact ⟨0,Nat.zero_le _,rfl,Ext.refl _,by simp⟩
 case round =>
  obtain ⟨k,hk,rfl,hx,hp⟩:=hrel;have HX:=gH hx;have HP:=gH hp;have HBg:=gH (HB0.out.ext hx);have g0:=HBg.out.cell 0;have g1:=HBg.out.cell 1;have g2:=HBg.out.cell 2;have g3:=HBg.out.cell 3;have g4:=HBg.out.cell 4;have g5:=HBg.out.cell 5;have g6:=HBg.out.cell 6;simp only [gA,gB,gC] at g0 g1 g2 g3 g4 g5 g6;clear hx hp
  by_cases hlt:k<n
  · obtain ⟨b,off,r,rfl,hr,c0,c1,c2,c3,c4,c5,c6⟩:=(HL.out.ext (HX0.out.trans HX.out)).at_ hlt
    have HS:=gH (rgIx_step hr HP.out);(have hk0:(0:Int)≤(k:Int):=by omega);(have hk1:(k:Int)<(n:Int):=by omega);clear hr
    by_cases hq:r=g
    · have HT:=gH (HS.out.1 hq)
      subst hq;(have he:=fun w=>qJy r w);unfold Reg.val at he;go_wp2_with fail;go_quiet (fail);go_wp2_with fail;go_ret;exact ⟨qAa HT.out.symm,(HX0.out.trans HX.out).drewN _⟩
    · have HT:=gH (HS.out.2 hq)
      (have he:=fun w=>qLw (fun h=>hq (Eq.symm h):¬ g=r) w);unfold Reg.val at he;clear hq;go_wp2_with fail;go_quiet (fail);go_wp2_with fail;exact ⟨⟨k+1,by omega,by go_num,HX.out.drewN _,HT.out⟩,by simp [intOf];omega⟩
  · have hkn:k=n:=by omega
    subst hkn;have HT:Hid (rgIx l g = -1):=rgIx_none (by have:=HP.out;rwa [List.take_of_length_le (by have:=HLn.out;omega)] at this);go_wp2_with fail;go_ret;exact ⟨qAa HT.out.symm,HX0.out.trans HX.out⟩
set_option maxHeartbeats 1000000 in
theorem RgContains_any (A:Option Addr) (n c:Nat) (l:List Reg) (g:Reg) (w:World) (hl:qDs w A n l) (hn:n≤4611686018427387904) :
 Calls Tryz.prog 102 #[.slice A n c,g.val] w fun e w'=>e = .returned (.bool (decide (g∈l)))∧Ext w w':=by
 have HX0:=gH ((Ext.refl w).alloc (.cells #[.string g.name,.int .i64 g.top,.int .i64 g.height,.int .i64 g.left,.int .i64 g.width,.int .u8 g.align,.bool g.bottom] 105));have HB0:=gH (Blk.new w 105 #[.string g.name,.int .i64 g.top,.int .i64 g.height,.int .i64 g.left,.int .i64 g.width,.int .u8 g.align,.bool g.bottom]);have HI:=gH (RgIndex_any A n c l g _ (hl.ext HX0.out) hn);have HF:=gH (rgIx_has l g);clear hl;generalize rgIx l g=ix at *;unfold Reg.val at *;go_enter Tryz.func102,Tryz.ntmps102;go_wp2_with (refine qAc rfl 105 (.tmp 3) rfl w.heap.size 105 _ _ (by exact rfl) (by exact HB0.out) Tryz.underlying105 rfl (by exact qBw) ?_);refine HI.out.mono ?_;rintro e w1 ⟨rfl,hx⟩;have HX1:=gH (HX0.out.trans hx);clear hx;go_wp2_with fail;go_ret;exact ⟨qAg HF.out,HX1.out⟩
def cmpB (a b:ByteArray):Int:=if Op.bytesLess a.toList b.toList=true then -1 else if Op.bytesLess b.toList a.toList=true then 1 else 0
theorem qMs (a:ByteArray) (w:World):Calls Tryz.prog 169 #[.string a] w fun e w'=>e = .returned (.bool false)∧w=w':=by
 go_enter Tryz.func169,Tryz.ntmps169;go_wp2;go_ret;exact ⟨by simp,rfl⟩
theorem less_gt (a b:ByteArray):(Op.bytesLess a.toList b.toList || a.toList == b.toList) = !Op.bytesLess b.toList a.toList:=by
 rw [bytesLess_eq,bytesLess_eq]
 by_cases h:b.toList<a.toList
 · have h1:¬ a.toList<b.toList:=fun k=>Bs.lt_irrefl _ (Bs.lt_trans h k)
   (have h2:¬ a.toList=b.toList:=fun k=>by rw [k] at h;exact Bs.lt_irrefl _ h);simp [h,h1,h2]
 · rcases Classical.em (a.toList=b.toList) with h1 | h1
   · simp [h,h1]
   · have h2:a.toList<b.toList:=Bs.lt_of_le_of_ne (List.not_lt.1 h) h1
     simp [h,h2]
set_option maxHeartbeats 1000000 in
theorem Compares_any (a b:ByteArray) (w:World):Calls Tryz.prog 105 #[.string a,.string b] w fun e w'=>e = .returned (.int .i64 (cmpB a b))∧w=w':=by
 have HG:=gH (less_gt a b)
 cases h1:Op.bytesLess a.toList b.toList with
 | true =>
  (have HF:Hid (cmpB a b = -1):=by show _=_;unfold cmpB;rw [if_pos h1]);go_enter Tryz.func105,Tryz.ntmps105;go_wp2_with (first | (go_at_call 169;refine (qMs _ _).mono ?_;rintro e w' ⟨rfl,rfl⟩));go_ret;exact ⟨qAa HF.out.symm,rfl⟩
 | false =>
  cases h2:Op.bytesLess b.toList a.toList with
  | true =>
   (have HF:Hid (cmpB a b=1):=by show _=_;unfold cmpB;rw [h1,if_neg (by decide),if_pos h2]);(have h3:(a.toList == b.toList)=false:=by have:=HG.out;rw [h1,h2] at this;simpa using this);go_enter Tryz.func105,Tryz.ntmps105;go_wp2_with (first | (go_at_call 169;refine (qMs _ _).mono ?_;rintro e w' ⟨rfl,rfl⟩));go_ret;exact ⟨qAa HF.out.symm,rfl⟩
  | false =>
   (have HF:Hid (cmpB a b=0):=by show _=_;unfold cmpB;rw [h1,h2];rfl);(have h3:(a.toList == b.toList)=true:=by have:=HG.out;rw [h1,h2] at this;simpa using this);go_enter Tryz.func105,Tryz.ntmps105;go_wp2_with (first | (go_at_call 169;refine (qMs _ _).mono ?_;rintro e w' ⟨rfl,rfl⟩));go_ret;exact ⟨qAa HF.out.symm,rfl⟩
instance:Inhabited Reg:=⟨Reg.zero⟩
def cmpRg (x y:Reg):Int:=cmpB x.name y.name
def ltRg (x y:Reg):Bool:=Op.bytesLess x.name.toList y.name.toList
theorem qGk (x y:Reg):ltRg x y=true↔nmR x<nmR y:=by unfold ltRg nmR;rw [bytesLess_eq];simp
theorem ltOf_Rg:ltOf cmpRg=ltRg:=by
 funext x y
 unfold ltOf cmpRg ltRg cmpB
 cases Op.bytesLess x.name.toList y.name.toList
 · rw [if_neg (by decide)]
   split<;>simp
 · rw [if_pos rfl];simp
theorem ltRg_swo:SWO ltRg where
 irrefl x:=by
  cases h:ltRg x x with
  | false=>rfl
  | true=>exact absurd ((qGk x x).1 h) (Bs.lt_irrefl _)
 trans x y z h1 h2:=(qGk x z).2 (Bs.lt_trans ((qGk x y).1 h1) ((qGk y z).1 h2))
 ntrans x y z h1 h2:=by
  (have h1:¬ nmR x<nmR y:=fun h=>by rw [(qGk x y).2 h] at h1;cases h1);(have h2:¬ nmR y<nmR z:=fun h=>by rw [(qGk y z).2 h] at h2;cases h2);have h3:¬ nmR x<nmR z:=leR_trans (x:=z) (y:=y) (z:=x) h2 h1
  cases h:ltRg x z with
  | false=>rfl
  | true=>exact absurd ((qGk x z).1 h) h3
theorem cmpRg_enter:∀ args w,(callFunc 104 args).run Tryz.prog w = .ok (.enter 104 args) w:=Go.Proofs.enters_of Tryz.func104 (by kernel_rfl) rfl
set_option maxHeartbeats 1000000 in
theorem cmpRg_any (x y:Reg) (w:World):Calls Tryz.prog 104 #[.agg x.vals.toArray,.agg y.vals.toArray] w fun e w'=>e = .returned (.int .i64 (cmpRg x y))∧Extd w w':=by
 show Calls Tryz.prog 104 #[.agg #[.string x.name,.int .i64 x.top,.int .i64 x.height,.int .i64 x.left,.int .i64 x.width,.int .u8 x.align,.bool x.bottom],.agg #[.string y.name,.int .i64 y.top,.int .i64 y.height,.int .i64 y.left,.int .i64 y.width,.int .u8 y.align,.bool y.bottom]] w _
 have HX:=gH (((Extd.refl w).alloc (.cells #[.string x.name,.int .i64 x.top,.int .i64 x.height,.int .i64 x.left,.int .i64 x.width,.int .u8 x.align,.bool x.bottom] 105)).alloc (.cells #[.string y.name,.int .i64 y.top,.int .i64 y.height,.int .i64 y.left,.int .i64 y.width,.int .u8 y.align,.bool y.bottom] 105));have HC:=gH (fun w'=>Compares_any x.name y.name w');unfold cmpRg;generalize cmpB x.name y.name=r at *;go_enter Tryz.func104,Tryz.ntmps104;go_wp2_with fail;refine (HC.out _).mono ?_;rintro e w1 ⟨rfl,rfl⟩;go_wp2_with fail;go_ret;exact ⟨rfl,HX.out⟩
theorem arr_sortedRg {d:Array Reg} (h:SortedIn ltRg 0 d.size d):d.toList.Pairwise LeR:=by
 (refine List.pairwise_iff_getElem.2 fun i j hi hj hij=>?_);(have hi':i<d.size:=by simpa using hi);(have hj':j<d.size:=by simpa using hj);have:=h i j (Nat.zero_le _) hij hj';rw [getElem!_pos d j hj',getElem!_pos d i hi'] at this;intro hc;have h2:=(qGk _ _).2 hc;simp only [Array.getElem_toList] at h2;rw [h2] at this
 cases this
theorem SortNoneRg (F:Value) (w:World):Calls Tryz.prog 103 #[.slice none 0 0,F] w fun e w'=>e = .returned (.tuple #[])∧w'=w:=AnyF.slices_SortFunc_none Tryz.srtReg none 0 F w
theorem SortRg_own {w0 w:World} {L g n c:Nat} {l:List Reg} (hx:Ext w0 w) (hL:w0.heap.size≤L) (h1:w.ownsRow L 105 7 (.slice (some ⟨g,0,none⟩) n c) n (l.flatMap Reg.vals)) (hl:l.length=n) (hn:n<4611686018427387904) :
 Calls Tryz.prog 103 #[.slice (some ⟨g,0,none⟩) n c,.func (.func 104) #[] #[]] w fun e w'=>e = .returned (.tuple #[])∧Ext w0 w'∧∃ l':List Reg,l'.Perm l∧l'.Pairwise LeR∧w'.ownsRow L 105 7 (.slice (some ⟨g,0,none⟩) n c) n (l'.flatMap Reg.vals):=by
 have hLg:L≤g:=qAp h1 g rfl
 have hg:g<w.heap.size:=by
  rcases h1.2 with ⟨hv,-⟩ | ⟨g',cap,cur,hv,-,hb,-⟩
  · cases hv
  · cases hv;exact (Array.getElem?_eq_some_iff.1 hb).1
 (have hz:l.toArray.size=n:=by simp [hl]);have hH:=own_holds (enc:=Reg.vals) (k:=7) (fun _=>rfl) h1 hl;(have hcmp:CmpLays Tryz.prog 104 #[] Reg.vals 7 cmpRg g 0 l.toArray.size w:=fun m os dk hs x y=>(cmpRg_any x y _).mono fun e w' ⟨he,hx⟩=>⟨he,hx.grow⟩);have hcon:=AnyQ.slices_SortFunc Tryz.srtReg 7 Tryz.isAgg105 Tryz.sizeOf105 Reg.vals (fun _=>rfl) qGm cmpRg (by rw [ltOf_Rg];exact ltRg_swo) 104 #[] g 0 c l.toArray w cmpRg_enter hcmp hH hg (by rw [hz];exact hn);rw [hz,ltOf_Rg] at hcon;refine Calls.mono hcon ?_;rintro e w' ⟨rfl,d',m,os,hp,hs,rfl⟩;obtain ⟨hsz,-,hperm⟩:=hp;(have hd:d'.size=n:=by rw [hsz,hz]);(have e1:d'.extract 0 n=d':=by rw [← hd];exact Array.extract_size);(have e2:l.toArray.extract 0 n=l.toArray:=by rw [← hz];exact Array.extract_size);rw [e1,e2] at hperm;have hS:SWK Reg.vals 7 w g 0 d'.toList.toArray (sortWorldK Reg.vals 7 w g 0 m d' os):=⟨m,os,by simp⟩;have hO:=swk_own (enc:=Reg.vals) (fun _=>rfl) h1 hS (by simpa using hd);exact ⟨rfl,hx.grown (swk_grown (enc:=Reg.vals) (k:=7) (g:=g) (l:=d'.toList) ⟨m,os,by simp⟩) (fun q hq=>by cases hq;omega),d'.toList,by simpa using hperm,arr_sortedRg (by rw [hd];exact hs),hO⟩
theorem uqR_snoc (l:List Reg) (g:Reg):uqR (l++[g])=qHb (uqR l) g:=by unfold uqR;rw [List.foldl_append];rfl
theorem uqR_len:∀ l:List Reg,(uqR l).length≤l.length:=by
 have h:∀ (l o:List Reg),(l.foldl qHb o).length≤o.length+l.length:=by
  intro l
  induction l with
  | nil=>intro o;simp
  | cons g l ih =>
   intro o;rw [List.foldl_cons];refine Nat.le_trans (ih _) ?_;unfold qHb
   split<;>simp<;>omega
 intro l;have:=h l [];simpa [uqR] using this
theorem allR_take {l:List RDoc} {k:Nat} {d:RDoc} (h:l[k]?=some d):allR (l.take (k+1))=allR (l.take k)++d.doc.regs:=by
 unfold allR;(rw [take_snoc' _ _ _ h];simp)
theorem qIz {w:World} {L:Nat} {v:Value} {l:List Reg} (h:w.ownsRow L 105 7 v l.length (l.flatMap Reg.vals)):∃ A c,v = .slice A l.length c∧l.length≤c∧qDs w A l.length l:=by
 obtain ⟨A,c,hv,hc,-,hS,-⟩:=qBg (f:=Reg.vals) (size:=7) (fun _=>rfl) rfl h;exact ⟨A,c,hv,hc,Sl.change (D:=RegC) hS fun b o r hm=>regC_cells hm⟩
def Rg1Rel (w:World) (n:Nat) (l:List RDoc) (v i:Value) (wr:World):Prop :=
 ∃ k:Nat,k≤n∧i = .int .i64 k∧Ext w wr∧wr.ownsRow w.heap.size 105 7 v (uqR (allR (l.take k))).length ((uqR (allR (l.take k))).flatMap Reg.vals)
def Rg2Rel (w:World) (m:Nat) (P rs:List Reg) (v i:Value) (wr:World):Prop :=
 ∃ j:Nat,j≤m∧i = .int .i64 j∧Ext w wr∧wr.ownsRow w.heap.size 105 7 v (uqR (P++rs.take j)).length ((uqR (P++rs.take j)).flatMap Reg.vals)
theorem qIy:∀ {l:List RDoc},(∀ d∈l,d.doc.regs.length≤16)→(allR l).length≤l.length*16
 | [],_=>by simp [allR]
 | d :: l,h=>by
  have h1:=h d (by simp);have h2:=qIy (l:=l) (fun x hx=>h x (by simp [hx]));(have e:allR (d :: l)=d.doc.regs++allR l:=by unfold allR;rw [List.flatMap_cons]);rw [e,List.length_append,List.length_cons];omega
set_option maxHeartbeats 8000000 in
theorem Regions_any (A:Option Addr) (n c:Nat) (l:List RDoc) (w:World) (hl:qCw w A n l) (hn:n≤16) (hr16:∀ d∈l,d.doc.regs.length≤16) :
 Calls Tryz.prog 49 #[.slice A n c] w fun e w'=>∃ (v:Value) (m:List Reg),e = .returned v∧m.Perm (uqR (allR l))∧m.Pairwise LeR∧w'.ownsRow w.heap.size 105 7 v m.length (m.flatMap Reg.vals)∧Ext w w':=by
 have HL:=gH hl;have HLn:=gH hl.len;have HR16:=gH hr16;clear hl hr16;go_enter Tryz.func49,Tryz.ntmps49;go_wp2_with fail
 go_loopw [3,10] (fun v i wr=>Rg1Rel w n l v i wr) (fun _ i _=>n-(intOf i).toNat)
 case atStart=>exact ⟨0,Nat.zero_le _,rfl,Ext.refl _,⟨rfl,.inl ⟨rfl,rfl⟩⟩⟩
 case round =>
  obtain ⟨k,hk,rfl,hx,hown⟩:=hrel;have HX:=gH hx;have HO:=gH hown;have hzr:=hx.size;clear hx hown
  by_cases hlt:k<n
  · obtain ⟨b,off,d,h,rfl,hdk,hat,hsz,c0,c1,c2,c3,c4,c5,c6,c7,c8⟩:=HL.out.at9 hlt
    replace c0:=HX.out.cell c0;replace c1:=HX.out.cell c1;replace c2:=HX.out.cell c2;replace c3:=HX.out.cell c3;replace c4:=HX.out.cell c4;replace c5:=HX.out.cell c5;replace c6:=HX.out.cell c6;replace c7:=HX.out.cell c7;replace c8:=HX.out.cell c8;obtain ⟨ra,rn,rc,ea,en,ec,ca,cn,cc⟩:=h;have HRg:=gH hat.regs;have HDk:=gH (allR_take hdk);have hr1:=HR16.out d (List.mem_of_getElem? hdk)
    have hP:(allR (l.take k)).length≤256:=by
     have h1:=qIy (l:=l.take k) (fun x hx=>HR16.out x (List.mem_of_mem_take hx));rw [List.length_take] at h1;omega
    have hrl:=hat.regs.len;dsimp only at HRg hrl;(have hrn:rn≤16:=by omega);clear hdk hat hsz;generalize allR (l.take k)=P at *;have HBd:=gH (Blk.new wr 58 (d.cells ⟨ra,rn,rc,ea,en,ec,ca,cn,cc⟩));have HX1:=gH (HX.out.alloc (.cells (d.cells ⟨ra,rn,rc,ea,en,ec,ca,cn,cc⟩) 58));have HO1:=gH (HO.out.alloc (.cells (d.cells ⟨ra,rn,rc,ea,en,ec,ca,cn,cc⟩) 58));unfold RDoc.cells at HBd HX1 HO1;dsimp only at HBd HX1 HO1;go_upto_region 5 with fail;obtain ⟨gx,hgx⟩:∃ gx,gx=wr.heap.size:=⟨_,rfl⟩;rw [← hgx] at HBd ⊢;obtain ⟨w1,hw1⟩:∃ w1,w1=wr.alloc (.cells #[.string d.reel,.string d.doc.title,.string d.doc.lang,.int .u8 d.doc.rate,.bool d.doc.drop,.int .i64 d.doc.last,.slice ra rn rc,.slice ea en ec,.slice ca cn cc] 58):=⟨_,rfl⟩;rw [← hw1] at HBd HX1 HO1 ⊢;clear hw1 hgx c0 c1 c2 c3 c4 c5 c6 c7 c8 HO;have b6:=HBd.out.cell 6;simp only [gA,gB,gC] at b6;go_wp2_with fail;clear b6
    go_loopw [3,18] (fun v i wq=>Rg2Rel w rn P d.doc.regs v i wq) (fun _ i _=>rn-(intOf i).toNat)
    case atStart=>exact ⟨0,Nat.zero_le _,rfl,HX1.out,by simpa using HO1.out⟩
    case round =>
     obtain ⟨j,hj,rfl,hxq,hown⟩:=hrel;have HXq:=gH hxq;have HOq:=gH hown;have hzq:=hxq.size;(have hql:(uqR (P++d.doc.regs.take j)).length≤256+j:=by have:=uqR_len (P++d.doc.regs.take j);rw [List.length_append,List.length_take] at this;omega);clear hxq hown
     by_cases hjt:j<rn
     · obtain ⟨b2,off2,r,rfl,hrk,d0,d1,d2,d3,d4,d5,d6⟩:=(HRg.out.ext HXq.out).at_ hjt
       (have HT:Hid (uqR (P++d.doc.regs.take (j+1))=qHb (uqR (P++d.doc.regs.take j)) r):=by show _=_;rw [take_snoc' _ _ _ hrk,← List.append_assoc,uqR_snoc]);clear hrk;generalize uqR (P++d.doc.regs.take j)=os at *;have HBr:=gH (Blk.new wr 105 #[.string r.name,.int .i64 r.top,.int .i64 r.height,.int .i64 r.left,.int .i64 r.width,.int .u8 r.align,.bool r.bottom]);have HXr:=gH ((Ext.refl wr).alloc (.cells #[.string r.name,.int .i64 r.top,.int .i64 r.height,.int .i64 r.left,.int .i64 r.width,.int .u8 r.align,.bool r.bottom] 105));have HO3:=gH (qAh HOq.out HXr.out);obtain ⟨A',c',rfl,hc',hRA⟩:=qIz HO3.out;have HC:=gH (RgContains_any A' os.length c' os r _ hRA (by omega));clear hRA;unfold Reg.val at HC;go_wp2_with (refine qAc rfl 105 (.tmp 7) rfl wr.heap.size 105 _ _ (by exact rfl) (by exact HBr.out) Tryz.underlying105 rfl (by exact qBw) ?_);refine HC.out.mono ?_;rintro e w4 ⟨rfl,hx4⟩;have HX4:=gH (HXr.out.trans hx4);have HB4:=gH (HBr.out.ext hx4);have HO4:=gH (qAh HO3.out hx4);have hz4:=HX4.out.size;clear hx4 HC
       by_cases hin:r∈os
       · have e1:decide (r∈os)=true:=by simpa using hin
         unfold qHb at HT;rw [if_pos hin] at HT;clear hin;go_wp2_with fail;exact ⟨⟨j+1,by omega,by go_num,HXq.out.trans HX4.out,by rw [HT.out];exact HO4.out⟩,by simp [intOf];omega⟩
       · have e1:decide (r∈os)=false:=by simpa using hin
         unfold qHb at HT;rw [if_neg hin] at HT;clear hin;go_wp2_with (first | (refine qAc rfl 105 (.tmp 7) rfl wr.heap.size 105 _ _ (by exact rfl) (by exact HB4.out) Tryz.underlying105 rfl (by exact qBw) ?_) | (at_builtin;refine qAf rfl (.tmp 26) (.tmp 28) 48 rfl qDp Tryz.underlying48 rfl (by decide) (HO4.out.alloc _) (by exact rfl) w4.heap.size _ (by exact rfl) (by exact Blk.new' rfl) (by exact rfl) (by simp [Value.oneCell']) (by omega) (by simp [maxLen]<;>omega) (by first | omega | (simp;omega) | simp) ?_;intro v5 w5 hown5 hgr;have HO5:=gH hown5;have HX5:=gH (Ext.grown ((HXq.out.trans HX4.out).alloc _) hgr (fun q hq=>qAp HO4.out q hq));clear hown5 hgr));exact ⟨⟨j+1,by omega,by go_num,HX5.out,by rw [HT.out,List.length_append,List.flatMap_append];exact HO5.out⟩,by simp [intOf];omega⟩
     · have hjm:j=rn:=by omega
       subst hjm;(have HT:Hid (uqR (P++d.doc.regs.take j)=uqR (allR (l.take (k+1)))):=by show _=_;rw [List.take_of_length_le (by omega),HDk.out]);rw [HT.out] at HOq;go_wp2_with fail;exact ⟨⟨k+1,by omega,by go_num,HXq.out,HOq.out⟩,by simp [intOf];omega⟩
  · have hkn:k=n:=by omega
    subst hkn;(have HT:Hid (uqR (allR (l.take k))=uqR (allR l)):=by show _=_;rw [List.take_of_length_le (by have:=HLn.out;omega)])
    have hul:(uqR (allR l)).length≤256:=by
     have h1:=qIy (l:=l) (fun x hx=>HR16.out x hx);have h2:=uqR_len (allR l);have:=HLn.out;omega
    rw [HT.out] at HO;obtain ⟨os,hos⟩:∃ os,os=uqR (allR l):=⟨_,rfl⟩;rw [← hos] at HO hul;have HOs:=gH hos;clear hos
    rcases HO.out.2 with ⟨hv,h0⟩ | ⟨g,cap,cur,hv,-⟩
    · have HNil:=gH (List.length_eq_zero_iff.1 h0)
      subst hv;clear hul h0;go_wp2_with fail;refine (SortNoneRg _ _).mono ?_;rintro e w2 ⟨rfl,rfl⟩;go_wp2_with fail;go_ret;exact ⟨_,[],rfl,by rw [← HOs.out,HNil.out],List.Pairwise.nil,⟨rfl,.inl ⟨rfl,rfl⟩⟩,HX.out⟩
    · subst hv
      have HSo:=gH (SortRg_own HX.out (Nat.le_refl _) HO.out rfl (by omega));go_wp2_with fail;refine HSo.out.mono ?_;rintro e w2 ⟨rfl,hx2,m,hp,hs,ho⟩;have HR:=gH (And.intro hp (And.intro hs (And.intro ho hx2)));have hml:m.length=os.length:=hp.length_eq;clear hp hs ho hx2 HSo;go_wp2_with fail;go_ret;exact ⟨_,m,rfl,by rw [← HOs.out];exact HR.out.1,HR.out.2.1,by rw [hml];exact HR.out.2.2.1,HR.out.2.2.2⟩
end
section
open Go.RowKit
theorem qEp {d:Doc} (h:d.err=0):d.headErr=0∧qDh d.regs=0∧d.evs.length≤400∧qCe d.regs d.last [] d.evs=0∧d.coms.length≤64∧qCu d.last d.evs none d.coms=0:=by
 unfold Doc.err at h
 split at h
 · rename_i h1;exact absurd h h1
 · rename_i h1
   split at h
   · rename_i h2;exact absurd h h2
   · rename_i h2
     split at h
     · simp at h
     · rename_i h3
       split at h
       · rename_i h4;exact absurd h h4
       · rename_i h4
         split at h
         · simp at h
         · rename_i h5
           exact ⟨by simpa using h1,by simpa using h2,by omega,by simpa using h4,by omega,h⟩
theorem evs_ok {regs:List Reg} {last:Int}:∀ {l pre:List Ev},qCe regs last pre l=0→∀ (k:Nat) (x:Ev),l[k]?=some x →
 x.err regs=0∧x.id≤last∧¬ (((pre++l.take k).getLast?.map fun p=>qEl p x)=some false)∧qBu (pre++l.take k) x.id=none
 | [],pre,_,k,x,hx=>by simp at hx
 | y :: l,pre,h,0,x,hx=>by
  (simp at hx;subst hx);rw [evs_cons] at h
  split at h
  · rename_i h1;exact absurd h h1
  · rename_i h1
    (have h1':qFq regs last pre y=0:=by simpa using h1);unfold qFq at h1'
    split at h1'
    · rename_i h2;exact absurd h1' h2
    · rename_i h2
      split at h1'
      · simp at h1'
      · rename_i h3
        split at h1'
        · simp at h1'
        · rename_i h4
          split at h1'
          · simp at h1'
          · rename_i h5
            refine ⟨by simpa using h2,by omega,by simpa using h4,?_⟩;simp only [List.take_zero,List.append_nil]
            cases hf:qBu pre y.id with
            | none=>rfl
            | some j=>rw [hf] at h5;simp at h5
 | y :: l,pre,h,k+1,x,hx=>by
  rw [evs_cons] at h
  split at h
  · rename_i h1;exact absurd h h1
  · have:=evs_ok h k x (by simpa using hx)
    simpa using this
theorem ev_ok {e:Ev} {regs:List Reg} (h:e.err regs=0):1≤e.id∧e.id≤1099511627776∧qFh e.inn e.out=true:=by
 unfold Ev.err at h
 split at h
 · simp at h
 · rename_i h1
   refine ⟨by omega,by omega,?_⟩
   cases hs:qFh e.inn e.out
   · exact absurd (.inr (.inr hs)) h1
   · rfl
end
section
open Go.RowKit
def CcRel (w:World) (n:Nat) (rate:Int) (drop:Bool) (l:List RDoc) (i:Value) (wr:World):Prop:=∃ k:Nat,k≤n∧i = .int .i64 k∧Ext w wr∧qDy rate drop none l=qDy rate drop (qCy l k) (l.drop k)
def AdRel (w:World) (m:List Reg) (i:Value) (wr:World):Prop:=∃ k:Nat,(k<m.length∨k=0)∧i = .int .i64 ((k:Int)+1)∧Ext w wr∧adjB m=adjB (m.drop k)
theorem qEu {l:List Reg} (h:qDh l=0):l.length≤16:=by
 unfold qDh at h
 split at h
 · omega
 · omega
theorem rd_1 {rate:Int} {drop:Bool} {p:Option ByteArray} {d:RDoc} (h:qBm d.reel=false):qBz rate drop p d=5:=by unfold qBz;rw [if_pos h]
theorem rd_2 {rate:Int} {drop:Bool} {p:Option ByteArray} {d:RDoc} (h:qBm d.reel=true) (h2:(p.map fun q=>Op.bytesLess d.reel.toList q.toList || d.reel.toList == q.toList)=some true):qBz rate drop p d=8:=by unfold qBz;rw [if_neg (by simp [h]),if_pos h2]
theorem rd_3 {rate:Int} {drop:Bool} {p:Option ByteArray} {d:RDoc} (h:qBm d.reel=true) (h2:¬ (p.map fun q=>Op.bytesLess d.reel.toList q.toList || d.reel.toList == q.toList)=some true) (h3:d.doc.err≠0):qBz rate drop p d=d.doc.err:=by unfold qBz;rw [if_neg (by simp [h]),if_neg h2,if_pos h3]
theorem rd_4 {rate:Int} {drop:Bool} {p:Option ByteArray} {d:RDoc} (h:qBm d.reel=true) (h2:¬ (p.map fun q=>Op.bytesLess d.reel.toList q.toList || d.reel.toList == q.toList)=some true) (h3:d.doc.err=0) (h4:¬ (d.doc.rate=rate∧d.doc.drop=drop)):qBz rate drop p d=13:=by unfold qBz;rw [if_neg (by simp [h]),if_neg h2,if_neg (by simpa using h3),if_pos h4]
theorem rd_5 {rate:Int} {drop:Bool} {p:Option ByteArray} {d:RDoc} (h:qBm d.reel=true) (h2:¬ (p.map fun q=>Op.bytesLess d.reel.toList q.toList || d.reel.toList == q.toList)=some true) (h3:d.doc.err=0) (h4:d.doc.rate=rate∧d.doc.drop=drop):qBz rate drop p d=0:=by unfold qBz;rw [if_neg (by simp [h]),if_neg h2,if_neg (by simpa using h3),if_neg (fun k=>k h4)]
theorem adj_cons2 {m:List Reg} {k:Nat} {x y:Reg} (hx:m[k]?=some x) (hy:m[k+1]?=some y):adjB (m.drop k)=(decide (nmR y=nmR x) || adjB (m.drop (k+1))):=by
 rw [qDe m k x hx,qDe m (k+1) y hy];rfl
theorem adj_last {m:List Reg} {k:Nat} (h:m.length≤k+1):adjB (m.drop k)=false:=by
 have hl:(m.drop k).length≤1:=by rw [List.length_drop];omega
 match hm:m.drop k,hl with
 | [],_=>rfl
 | [_],_=>rfl
set_option maxHeartbeats 16000000 in
theorem ConCheck_any (docs:List RDoc) (A:Option Addr) (n c:Nat) (e:Edl) (B:Option Addr) (m d:Nat) (w:World) (hE:Env w) (hl:qCw w A n docs) (he:qBd w B m e.cuts) (hm:m≤1000000) (hok:qJr e) (hn:n≤1000000) (hf:qJb docs) :
 Calls Tryz.prog 24 #[.slice A n c,.agg (e.cells B m d)] w fun en w'=>en = .returned (.int .i64 (qCj docs e))∧Ext w w':=by
 have HL:=gH hl;have HLn:=gH hl.len;have HEnv:=gH hE;have HFit:=gH hf;have HX:=gH ((Ext.refl w).alloc (.cells (e.cells B m d) 28));have HB0:=gH (Blk.new w 28 (e.cells B m d));have HCk:=gH (fun w' (hx:Ext w w')=>qKj e B m d w' (hE.ext hx) (he.ext hx) hm hok.r0 hok.r1 hok.title hok.fits);have HRg:=gH (fun w' (hx:Ext w w') (h16:n≤16) (hr:∀ d∈docs,d.doc.regs.length≤16)=>Regions_any A n c docs w' (hl.ext hx) h16 hr);have HF:Hid (qCj docs e=if qAn e≠0 then qAn e else if 16<docs.length then 9 else if qDy e.rate e.drop none docs≠0 then qDy e.rate e.drop none docs else regE (allR docs)):=rfl;rw [hl.len] at HF;clear hl he hok hE hf;unfold Edl.cells at *;go_enter Tryz.func24,Tryz.ntmps24;go_wp2_with (refine qAc rfl 28 (.tmp 3) rfl w.heap.size 28 _ _ (by exact rfl) (by exact HB0.out) Tryz.underlying28 rfl (by exact qBy) ?_);refine (HCk.out _ HX.out).mono ?_;rintro en w1 ⟨rfl,hx1⟩;have HX1:=gH (HX.out.trans hx1);have HBl:=gH (HB0.out.ext hx1);clear hx1 HB0 HX HCk
 by_cases hee:qAn e=0
 case neg =>
  (have hne:(qAn e != 0)=true:=by simpa using hee);have HZ:=gH (HF.out.trans (if_pos hee));clear hee;go_wp2_with fail;go_ret;exact ⟨qAa HZ.out.symm,HX1.out⟩
 have HF1:=gH (HF.out.trans (if_neg (by simpa using hee)));rw [hee];clear hee HF
 by_cases h16:16<n
 · have g1:decide ((n:Int) > 16)=true:=by simp;omega
   (have g2:decide ((16:Int)<n)=true:=by simp;omega);have HZ:=gH (HF1.out.trans (if_pos h16));clear h16;go_wp2_with fail;go_ret;exact ⟨qAa HZ.out.symm,HX1.out⟩
 (have g1:decide ((n:Int) > 16)=false:=by simp;omega);(have g2:decide ((16:Int)<n)=false:=by simp;omega);have HF2:=gH (HF1.out.trans (if_neg h16));clear HF1;go_wp2_with fail;clear g1 g2
 go_loopw [21] (fun i wr=>CcRel w1 n e.rate e.drop docs i wr) (fun i _=>n-(intOf i).toNat)
 case atStart=>exact ⟨0,Nat.zero_le _,rfl,Ext.refl _,by simp [qCy]⟩
 case round =>
  obtain ⟨k,hk,rfl,hx,hp⟩:=hrel;have HXr:=gH hx;have HP:=gH hp;clear hx hp
  by_cases hlt:k<n
  · obtain ⟨b,off,x,h,rfl,hxk,hat,hsz,c0,c1,c2,c3,c4,c5,c6,c7,c8⟩:=(HL.out.ext (HX1.out.trans HXr.out)).at9 hlt
    obtain ⟨ra,rn,rc,ea,en,ec,ca,cn,cc⟩:=h;have HS:=gH (rd_step hxk HP.out);have hmem:=List.mem_of_getElem? hxk;have HNm:=gH (fun w'=>qDr x.reel w' (HFit.out.reel x hmem));have hr1:=hsz.r;have hr2:=hsz.e;have hr3:=hsz.c;dsimp only at hr1 hr2 hr3;have HDc:=gH (fun w' (hx:Ext wr w')=>DCheck_any x.doc ⟨ra,rn,rc,ea,en,ec,ca,cn,cc⟩ w' (HEnv.out.ext ((HX1.out.trans HXr.out).trans hx)) (hat.ext hx) (HFit.out.doc x hmem) (by dsimp only;omega) (by dsimp only;omega) (by dsimp only;omega))
    have HPr:Hid (∀ j,k=j+1→∃ y,docs[j]?=some y∧qCy docs k=some y.reel):=fun j hj=>by
     subst hj;obtain ⟨y,hy⟩:=qBq (l:=docs) (p:=j) (by have:=HLn.out;omega);exact ⟨y,hy,by simp [qCy,hy]⟩
    have HBd:=gH (Blk.new wr 58 (x.cells ⟨ra,rn,rc,ea,en,ec,ca,cn,cc⟩));have HXd:=gH ((Ext.refl wr).alloc (.cells (x.cells ⟨ra,rn,rc,ea,en,ec,ca,cn,cc⟩) 58));clear hxk hat hsz hmem;unfold RDoc.cells at HBd HXd;unfold Doc.cells at HDc;dsimp only at HBd HXd HDc;(have hdc:=fun o=>HBd.out.cell o);go_wp2_with fail;refine (HNm.out _).mono ?_;rintro e1 w2 ⟨rfl,rfl⟩
    cases hnm:qBm x.reel with
    | false =>
     have HZ:=gH (HS.out.1 (by rw [rd_1 hnm];decide));have HZ2:Hid (qBz e.rate e.drop (qCy docs k) x=5):=rd_1 hnm;go_wp2_with fail;go_ret;exact ⟨qAa (by rw [HF2.out,if_pos (by rw [HZ.out,HZ2.out];decide),HZ.out,HZ2.out]),(HX1.out.trans HXr.out).trans HXd.out⟩
    | true =>
     obtain ⟨gx,hgx⟩:∃ gx,gx=wr.heap.size:=⟨_,rfl⟩;obtain ⟨w2,hw2⟩:∃ w2,w2=wr.alloc (.cells #[.string x.reel,.string x.doc.title,.string x.doc.lang,.int .u8 x.doc.rate,.bool x.doc.drop,.int .i64 x.doc.last,.slice ra rn rc,.slice ea en ec,.slice ca cn cc] 58):=⟨_,rfl⟩;rw [← hgx] at HBd;rw [← hw2] at HBd HXd ⊢;rw [← hgx];clear hw2 hgx hdc c0 c1 c2 c3 c4 c5 c6 c7 c8;have HNm2:=gH hnm;clear hnm;(have hdc:=fun o=>HBd.out.cell o)
     by_cases hk0:0<k
     · obtain ⟨j,rfl⟩:∃ j,k=j+1:=⟨k-1,by omega⟩
       obtain ⟨b',off',y,h',hA,hyk,-,-,p0,-⟩:=(HL.out.ext ((HX1.out.trans HXr.out).trans HXd.out)).at9 (i:=j) (by omega)
       cases hA
       (have HPy:Hid (qCy docs (j+1)=some y.reel):=by show _=_;simp [qCy,hyk]);have g8:decide (((j:Int)+1) > 0)=true:=decide_eq_true (by omega);have g8':decide ((0:Int)<(j:Int)+1)=true:=decide_eq_true (by omega);clear hyk
       cases hlq:(Op.bytesLess x.reel.toList y.reel.toList || x.reel.toList == y.reel.toList) with
       | true =>
        have HZ2:Hid (qBz e.rate e.drop (qCy docs (j+1)) x=8):=rd_2 HNm2.out (by rw [HPy.out];simpa using hlq);have HZ:=gH (HS.out.1 (by rw [HZ2.out];decide));go_wp2_with fail;go_quiet (fail);go_wp2_with fail;go_ret;exact ⟨qAa (by rw [HF2.out,if_pos (by rw [HZ.out,HZ2.out];decide),HZ.out,HZ2.out]),((HX1.out.trans HXr.out).trans HXd.out).drewN _⟩
       | false =>
        (have HNo:Hid (¬ ((qCy docs (j+1)).map fun q=>Op.bytesLess x.reel.toList q.toList || x.reel.toList == q.toList)=some true):=by show ¬ _;rw [HPy.out];simpa using hlq);go_wp2_with fail;go_quiet (fail);go_wp2_with fail;refine (HDc.out _ (HXd.out.drewN _)).mono ?_;rintro e2 w3 ⟨rfl,hx3⟩;have HX3:=gH ((HXd.out.drewN _).trans hx3);have HB3:=gH ((HBd.out.ext ((Ext.refl w2).drewN _)).ext hx3);have HBl3:=gH ((HBl.out.ext HXr.out).ext HX3.out);clear hx3 hdc
        by_cases hde:x.doc.err=0
        case neg =>
         (have hdn:(x.doc.err != 0)=true:=by simpa using hde);have HZ2:Hid (qBz e.rate e.drop (qCy docs (j+1)) x=x.doc.err):=rd_3 HNm2.out HNo.out hde;have HZ:=gH (HS.out.1 (by rw [HZ2.out];exact hde));have HR:Hid (qCj docs e=x.doc.err):=HF2.out.trans ((if_pos (by rw [HZ.out,HZ2.out];exact hde)).trans (HZ.out.trans HZ2.out));clear hde;go_wp2_with fail;go_ret;exact ⟨qAa HR.out.symm,(HX1.out.trans HXr.out).trans HX3.out⟩
        rw [hde];have HDe:=gH hde;clear hde;(have hdc:=fun o=>HB3.out.cell o);(have hbl:=fun o=>HBl3.out.cell o)
        by_cases hra:x.doc.rate=e.rate
        case neg =>
         (have hdn:(x.doc.rate != e.rate)=true:=by simpa using hra);have HZ2:Hid (qBz e.rate e.drop (qCy docs (j+1)) x=13):=rd_4 HNm2.out HNo.out HDe.out (fun h=>hra h.1);have HZ:=gH (HS.out.1 (by rw [HZ2.out];decide));have HR:Hid (qCj docs e=13):=HF2.out.trans ((if_pos (by rw [HZ.out,HZ2.out];decide)).trans (HZ.out.trans HZ2.out));clear hra;go_wp2_with fail;go_ret;exact ⟨qAa HR.out.symm,(HX1.out.trans HXr.out).trans HX3.out⟩
        have hdn:(x.doc.rate != e.rate)=false:=by simpa using hra
        by_cases hdr:x.doc.drop=e.drop
        case neg =>
         (have hdn2:(x.doc.drop == e.drop)=false:=by simpa using hdr);have HZ2:Hid (qBz e.rate e.drop (qCy docs (j+1)) x=13):=rd_4 HNm2.out HNo.out HDe.out (fun h=>hdr h.2);have HZ:=gH (HS.out.1 (by rw [HZ2.out];decide));have HR:Hid (qCj docs e=13):=HF2.out.trans ((if_pos (by rw [HZ.out,HZ2.out];decide)).trans (HZ.out.trans HZ2.out));clear hra hdr;go_wp2_with fail;go_ret;exact ⟨qAa HR.out.symm,(HX1.out.trans HXr.out).trans HX3.out⟩
        (have hdn2:(x.doc.drop == e.drop)=true:=by simpa using hdr);have HZ2:=gH (HS.out.2 (rd_5 HNm2.out HNo.out HDe.out ⟨hra,hdr⟩));clear hra hdr;go_wp2_with fail;exact ⟨⟨j+1+1,by omega,by go_num,HXr.out.trans HX3.out,HZ2.out⟩,by simp [intOf];omega⟩
     · have hk00:k=0:=by omega
       subst hk00;(have HNo:Hid (¬ ((qCy docs 0).map fun q=>Op.bytesLess x.reel.toList q.toList || x.reel.toList == q.toList)=some true):=by show ¬ _;simp [qCy]);go_wp2_with fail;go_quiet (fail);go_wp2_with fail;refine (HDc.out _ (HXd.out.drewN _)).mono ?_;rintro e2 w3 ⟨rfl,hx3⟩;have HX3:=gH ((HXd.out.drewN _).trans hx3);have HB3:=gH ((HBd.out.ext ((Ext.refl w2).drewN _)).ext hx3);have HBl3:=gH ((HBl.out.ext HXr.out).ext HX3.out);clear hx3 hdc
       by_cases hde:x.doc.err=0
       case neg =>
        (have hdn:(x.doc.err != 0)=true:=by simpa using hde);have HZ2:Hid (qBz e.rate e.drop (qCy docs 0) x=x.doc.err):=rd_3 HNm2.out HNo.out hde;have HZ:=gH (HS.out.1 (by rw [HZ2.out];exact hde));have HR:Hid (qCj docs e=x.doc.err):=HF2.out.trans ((if_pos (by rw [HZ.out,HZ2.out];exact hde)).trans (HZ.out.trans HZ2.out));clear hde;go_wp2_with fail;go_ret;exact ⟨qAa HR.out.symm,(HX1.out.trans HXr.out).trans HX3.out⟩
       rw [hde];have HDe:=gH hde;clear hde;(have hdc:=fun o=>HB3.out.cell o);(have hbl:=fun o=>HBl3.out.cell o)
       by_cases hra:x.doc.rate=e.rate
       case neg =>
        (have hdn:(x.doc.rate != e.rate)=true:=by simpa using hra);have HZ2:Hid (qBz e.rate e.drop (qCy docs 0) x=13):=rd_4 HNm2.out HNo.out HDe.out (fun h=>hra h.1);have HZ:=gH (HS.out.1 (by rw [HZ2.out];decide));have HR:Hid (qCj docs e=13):=HF2.out.trans ((if_pos (by rw [HZ.out,HZ2.out];decide)).trans (HZ.out.trans HZ2.out));clear hra;go_wp2_with fail;go_ret;exact ⟨qAa HR.out.symm,(HX1.out.trans HXr.out).trans HX3.out⟩
       have hdn:(x.doc.rate != e.rate)=false:=by simpa using hra
       by_cases hdr:x.doc.drop=e.drop
       case neg =>
        (have hdn2:(x.doc.drop == e.drop)=false:=by simpa using hdr);have HZ2:Hid (qBz e.rate e.drop (qCy docs 0) x=13):=rd_4 HNm2.out HNo.out HDe.out (fun h=>hdr h.2);have HZ:=gH (HS.out.1 (by rw [HZ2.out];decide));have HR:Hid (qCj docs e=13):=HF2.out.trans ((if_pos (by rw [HZ.out,HZ2.out];decide)).trans (HZ.out.trans HZ2.out));clear hra hdr;go_wp2_with fail;go_ret;exact ⟨qAa HR.out.symm,(HX1.out.trans HXr.out).trans HX3.out⟩
       (have hdn2:(x.doc.drop == e.drop)=true:=by simpa using hdr);have HZ2:=gH (HS.out.2 (rd_5 HNm2.out HNo.out HDe.out ⟨hra,hdr⟩));clear hra hdr;go_wp2_with fail;exact ⟨⟨0+1,by omega,by go_num,HXr.out.trans HX3.out,HZ2.out⟩,by simp [intOf];omega⟩
  · have hkn:k=n:=by omega
    subst hkn;(have hr0:qDy e.rate e.drop none docs=0:=by rw [HP.out,List.drop_eq_nil_of_le (by have:=HLn.out;omega)];rfl);have HF3:=gH (HF2.out.trans (if_neg (by simpa using hr0)));have HRg2:=gH (HRg.out wr (HX1.out.trans HXr.out) (by omega) (fun d hd=>qEu (qEp (qIr hr0 d hd).2.1).2.1));(have HR16:Hid (∀ d∈docs,d.doc.regs.length≤16):=fun d hd=>qEu (qEp (qIr hr0 d hd).2.1).2.1);clear hr0 HRg;go_wp2_with fail;refine HRg2.out.mono ?_;rintro e5 w5 ⟨v,m',rfl,hp,hs,ho,hx5⟩;have HX5:=gH ((HX1.out.trans HXr.out).trans hx5);have HSm:=gH (regs_same hp hs);have hpl:=hp.length_eq
    have hul:(uqR (allR docs)).length≤256:=by
     have h1:=qIy (l:=docs) HR16.out;have h2:=uqR_len (allR docs);have:=HLn.out;omega
    obtain ⟨A',c',rfl,hc',hRA⟩:=qIz ho;have HRA:=gH hRA;have HLm:=gH hRA.len;clear hp hs ho hx5 HRg2 hRA;obtain ⟨z,hz⟩:∃ z,z=m'.length:=⟨_,rfl⟩;rw [← hz];have HZl:=gH hz;rw [← hz] at HRA;clear hz;(have hz16:z≤256:=by rw [HZl.out,hpl];exact hul);go_wp2_with fail
    go_loopw [10] (fun i wr=>AdRel w5 m' i wr) (fun i _=>z-(intOf i).toNat)
    case atStart=>exact ⟨0,.inr rfl,rfl,Ext.refl _,by simp⟩
    case round =>
     obtain ⟨k,hk,rfl,hx,ha⟩:=hrel;have HXk:=gH hx;have HA:=gH ha;clear hx ha
     by_cases hkz:k+1<z
     · have g1:decide ((k:Int)+1<(z:Int))=true:=decide_eq_true (by omega)
       obtain ⟨b,off,x,rfl,hx,c0,-⟩:=(HRA.out.ext HXk.out).at_ (i:=k) (by omega);obtain ⟨b',off',y,hA',hy,d0,-⟩:=(HRA.out.ext HXk.out).at_ (i:=k+1) hkz
       cases hA'
       have HC:=gH (adj_cons2 hx hy);unfold nmR at HC;clear hx hy
       by_cases hq:y.name.toList=x.name.toList
       · have g2:(y.name.toList == x.name.toList)=true:=by simpa using hq
         have HT:Hid (regE (allR docs)=16):=by
          show _=_
          rcases HSm.out with ⟨-,h⟩ | ⟨h,-⟩
          · unfold regE;rw [h]
          · rw [HA.out,HC.out,decide_eq_true hq] at h;simp at h
         clear hq;go_wp2_with fail;go_quiet (fail);go_wp2_with fail;go_ret;exact ⟨qAa (by rw [HF3.out,HT.out]),(HX5.out.trans HXk.out).drewN _⟩
       · have g2:(y.name.toList == x.name.toList)=false:=by simpa using hq
         (have HT:Hid (adjB m'=adjB (m'.drop (k+1))):=by show _=_;rw [HA.out,HC.out,decide_eq_false hq];rfl);clear hq;go_wp2_with fail;go_quiet (fail);go_wp2_with fail;exact ⟨⟨k+1,.inl (by have:=HZl.out;omega),by go_num,HXk.out.drewN _,HT.out⟩,by simp [intOf];omega⟩
     · have g1:decide ((k:Int)+1<(z:Int))=false:=decide_eq_false (by omega)
       have HAf:Hid (adjB m'=false):=by show _=_;rw [HA.out];exact adj_last (by have:=HZl.out;omega)
       have HT:Hid (regE (allR docs)=if 16<z then 9 else 0):=by
        show _=_
        rcases HSm.out with ⟨h,-⟩ | ⟨-,h,-⟩
        · rw [HAf.out] at h;cases h
        · unfold regE;rw [h,HZl.out]
       by_cases hz2:16<z
       · have g3:decide ((z:Int) > 16)=true:=decide_eq_true (by omega)
         have g4:decide ((16:Int)<z)=true:=decide_eq_true (by omega);rw [if_pos hz2] at HT;clear hz2;go_wp2_with fail;go_ret;exact ⟨qAa (by rw [HF3.out,HT.out]),HX5.out.trans HXk.out⟩
       · have g3:decide ((z:Int) > 16)=false:=decide_eq_false (by omega)
         have g4:decide ((16:Int)<z)=false:=decide_eq_false (by omega);rw [if_neg hz2] at HT;clear hz2;go_wp2_with fail;go_ret;exact ⟨qAa (by rw [HF3.out,HT.out]),HX5.out.trans HXk.out⟩
end
section
open Go.RowKit
def EqRel {α:Type} (w:World) (n:Nat) (l1 l2:List α) (i:Value) (wr:World):Prop:=∃ k:Nat,k≤n∧i = .int .i64 k∧Ext w wr∧l1.take k=l2.take k
theorem qFa {α:Type} {l1 l2:List α} {n:Nat} (h1:l1.length=n) (h2:l2.length=n) (h:l1.take n=l2.take n):l1=l2:=by
 rw [List.take_of_length_le (by omega),List.take_of_length_le (by omega)] at h;exact h
theorem qEe {α:Type} {l1 l2:List α} {k:Nat} {x:α} (h:l1.take k=l2.take k) (h1:l1[k]?=some x) (h2:l2[k]?=some x):l1.take (k+1)=l2.take (k+1):=by
 rw [List.take_add_one,List.take_add_one,h,h1,h2]
theorem ne_at {α:Type} {l1 l2:List α} {k:Nat} {x y:α} (h1:l1[k]?=some x) (h2:l2[k]?=some y) (h:¬ x=y):¬ l1=l2:=by
 rintro rfl;rw [h1] at h2;exact h (Option.some.inj h2)
end
end Go.Proofs.YtablhmobekmflaaGreatDoor