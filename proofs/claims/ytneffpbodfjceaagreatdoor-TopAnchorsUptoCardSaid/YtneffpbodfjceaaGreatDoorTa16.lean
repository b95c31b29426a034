/- Texts laid together. -/
import Derived.Test.YtneffpbodfjceaaGreatDoorTa15
set_option linter.unusedVariables false
set_option linter.unusedSimpArgs false
set_option maxRecDepth 100000
set_option maxHeartbeats 16000000
namespace Go.Proofs.YtneffpbodfjceaaGreatDoor
section
open Go.RowKit
theorem qSp {T e:TypeId} {B b:Nat} {bs:List Value} {w w1:World} (h:Lib.IsBuilder T e B b bs w) (k:Ext w w1):Lib.IsBuilder T e B b bs w1:=by
 have key:∀ p,Lib.BuilderAt T e B b p bs w->Lib.BuilderAt T e B b p bs w1:=fun p ⟨hB,v,hb,hown,hne⟩ =>
  ⟨hB,v,(k.block b (Array.getElem?_eq_some_iff.1 hb).1).trans hb,qAh hown k,hne⟩
 exact h.elim (fun x=>.inl (key _ x)) (fun x=>.inr (key _ x))
def qJb (s:ByteArray):Prop:=∀ (k:Nat) (h:k<s.size),s[k].toNat≠123/\s[k].toNat≠125/\s[k].toNat≠92
def byC (l:List UInt8):List Value:=l.flatMap fun c=>[Value.int .u8 (c.toNat:Int)]
def zMg (w:World) (s:ByteArray) (v i:Value) (wr:World):Prop:=∃ k:Nat,k<=s.size/\i = .int .i64 (k:Int)/\Ext w wr/\wr.ownsRow w.heap.size 5 1 v k (byC (s.data.toList.take k))
theorem qMn (s:ByteArray) (k:Nat) (h:k<s.size):s.data.toList[k]?=some s[k]:=by
 rw [← List.head?_drop,qGh s k h];rfl
theorem zMi (s:ByteArray):(⟨s.data.toList.toArray⟩:ByteArray)=s:=by simp
theorem qRt {s:ByteArray} {k:Nat} (h:k<s.size):byC (s.data.toList.take (k+1))=byC (s.data.toList.take k)++[.int .u8 (s[k].toNat:Int)]:=by
 unfold byC;rw [take_snoc' _ k _ (qMn s k h),List.flatMap_append];rfl
theorem zIj (s:ByteArray) (w:World) (hp:qJb s) (hs:s.size<=4294967296):Calls Tryz.prog 160 #[.string s] w fun e w'=>e = .returned (.tuple #[.string s,.int .i64 (s.size:Int)])/\Ext w w':=by
 have HP:=gH hp;clear hp;go_enter Tryz.func160,Tryz.ntmps160;go_wp2_with fail
 go_loopw [4,5] (fun v i wr=>zMg w s v i wr) (fun _ i _=>s.size-(intOf i).toNat)
 case atStart=>exact ⟨0,Nat.zero_le _,rfl,Ext.refl w,⟨rfl,.inl ⟨rfl,rfl⟩⟩⟩
 case round =>
  obtain ⟨k,hk,rfl,hx,hown⟩:=hrel;have hxs:=hx.size
  by_cases hlt:k<s.size
  . obtain ⟨p1,p2,p3⟩:=HP.out k hlt
    have q1:((s[k].toNat:Int) != 123)=true:=bne_iff_ne.2 (by omega);have q2:((s[k].toNat:Int) != 125)=true:=bne_iff_ne.2 (by omega);have q3:((s[k].toNat:Int) == 92)=false:=beq_eq_false_iff_ne.2 (by omega);have HT:=gH (qRt hlt);clear p1 p2 p3;go_wp2_with (at_builtin;refine qAi rfl (.tmp 35) (.tmp 39) 176 rfl qGl Tryz.underlying176 rfl (by decide) (hown.alloc _) (by exact rfl) wr.heap.size _ (by exact rfl) (by exact Blk.new' rfl) (by exact rfl) (by simp [Value.oneCell']) (by omega) (by unfold maxLen;omega) (by simp;omega) ?_;intro v' w3 hown3 hgr);refine ⟨⟨k+1,by omega,by go_num,(hx.alloc _).grown hgr (fun q hq=>by have:=qBg hown q hq;simpa using this),?_⟩,by simp only [intOf];omega⟩;rw [HT.out];exact hown3
  . obtain rfl:k=s.size:=by omega
    have ht:s.data.toList.take s.size=s.data.toList:=List.take_of_length_le (by rw [qBl];exact Nat.le_refl _);rw [ht] at hown;rw [← qBl s] at hown;unfold byC at hown;obtain ⟨A,c,rfl,hcv⟩:=qKf hown;rw [zMi] at hcv;rw [qBl] at hcv ⊢;clear hown ht;go_wp2_with fail;go_ret2;exact ⟨rfl,hx⟩
theorem zDi (s:ByteArray) (w:World) (hp:qJb s) (hs:s.size<=4294967296):Calls Tryz.prog 218 #[.string s] w fun e w'=>e = .returned (.string s)/\Ext w w':=by
 have HP:=gH hp;clear hp;go_enter Tryz.func218,Tryz.ntmps218;go_wp2_with fail
 go_loopw [3,7] (fun v i wr=>zMg w s v i wr) (fun _ i _=>s.size-(intOf i).toNat)
 case atStart=>exact ⟨0,Nat.zero_le _,rfl,Ext.refl w,⟨rfl,.inl ⟨rfl,rfl⟩⟩⟩
 case round =>
  obtain ⟨k,hk,rfl,hx,hown⟩:=hrel;have hxs:=hx.size
  by_cases hlt:k<s.size
  . obtain ⟨p1,p2,p3⟩:=HP.out k hlt
    have q1:((s[k].toNat:Int) == 123)=false:=beq_eq_false_iff_ne.2 (by omega);have q2:((s[k].toNat:Int) == 125)=false:=beq_eq_false_iff_ne.2 (by omega);have q3:((s[k].toNat:Int) == 92)=false:=beq_eq_false_iff_ne.2 (by omega);have HT:=gH (qRt hlt);clear p1 p2 p3;go_wp2_with (at_builtin;refine qAi rfl (.tmp 29) (.tmp 33) 176 rfl qGl Tryz.underlying176 rfl (by decide) (hown.alloc _) (by exact rfl) wr.heap.size _ (by exact rfl) (by exact Blk.new' rfl) (by exact rfl) (by simp [Value.oneCell']) (by omega) (by unfold maxLen;omega) (by simp;omega) ?_;intro v' w3 hown3 hgr);refine ⟨⟨k+1,by omega,by go_num,(hx.alloc _).grown hgr (fun q hq=>by have:=qBg hown q hq;simpa using this),?_⟩,by simp only [intOf];omega⟩;rw [HT.out];exact hown3
  . obtain rfl:k=s.size:=by omega
    have ht:s.data.toList.take s.size=s.data.toList:=List.take_of_length_le (by rw [qBl];exact Nat.le_refl _);rw [ht] at hown;rw [← qBl s] at hown;unfold byC at hown;obtain ⟨A,c,rfl,hcv⟩:=qKf hown;rw [zMi] at hcv;rw [qBl] at hcv ⊢;clear hown ht;go_wp2_with fail;go_ret;exact ⟨rfl,hx⟩
def runP (s:ByteArray):Run:=⟨s,0,false,false,⟨#[]⟩⟩
theorem zOt {s:ByteArray} (hv:vld s=true) (hne:s.size≠0):qCu [runP s]=0:=by
 unfold qCu;rw [if_neg (by simp)];unfold qEf;have he:s.toList.isEmpty=false:=zIl hne
 have hr:vld (⟨#[]⟩:ByteArray)=true:=by
  unfold vld;rw [show (⟨#[]⟩:ByteArray).data.toList=[] from rfl,Lib.validD_nil];rfl
 rw [qOp (x:=runP s) hv he (show (0:Int)<=6 by decide) hr];rfl
def zQf (w1:World) (B:Nat) (s:ByteArray) (i:Value) (wr:World):Prop :=
 ∃ k:Nat,k<=1/\i = .int .i64 k/\Ext w1 wr/\Lib.IsBuilder 178 5 B B (Lib.byteCells (if k=0 then [] else s.data.toList)) wr
theorem zAs (s:ByteArray) (A:Option Addr) (c:Nat) (w:World) (hE:Env w) (hl:qBj w A 1 [runP s]) (hp:qJb s) (hs:s.size<=4294967296) (hv:vld s=true) (hne:s.size≠0) :
 Calls Tryz.prog 161 #[.agg #[.slice A 1 c]] w fun e w'=>e = .returned (.tuple #[.string s,.int .i64 0])/\Ext w w':=by
 have HX0:=gH ((Ext.refl w).alloc (.cells #[.slice A 1 c] 61));have HCk:=gH (qIl A 1 c [runP s] _ (hE.ext HX0.out) (hl.ext HX0.out) (by intro r hr;simp at hr;subst hr;exact ⟨by show s.size<=_;omega,Nat.zero_le _⟩) (by omega));rw [zOt hv hne] at HCk;have HEs:=gH (fun w=>zDi s w hp hs);have HL:=gH hl;clear hE hl hp hv;go_enter Tryz.func161,Tryz.ntmps161;go_wp2_with fail;refine HCk.out.mono ?_;rintro e w1 ⟨rfl,hx1⟩;have HXb:=gH (HX0.out.trans hx1);have hB0:=(Blk.new w 61 #[.slice A 1 c]).ext hx1;have HBl:=gH (Blk.new w1 178 #[.pointer none,.slice none 0 0]);have HXc:=gH ((Ext.refl w1).alloc (.cells #[.pointer none,.slice none 0 0] 178));(have hc0:=fun o=>hB0.cell o);(have hc1:=fun o=>(hB0.ext HXc.out).cell o);have hsz1:=HXb.out.size;clear hx1 hB0 HCk;go_wp2_with fail;clear hc0 hc1;obtain ⟨W1,hW1⟩:∃ W1,W1=w1.alloc (.cells #[.pointer none,.slice none 0 0] 178):=⟨_,rfl⟩;(have hsW:W1.heap.size=w1.heap.size+1:=by rw [hW1];simp);rw [← hW1] at HBl HXc ⊢;clear hW1
 go_loopw [17] (fun i wr=>zQf w1 w1.heap.size s i wr) (fun i _=>1-(intOf i).toNat)
 case atStart=>exact ⟨0,Nat.zero_le _,rfl,HXc.out,.inl ⟨Nat.le_refl _,.slice none 0 0,HBl.out,⟨rfl,.inl ⟨rfl,rfl⟩⟩,by simp [Value.ownBlock]⟩⟩
 case round =>
  obtain ⟨k,hk,rfl,hx,hbd⟩:=hrel;have HX:=gH hx;have HB:=gH hbd;have hsz:=hx.size;clear hbd hx
  by_cases hlt:k<1
  . obtain rfl:k=0:=by omega
    have hxw:=HXb.out.trans HX.out;obtain ⟨b,off,r,rfl,hr,hC⟩:=(HL.out.ext hxw).at_ hlt;simp at hr;subst hr;obtain ⟨c0,c1,c2,c3,c4⟩:=hC;simp only [Nat.zero_mul,Nat.add_zero] at c0 c1 c2 c3 c4;unfold runP at c0 c1 c2 c3 c4;dsimp only at c0 c1 c2 c3 c4;clear hxw;go_wp2_with fail;refine (HEs.out _).mono ?_;rintro e w2 ⟨rfl,hx2⟩;have HX2:=gH ((HX.out.alloc _).trans hx2);have HB2:Hid (Lib.IsBuilder 178 5 w1.heap.size w1.heap.size (Lib.byteCells []) w2):=gH (qSp (qHx HB.out _) hx2);have hs2:=HX2.out.size;clear hx2;go_wp2_with fail;refine (qFk w1.heap.size w1.heap.size _ s _ HB2.out (by have h0:(Lib.byteCells []).length=0:=rfl;rw [h0];omega) (by omega)).mono ?_;rintro e w3 ⟨rfl,hb3,hx3⟩;go_wp2_with fail;refine ⟨⟨1,Nat.le_refl _,rfl,HX2.out.below hx3 (by omega),?_⟩,by simp [intOf]⟩;exact .inr hb3
  . obtain rfl:k=1:=by omega
    go_wp2_with fail;refine (Tryz.Builder_String_any w1.heap.size _ _ _ HB.out (by omega)).mono ?_;rintro e w2 ⟨rfl,hx2⟩;go_wp2_with fail;go_ret2;exact ⟨by simp,(HXb.out.trans HX.out).below hx2 (by omega)⟩
theorem zId:(Tryz.prog.info? 102).map (·.size)=some 5:=by kernel_rfl
theorem qAz:(Tryz.prog.info? 61).map (·.size)=some 1:=by kernel_rfl
theorem qEt:(Tryz.prog.info? 102).map (fun i=>(i.zero,i.size,i.bytes))=some (some (.agg #[.string ⟨#[]⟩,.int .u8 0,.bool false,.bool false,.string ⟨#[]⟩]),5,40):=by kernel_rfl
def strSz:Value->Nat | .string t=>t.size | _=>0
def zPy (w:World) (s:ByteArray) (v:Value) (wr:World):Prop :=
 (v = .string s/\Ext w wr/\Blk wr w.heap.size 61 #[.slice none 0 0]/\Blk wr (w.heap.size+1) 61 #[.slice none 0 0]) \/
 (v = .string ⟨#[]⟩/\Ext w wr/\Blk wr w.heap.size 61 #[.slice none 0 0]/\∃ g c,Blk wr (w.heap.size+1) 61 #[.slice (some ⟨g,0,none⟩) 1 c]/\wr.ownsRow w.heap.size 102 5 (.slice (some ⟨g,0,none⟩) 1 c) 1 (runP s).cells)
theorem qWp (s:ByteArray) (w:World) (hE:Env w) (hp:qJb s) (hs:s.size<=4294967296) (hv:vld s=true) (hne:s.size≠0) :
 Calls Tryz.prog 73 #[.string s] w fun e w'=>∃ g c,e = .returned (.tuple #[.agg #[.slice (some ⟨g,0,none⟩) 1 c],.int .i64 0])/\w'.ownsRow w.heap.size 102 5 (.slice (some ⟨g,0,none⟩) 1 c) 1 (runP s).cells/\Ext w w':=by
 have HEn:=gH hE;have HPl:=gH (fun w=>zIj s w hp hs);have HTx:=gH (fun A c w' (hx:Ext w w') hl=>zAs s A c w' (hE.ext hx) hl hp hs hv hne);(have h0s:0<s.size:=by omega);have q1:(((s[0]'h0s).toNat:Int) == 123)=false:=beq_eq_false_iff_ne.2 (by have:=(hp 0 h0s).1;omega);have HEx:Hid (s.extract s.size s.size=⟨#[]⟩):=gH (by apply ByteArray.ext;apply Array.ext';simp);have hne2:=zIm hne;(have hne3:(s.toList != [])=true:=by simpa using hne2);(have hseq:(s.toList != s.toList)=false:=by simp);have HB0:=gH ((Blk.new w 61 #[.slice none 0 0]).alloc (.cells #[.slice none 0 0] 61));have HB1:=gH (Blk.new' (w:=w.alloc (.cells #[.slice none 0 0] 61)) (g:=w.heap.size+1) (t:=61) (cs:=#[.slice none 0 0]) (by simp));have HX0:=gH (((Ext.refl w).alloc (.cells #[.slice none 0 0] 61)).alloc (.cells #[.slice none 0 0] 61));have hq0:((0:Int) == (s.size:Int))=false:=beq_eq_false_iff_ne.2 (by omega);clear hE hp hv;go_enter Tryz.func73,Tryz.ntmps73;go_wp2_with fail
 go_loopw [5] (fun v wr=>zPy w s v wr) (fun v _=>strSz v)
 case atStart=>exact .inl ⟨rfl,HX0.out,HB0.out,HB1.out⟩
 case round =>
  rcases hrel with ⟨rfl,hx,hb0,hb1⟩ | ⟨rfl,hx,hb0,g,c,hb1,ho⟩
  . have HX:=gH hx
    have HC0:=gH hb0;have HC1:=gH hb1;have hsz:=hx.size;have HBr:=gH (Blk.new wr 102 #[.string ⟨#[]⟩,.int .u8 0,.bool false,.bool false,.string ⟨#[]⟩]);have HXr:=gH ((Ext.refl wr).alloc (.cells #[.string ⟨#[]⟩,.int .u8 0,.bool false,.bool false,.string ⟨#[]⟩] 102));clear hx hb0 hb1;go_wp2_with fail;refine (HPl.out _).mono ?_;rintro e w2 ⟨rfl,hx2⟩;have HX2:=gH (HXr.out.trans hx2);have HB2:=gH (HBr.out.ext hx2);(have hc2:=fun o=>HB2.out.cell o);(have hf2:=fun o=>HB2.out.frozen o);have hst2:w2.setCell ⟨wr.heap.size,0,none⟩ (.string s)=putB w2 wr.heap.size 102 #[.string s,.int .u8 0,.bool false,.bool false,.string ⟨#[]⟩]:=qAd HB2.out 0 (.string s);have HB3:=gH (HB2.out.put #[.string s,.int .u8 0,.bool false,.bool false,.string ⟨#[]⟩]);have HX3:=gH (HX2.out.put (Nat.le_refl _) 102 #[.string s,.int .u8 0,.bool false,.bool false,.string ⟨#[]⟩]);obtain ⟨W3,hW3⟩:∃ W3,W3=putB w2 wr.heap.size 102 #[.string s,.int .u8 0,.bool false,.bool false,.string ⟨#[]⟩]:=⟨_,rfl⟩;rw [← hW3] at hst2 HB3 HX3;have HD0:=gH (HC0.out.ext HX3.out);have HD1:=gH (HC1.out.ext HX3.out);(have hd1:=fun o=>HD1.out.cell o);have hs3:=HX3.out.size;have hex:=HEx.out;have HX4:=gH (HX.out.trans HX3.out);clear hx2 hW3
    go_wp2_with (first
     | (refine qAa rfl 102 (.tmp 6) rfl wr.heap.size 102 _ _ (by exact rfl) (by exact HB3.out) Tryz.underlying102 rfl (by exact zId) ?_)
     | (at_builtin;refine qAi rfl (.tmp 34) (.tmp 36) 59 rfl qEt Tryz.underlying59 rfl (by decide) (base:=w.heap.size) (n:=0) (xs:=[]) (by exact ⟨rfl,.inl ⟨rfl,rfl⟩⟩) (by exact rfl) W3.heap.size _ (by exact rfl) (by exact Blk.new' rfl) (by exact rfl) (by simp [Value.oneCell']) (by omega) (by unfold maxLen;omega) (by simp;omega) ?_;intro v' w4 hown4 hgr;obtain ⟨g4,c4,rfl,hg4,-⟩:=qBt hown4 (by omega);have hx4:=((Ext.refl W3).alloc _).grown hgr (fun q hq=>by simp [Value.ownBlock] at hq);have HD4:=gH (HD1.out.ext hx4);have HE4:=gH (HD0.out.ext hx4);have HX5:=gH (HX4.out.trans hx4);have hd4:=fun o=>HD4.out.cell o;have hd4f:=fun o=>HD4.out.frozen o;have hst4:=qAd HD4.out 0 (.slice (some ⟨g4,0,none⟩) 1 c4);have HD5:=gH (HD4.out.put #[.slice (some ⟨g4,0,none⟩) 1 c4]);have hd5:=fun o=>HD5.out.cell o;have HO4:=gH hown4;clear hown4 hgr hx4))
    refine ⟨.inr ⟨rfl,HX5.out.put (by omega) _ _,HE4.out.put_other (by omega) _,g4,c4,HD5.out,?_⟩,h0s⟩;have:=qBi (cs:=#[.slice (some ⟨g4,0,none⟩) 1 c4]) HO4.out HD4.out (by decide);simpa [runP,Run.cells] using this
  . have HX:=gH hx
    have HB:=gH hb0;have HO:=gH ho;(have hc1:=fun o=>hb1.cell o);have HBb:=gH hb1;obtain ⟨A',c',hv,-,-,hsl,-⟩:=qBn (f:=Run.cells) (size:=5) (l:=[runP s]) (fun _=>rfl) rfl (by simpa using ho)
    cases hv
    have HL:=gH (qBj.of_cells hsl);clear hx hb0 hb1 ho hsl;go_wp2_with fail;refine (HTx.out _ _ _ HX.out HL.out).mono ?_;rintro e w2 ⟨rfl,hx2⟩;have HX2:=gH (HX.out.trans hx2);have HB2:=gH (HB.out.ext hx2);have HO2:=gH (qAh HO.out hx2);(have hc2:=fun o=>(HBb.out.ext hx2).cell o);(have hd2:=fun o=>HB2.out.cell o);(have hf2:=fun o=>HB2.out.frozen o);have hst2:=qAd HB2.out 0 (.slice (some ⟨g,0,none⟩) 1 c);clear hx2;go_wp2_with fail;refine bodyPost_ret (v:=.tuple #[.agg #[.slice (some ⟨g,0,none⟩) 1 c],.int .i64 0]) ?_ rfl ⟨g,c,rfl,qBi HO2.out HB2.out (by decide),HX2.out.put (Nat.le_refl _) _ _⟩;exact qAq (P:=Tryz.prog) Tryz.results73 (g:=w.heap.size) rfl (by exact HB2.out.put _) Tryz.underlying61 rfl qAz
theorem qMe {g:Nat} {t:TypeId}:∀ (vs pre old suf:List Value) (w:World),Blk w g t (pre++(old++suf)).toArray->old.length=vs.length ->
 w.setCells g pre.length vs=putB w g t (pre++(vs++suf)).toArray
 | [],pre,old,suf,w,h,hl=>by
  obtain rfl:old=[]:=List.eq_nil_of_length_eq_zero hl;simp only [World.setCells];exact (qEv h).symm
 | v :: vs,pre,[],suf,w,h,hl=>by simp at hl
 | v :: vs,pre,x :: old,suf,w,h,hl=>by
  simp only [World.setCells]
  have e:((pre++(x :: old++suf)).toArray).setIfInBounds pre.length v=(pre++[v]++(old++suf)).toArray:=by
   apply Array.ext';simp [List.set_append]
  rw [qAd h,e];have h2:=qMe vs (pre++[v]) old suf _ (by rw [← e];exact h.put _) (by simpa using hl);rw [List.length_append] at h2;simp only [List.length_cons,List.length_nil,Nat.zero_add] at h2;rw [← e,h2,qBa];simp
section
variable {P:Program} {ops:Array Oper} {rest:List Oper} {op:Oper} {a:Act} {w:World} {Q:Exit->Act->World->Prop} {K:Act->World->Prop}
theorem qJg (hgd:op.guard=none) (ty:TypeId) (x y:Operand) (ho:op.op = .store ty x y) (g off:Nat) (t:TypeId) (ds cs' ds':Array Value) (pre old suf:List Value) (hx:a.eval x = .pointer (some ⟨g,off,none⟩)) (hy:a.eval y = .agg cs')
 (hB:Blk w g t ds) (hds:ds=(pre++(old++suf)).toArray) (hoff:pre.length=off) (hl:old.length=cs'.toList.length) (hi:(P.info? ty).map (·.size)=some cs'.size) (h1:cs'.all (·.oneCell')=true)
 (hds':ds'=(pre++(cs'.toList++suf)).toArray) (h:wpList P ops Q rest (a.put op.dst undef) (putB w g t ds')):wpList P ops Q (op :: rest) a w:=by
 subst hds;subst hds';subst hoff;refine wpList_store_mid hgd ty x y ho g pre.length cs' hx hy (fun j hj=>?_) hi h1 (by rw [qMe _ _ _ _ _ hB hl];exact h);rw [hB.cell,hB.frozen];exact ⟨by simp at hl ⊢;omega,rfl⟩
theorem qCj (hgd:op.guard=none) (ty:TypeId) (x:Operand) (ho:op.op = .load ty x) (g off:Nat) (t:TypeId) (ds cs:Array Value) (d:TypeDesc) (hx:a.eval x = .pointer (some ⟨g,off,none⟩))
 (hB:Blk w g t ds) (hc:(ds.toList.drop off).take cs.size=cs.toList) (hu:P.underlying ty=some d) (hd:d.isRow=true) (hi:(P.info? ty).map (·.size)=some cs.size)
 (h:wpList P ops Q rest (a.put op.dst (.agg cs)) w):wpList P ops Q (op :: rest) a w:=by
 refine wpList_load_mid hgd ty x ho g off hx cs.toList d (fun j v hv=>?_) hu hd (by simpa using hi) (by simpa using h);rw [hB.cell,← Array.getElem?_toList];rw [← hc,List.getElem?_take] at hv
 split at hv
 . rwa [List.getElem?_drop] at hv
 . cases hv
theorem qEz (hgd:op.guard=none) (ty:TypeId) (x:Operand) (ho:op.op = .load ty x) (g off:Nat) (cs:Array Value) (d:TypeDesc) (hx:a.eval x = .pointer (some ⟨g,off,none⟩))
 (hc:∀ j v,cs[j]?=some v->w.cell? ⟨g,off+j,none⟩=some v) (hu:P.underlying ty=some d) (hd:d.isRow=true) (hi:(P.info? ty).map (·.size)=some cs.size)
 (h:wpList P ops Q rest (a.put op.dst (.agg cs)) w):wpList P ops Q (op :: rest) a w:=by
 refine wpList_load_mid hgd ty x ho g off hx cs.toList d (fun j v hv=>?_) hu hd (by simpa using hi) (by simpa using h);exact hc j v (by simpa using hv)
theorem qFs (ty:TypeId) (x:Operand) (ho:op.op = .load ty x) (g off:Nat) (t:TypeId) (ds cs:Array Value) (d:TypeDesc) (hx:a.eval x = .pointer (some ⟨g,off,none⟩))
 (hB:Blk w g t ds) (hc:(ds.toList.drop off).take cs.size=cs.toList) (hu:P.underlying ty=some d) (hd:d.isRow=true) (hi:(P.info? ty).map (·.size)=some cs.size)
 (h:K (a.put op.dst (.agg cs)) w):op.wp P a w K Q:=by
 refine wp_load_mid ty x ho g off hx cs.toList d (fun j v hv=>?_) hu hd (by simpa using hi) (by simpa using h);rw [hB.cell,← Array.getElem?_toList];rw [← hc,List.getElem?_take] at hv
 split at hv
 . rwa [List.getElem?_drop] at hv
 . cases hv
theorem qDl {f:FuncId} {x0:Operand} {ts:Array TypeId} {v0:Value} {o:Oper} {R:Ending->World->Prop} (ho:o.op = .call { callee:=.value (.func f),args:=#[x0],argTypes:=ts })
 (h0:a.eval x0=v0) (hcall:∀ args w,(callFunc f args).run P w = .ok (.enter f args) w) (hc:Calls P f #[v0] w R)
 (h:∀ e w',R e w'->∃ v,e = .returned v/\K (a.put o.dst v) w'):o.wp P a w K Q:=by
 have h2:Calls P f #[v0] w (fun
  | .returned u,w''=>K (a.put o.dst u) w''
  | .panicked chain,w''=>Q (.panic chain) a w''
  | .outgrown,_=>LetsOut Q):=hc.mono fun en w' hr=>by
  obtain ⟨u,rfl,hk⟩:=h en w' hr;exact hk
 unfold Oper.wp execOp;simp only [ho];have hev:a.eval (.func f) = .func (.func f) #[] #[]:=rfl;simp [resolve,invoke,hev,h0,hcall,Sem.run_bind,Deferred.ofValue];exact h2
theorem qDm {f:FuncId} {x0 x1:Operand} {ts:Array TypeId} {v0 v1:Value} {o:Oper} {R:Ending->World->Prop} (ho:o.op = .call { callee:=.value (.func f),args:=#[x0,x1],argTypes:=ts })
 (h0:a.eval x0=v0) (h1:a.eval x1=v1) (hcall:∀ args w,(callFunc f args).run P w = .ok (.enter f args) w) (hc:Calls P f #[v0,v1] w R)
 (h:∀ e w',R e w'->∃ v,e = .returned v/\K (a.put o.dst v) w'):o.wp P a w K Q:=by
 have h2:Calls P f #[v0,v1] w (fun
  | .returned u,w''=>K (a.put o.dst u) w''
  | .panicked chain,w''=>Q (.panic chain) a w''
  | .outgrown,_=>LetsOut Q):=hc.mono fun en w' hr=>by
  obtain ⟨u,rfl,hk⟩:=h en w' hr;exact hk
 unfold Oper.wp execOp;simp only [ho];have hev:a.eval (.func f) = .func (.func f) #[] #[]:=rfl;simp [resolve,invoke,hev,h0,h1,hcall,Sem.run_bind,Deferred.ofValue];exact h2
theorem qIj {f:FuncId} {x0 x1 x2:Operand} {ts:Array TypeId} {v0 v1 v2:Value} {o:Oper} {R:Ending->World->Prop} (ho:o.op = .call { callee:=.value (.func f),args:=#[x0,x1,x2],argTypes:=ts })
 (h0:a.eval x0=v0) (h1:a.eval x1=v1) (h2:a.eval x2=v2) (hcall:∀ args w,(callFunc f args).run P w = .ok (.enter f args) w) (hc:Calls P f #[v0,v1,v2] w R)
 (h:∀ e w',R e w'->∃ v,e = .returned v/\K (a.put o.dst v) w'):o.wp P a w K Q:=by
 have h3:Calls P f #[v0,v1,v2] w (fun
  | .returned u,w''=>K (a.put o.dst u) w''
  | .panicked chain,w''=>Q (.panic chain) a w''
  | .outgrown,_=>LetsOut Q):=hc.mono fun en w' hr=>by
  obtain ⟨u,rfl,hk⟩:=h en w' hr;exact hk
 unfold Oper.wp execOp;simp only [ho];have hev:a.eval (.func f) = .func (.func f) #[] #[]:=rfl;simp [resolve,invoke,hev,h0,h1,h2,hcall,Sem.run_bind,Deferred.ofValue];exact h3
end
theorem zEi (r:Int) (w:World) (h0:0<=r) (h1:r<=255):Calls Tryz.prog 212 #[.int .u8 r] w fun e w'=>e = .returned (.string (qIa r))/\Ext w w':=by
 have HO:=gH (zHe r w h0 h1);clear h0 h1;(have hfd:∀ w:World,(Instr.field 341 (.agg #[.string (qIa r),.int .i64 (qJe r),.int .i64 (rNom r),.bool (qMj r)]) 0).run Tryz.prog w = .ok (.string (qIa r)) w:=fun _=>by kernel_rfl);unfold qIc at HO;go_enter Tryz.func212,Tryz.ntmps212;go_wp2_with fail;refine HO.out.mono ?_;rintro e w1 ⟨rfl,hx⟩;go_wp2_with fail;go_ret;exact ⟨rfl,hx⟩
def kndS (k:Int):ByteArray:=if k=1 then ⟨#[68,73,65,76,79,71,85,69]⟩ else if k=2 then ⟨#[83,79,85,78,68]⟩ else if k=3 then ⟨#[84,73,84,76,69]⟩ else ⟨#[77,85,83,73,67]⟩
theorem zEd (k:Int) (w:World) (h1:1<=k) (h4:k<=4):Calls Tryz.prog 105 #[.int .u8 k] w fun e w'=>e = .returned (.string (kndS k))/\Ext w w':=by
 have hk:k=1\/k=2\/k=3\/k=4:=by omega
 rcases hk with rfl | rfl | rfl | rfl
 all_goals
  clear h1 h4;go_enter Tryz.func105,Tryz.ntmps105;go_wp2_with fail;refine (qVs _).mono ?_;rintro e w1 ⟨rfl,rfl⟩;unfold qOa;go_wp2_with fail;go_ret;exact ⟨rfl,(Ext.refl w).alloc _⟩
theorem qEu:(Tryz.prog.info? 9).map (fun i=>(i.zero,i.size,i.bytes))=some (some (.string ⟨#[]⟩),1,16):=by kernel_rfl
def qAp (w:World) (L:Nat) (v:Value) (l:List ByteArray):Prop:=w.ownsRow L 9 1 v l.length (l.flatMap fun x=>[Value.string x])
theorem qAp.at_ {w:World} {L:Nat} {v:Value} {l:List ByteArray} (h:qAp w L v l):∃ A c,v = .slice A l.length c/\qFj w A l.length l:=by
 obtain ⟨A,c,rfl,-,-,hsl,-⟩:=qBn (f:=fun x:ByteArray=>[Value.string x]) (size:=1) (fun _=>rfl) rfl h;exact ⟨A,c,rfl,hsl⟩
theorem qAp.kb {w w1:World} {L:Nat} {v:Value} {l:List ByteArray} (h:qAp w L v l) (k:KB 9 w w1):qAp w1 L v l:=by
 refine ⟨h.1,?_⟩
 rcases h.2 with hn | ⟨g,cap,cur,rfl,hb,hg,rest⟩
 . exact .inl hn
 . exact .inr ⟨g,cap,cur,rfl,hb,k _ _ hg,rest⟩
theorem qAp.ext {w w1:World} {L:Nat} {v:Value} {l:List ByteArray} (h:qAp w L v l) (k:Ext w w1):qAp w1 L v l:=qAh h k
theorem qAp.words {w:World} {L:Nat} {A:Option Addr} {n c g:Nat} {l:List ByteArray} (h:qAp w L (.slice A n c) l) (hg:qBc w 234 g):n=l.length/\∀ w',ButB g w w'->qFj w' A n l:=by
 obtain ⟨A',c',hv,-⟩:=h.at_
 cases hv
 refine ⟨rfl,fun w' hb=>?_⟩;obtain ⟨A',c',hv,hs⟩:=(h.kb (hb.kb hg (by decide))).at_
 cases hv
 exact hs
def zPx (w:World) (L:List ByteArray) (v i:Value) (wr:World):Prop:=∃ k:Nat,k<=L.length/\i = .int .u8 ((k:Int)+1)/\Ext w wr/\qAp wr w.heap.size v (L.take k)
def zDa:List ByteArray:=[qIa 1,qIa 2,qIa 3,qIa 4,qIa 5,qIa 6,qIa 7]
def zCq:List ByteArray:=[kndS 1,kndS 2,kndS 3,kndS 4]
def zQm:List ByteArray:=[⟨#[68,70]⟩,⟨#[78,68,70]⟩]
theorem zLg {k:Nat} (h:k<7):zDa[k]?=some (qIa ((k:Int)+1)):=by
 have hk:k=0\/k=1\/k=2\/k=3\/k=4\/k=5\/k=6:=by omega
 rcases hk with rfl | rfl | rfl | rfl | rfl | rfl | rfl<;>rfl
theorem zKp {k:Nat} (h:k<4):zCq[k]?=some (kndS ((k:Int)+1)):=by
 have hk:k=0\/k=1\/k=2\/k=3:=by omega
 rcases hk with rfl | rfl | rfl | rfl<;>rfl
theorem zHt (w:World):Calls Tryz.prog 143 #[] w fun e w'=>∃ v,e = .returned v/\qAp w' w.heap.size v zDa/\Ext w w':=by
 go_enter Tryz.func143,Tryz.ntmps143;go_wp2_with fail
 go_loopw [1,2] (fun v i wr=>zPx w zDa v i wr) (fun _ i _=>9-(intOf i).toNat)
 case atStart=>exact ⟨0,Nat.zero_le _,rfl,Ext.refl w,⟨rfl,.inl ⟨rfl,rfl⟩⟩⟩
 case round =>
  obtain ⟨k,hk,rfl,hx,hown⟩:=hrel;have hk7:k<=7:=hk;have hxs:=hx.size;(have hlen:(zDa.take k).length=k:=by rw [List.length_take];exact Nat.min_eq_left hk)
  by_cases hlt:k<7
  . have d1:decide ((k:Int)+1<=7)=true:=decide_eq_true (by omega)
    have HN:=gH (fun w=>zEi ((k:Int)+1) w (by omega) (by omega));have HS:=gH (take_snoc' zDa k _ (zLg hlt));have HO:=gH hown;clear hown;go_wp2_with fail;refine (HN.out _).mono ?_;rintro e w1 ⟨rfl,hx1⟩;have HO1:=gH (HO.out.ext hx1);unfold qAp at HO1;rw [hlen] at HO1;have hx2:=hx.trans hx1;have hxs2:=hx2.size;go_wp2_with (at_builtin;refine qAi rfl (.tmp 7) (.tmp 10) 129 rfl qEu Tryz.underlying129 rfl (by decide) (HO1.out.alloc _) (by exact rfl) w1.heap.size _ (by exact rfl) (by exact Blk.new' rfl) (by exact rfl) (by simp [Value.oneCell']) (by omega) (by unfold maxLen;omega) (by simp;omega) ?_;intro v' w4 hown4 hgr);(have hnum:((k:Int)+1+1)=((k+1:Nat):Int)+1:=by omega);refine ⟨⟨k+1,hlt,by go_num,(hx2.alloc _).grown hgr (fun q hq=>by have:=qBg HO1.out q hq;simpa using this),?_⟩,by simp only [intOf];omega⟩;unfold qAp;rw [HS.out,List.flatMap_append,List.length_append,hlen];exact hown4
  . obtain rfl:k=7:=by omega
    (have hd:decide ((7:Int)+1<=7)=false:=by decide);have HO:=gH hown;clear hown;go_wp2_with fail;go_ret;exact ⟨_,rfl,HO.out,hx⟩
theorem zCx (w:World):Calls Tryz.prog 147 #[] w fun e w'=>∃ v,e = .returned v/\qAp w' w.heap.size v zCq/\Ext w w':=by
 go_enter Tryz.func147,Tryz.ntmps147;go_wp2_with fail
 go_loopw [1,2] (fun v i wr=>zPx w zCq v i wr) (fun _ i _=>6-(intOf i).toNat)
 case atStart=>exact ⟨0,Nat.zero_le _,rfl,Ext.refl w,⟨rfl,.inl ⟨rfl,rfl⟩⟩⟩
 case round =>
  obtain ⟨k,hk,rfl,hx,hown⟩:=hrel;have hk7:k<=4:=hk;have hxs:=hx.size;(have hlen:(zCq.take k).length=k:=by rw [List.length_take];exact Nat.min_eq_left hk)
  by_cases hlt:k<4
  . have d1:decide ((k:Int)+1<=4)=true:=decide_eq_true (by omega)
    have HN:=gH (fun w=>zEd ((k:Int)+1) w (by omega) (by omega));have HS:=gH (take_snoc' zCq k _ (zKp hlt));have HO:=gH hown;clear hown;go_wp2_with fail;refine (HN.out _).mono ?_;rintro e w1 ⟨rfl,hx1⟩;have HO1:=gH (HO.out.ext hx1);unfold qAp at HO1;rw [hlen] at HO1;have hx2:=hx.trans hx1;have hxs2:=hx2.size;go_wp2_with (at_builtin;refine qAi rfl (.tmp 7) (.tmp 10) 129 rfl qEu Tryz.underlying129 rfl (by decide) (HO1.out.alloc _) (by exact rfl) w1.heap.size _ (by exact rfl) (by exact Blk.new' rfl) (by exact rfl) (by simp [Value.oneCell']) (by omega) (by unfold maxLen;omega) (by simp;omega) ?_;intro v' w4 hown4 hgr);(have hnum:((k:Int)+1+1)=((k+1:Nat):Int)+1:=by omega);refine ⟨⟨k+1,hlt,by go_num,(hx2.alloc _).grown hgr (fun q hq=>by have:=qBg HO1.out q hq;simpa using this),?_⟩,by simp only [intOf];omega⟩;unfold qAp;rw [HS.out,List.flatMap_append,List.length_append,hlen];exact hown4
  . obtain rfl:k=4:=by omega
    (have hd:decide ((4:Int)+1<=4)=false:=by decide);have HO:=gH hown;clear hown;go_wp2_with fail;go_ret;exact ⟨_,rfl,HO.out,hx⟩
theorem qVw {w:World} {base:Nat} {x y:ByteArray} (hb:base<=w.heap.size):qAp (w.alloc (.cells #[.string x,.string y] 9)) base (.slice (some ⟨w.heap.size,0,none⟩) 2 2) [x,y] :=
 ⟨rfl,.inr ⟨w.heap.size,2,#[.string x,.string y],rfl,hb,Blk.new w _ _,Nat.le_refl _,by simp [maxLen],rfl,rfl⟩⟩
theorem zFf (w:World):Calls Tryz.prog 144 #[] w fun e w'=>∃ v,e = .returned v/\qAp w' w.heap.size v zQm/\Ext w w':=by
 have HO:=gH (qVw (w:=w) (x:=⟨#[68,70]⟩) (y:=⟨#[78,68,70]⟩) (Nat.le_refl _));have HX:=gH ((Ext.refl w).alloc (.cells #[.string ⟨#[68,70]⟩,.string ⟨#[78,68,70]⟩] 9));go_enter Tryz.func144,Tryz.ntmps144;go_wp2_with fail;go_ret;exact ⟨_,rfl,HO.out,HX.out⟩
def wDOC:ByteArray:=⟨#[68,79,67,85,77,69,78,84]⟩
def wREG:ByteArray:=⟨#[82,69,71,73,79,78]⟩
def wEVT:ByteArray:=⟨#[69,86,69,78,84]⟩
def wROW:ByteArray:=⟨#[82,79,87]⟩
def wCOM:ByteArray:=⟨#[67,79,77,77,69,78,84]⟩
theorem zDp (w:World):Calls Tryz.prog 57 #[.string wDOC,.string ⟨#[45]⟩] w fun e w'=>e = .returned (.bool true)/\w=w':=by
 unfold wDOC;go_enter Tryz.func57,Tryz.ntmps57;go_wp2_with fail;go_ret;exact ⟨rfl,rfl⟩
theorem zDq (w:World):Calls Tryz.prog 57 #[.string wEVT,.string wDOC] w fun e w'=>e = .returned (.bool true)/\w=w':=by
 unfold wEVT wDOC;go_enter Tryz.func57,Tryz.ntmps57;go_wp2_with fail;go_ret;exact ⟨rfl,rfl⟩
theorem zDr (w:World):Calls Tryz.prog 57 #[.string wROW,.string wEVT] w fun e w'=>e = .returned (.bool true)/\w=w':=by
 unfold wEVT wROW;go_enter Tryz.func57,Tryz.ntmps57;go_wp2_with fail;go_ret;exact ⟨rfl,rfl⟩
def zLy:List ByteArray:=[wDOC,wREG,wEVT,wROW,wCOM]
theorem qSv (num:Int) (A:Option Addr) (n c:Nat) (fl:List Fd) (f:Fd) (w:World) (hl:qJy w A n fl) (hf:fl[0]?=some f) (hq:f.quoted=false) (hw:Lib.containsS zLy f.text=true) :
 Calls Tryz.prog 56 #[.agg #[.int .i64 num,.slice A n c]] w fun e w'=>e = .returned (.string f.text)/\Ext w w':=by
 (have hn:0<n:=by have:=(List.getElem?_eq_some_iff.1 hf).1;rw [hl.len] at this;exact this);obtain ⟨b,off,f',rfl,hf',hc⟩:=hl.at_ hn;rw [hf] at hf'
 cases hf'
 have c0:=hc 0 _ rfl;have c1:=hc 1 _ rfl;have c2:=hc 2 _ rfl;simp only [Nat.zero_mul,Nat.add_zero] at c0 c1 c2;obtain ⟨tx,col,q⟩:=f;dsimp only at hq hw c0 c1 c2 ⊢;subst hq;have hxa:=(Ext.refl w).alloc (.cells #[.int .i64 num,.slice (some ⟨b,off,none⟩) n c] 119);have k0:=hxa.cell c0;have k1:=hxa.cell c1;have k2:=hxa.cell c2;have HX3:=gH ((hxa.alloc (.cells #[.string tx,.int .i64 col,.bool false] 122)).alloc (.cells #[.string wDOC,.string wREG,.string wEVT,.string wROW,.string wCOM] 9));have HB3:=gH (Blk.new' (w:=((w.alloc (.cells #[.int .i64 num,.slice (some ⟨b,off,none⟩) n c] 119)).alloc (.cells #[.string tx,.int .i64 col,.bool false] 122))) (g:=w.heap.size+1+1) (t:=9) (cs:=#[.string wDOC,.string wREG,.string wEVT,.string wROW,.string wCOM]) (by simp));have HC:=gH (fun w' hc=>Tryz.slices_Contains_string (w.heap.size+1+1) 0 5 5 zLy tx w' (Nat.le_refl _) (by decide) hc);have HW:=gH hw;clear hl hf hc hw hxa;unfold wDOC wREG wEVT wROW wCOM at HX3 HB3;go_enter Tryz.func56,Tryz.ntmps56;go_wp2_with fail;refine (HC.out _ (fun j hj=>?_)).mono ?_
 . rw [Nat.zero_add,HB3.out.cell j]
   have hj':j=0\/j=1\/j=2\/j=3\/j=4:=by
    have:zLy.length=5:=rfl;omega
   rcases hj' with rfl | rfl | rfl | rfl | rfl<;>rfl
 rintro e w1 ⟨rfl,rfl⟩;have hw5:Lib.containsS (zLy.take 5) tx=true:=HW.out;rw [hw5];clear hw5;go_wp2_with fail;go_ret;exact ⟨rfl,HX3.out⟩
end
end Go.Proofs.YtneffpbodfjceaaGreatDoor