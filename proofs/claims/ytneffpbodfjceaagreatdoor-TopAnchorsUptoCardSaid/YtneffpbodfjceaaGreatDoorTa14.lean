/- Texts laid together. -/
import Derived.Lib.RuneBytes
import Derived.Test.YtneffpbodfjceaaGreatDoorTa13
set_option linter.unusedVariables false
set_option linter.unusedSimpArgs false
set_option maxRecDepth 100000
set_option maxHeartbeats 16000000
namespace Go.Proofs.YtneffpbodfjceaaGreatDoor
section
open Go.RowKit
theorem qTu (s:ByteArray) (w:World) (hE:Env w) (hs:s.size<=35184372088831) (hv:vld s=true) :
 Calls Tryz.prog 136 #[.string s] w (qHq s w):=by
 have HV:=gH (qDj s w hE (by omega));rw [hv] at HV;clear hv;go_enter Tryz.func136,Tryz.ntmps136;go_wp2_with fail;refine HV.out.mono ?_;rintro en w0 ⟨rfl,hx0⟩;have HX0:=gH hx0;have h1:=Ext.refl w0;clear HV hx0;go_wp2_with fail
 go_loopw [3] (fun v wr=>qRq s w0 w0.heap.size v wr) (fun _ wr=>s.size-wr.iterPos w0.heap.size)
 case atStart=>exact ⟨0,[],w0.iter_heap s 0,h1.iter s 0,rfl,Nat.le_refl _,⟨rfl,.inl ⟨rfl,rfl⟩⟩⟩
 case round =>
  obtain ⟨pos,l,hk,hx,hp,hle,hown⟩:=hrel;have hpos0:=gH (iterPos_of hk);have HP:=gH hp;clear hp
  by_cases hlt:pos<s.size
  . have hn:=fun ty=>Lib.run_next_any_at (P:=Tryz.prog) wr _ s pos ty hk hlt
    have hstep:=gH (qDf s pos hlt);have hw:=qGy s pos hlt;have hk2:=Lib.iterAt_heap wr _ s pos (pos+(Utf8.decode s pos).2) hk;have hx2:=hx.iterAt (Nat.le_refl _) s (pos+(Utf8.decode s pos).2);have hown2:=qLk hown (k:=w0.heap.size) (by omega) s (pos+(Utf8.decode s pos).2);obtain ⟨W1,hW1⟩:∃ W1,W1=wr.iterAt w0.heap.size s (pos+(Utf8.decode s pos).2):=⟨_,rfl⟩;rw [← hW1] at hn hk2 hx2 hown2;have hlt9:w0.heap.size<W1.heap.size:=(Array.getElem?_eq_some_iff.1 hk2).1;clear hW1 hk hown hx;have HK:=gH hk2;clear hk2;go_wp2_with (at_builtin;refine qAi rfl (.tmp 14) (.tmp 16) 96 rfl qNy Tryz.underlying96 rfl (by decide) (hown2.alloc _) (by exact rfl) W1.heap.size _ (by exact rfl) (by exact Blk.new' rfl) (by exact rfl) (by simp [Value.oneCell']) (by omega) (by simp [maxLen];omega) (by simp;omega) ?_;intro v' w3 hown3 hgr)
    have hk3:w3.heap[w0.heap.size]?=some (.stringIter s (pos+(Utf8.decode s pos).2)):=by
     rw [hgr.block w0.heap.size (by simp;omega) (fun h=>by have:=qBg hown2 _ h.symm;omega),Below.heap_alloc _ _ _ hlt9];exact HK.out
    refine ⟨⟨pos+(Utf8.decode s pos).2,l++[((Utf8.decode s pos).1:Int)],hk3,(hx2.alloc _).grown hgr (fun q hq=>by have:=qBg hown2 q hq;omega),?_,?_,?_⟩,?_⟩
    . rw [HP.out,hstep.out];simp
    . rw [List.length_append,List.length_singleton];omega
    . rw [List.length_append,List.flatMap_append];exact hown3
    . rw [iterPos_of hk3,hpos0.out];omega
  . have hn:=fun ty=>Lib.run_next_end_at (P:=Tryz.prog) wr _ s pos ty hk hlt
    (have hl:qAo s 0=l:=by rw [HP.out,qEe s pos hlt];simp);obtain ⟨A,c,rfl,hc,_,hsl,_⟩:=qBn (f:=fun x:Int=>[Value.int .i32 x]) (size:=1) (fun _=>rfl) rfl hown;have HL:=gH hl;have HX:=gH (HX0.out.trans hx);clear hl hx hown HP;go_wp2_with fail;go_ret;exact ⟨A,l.length,c,rfl,by rw [HL.out];exact hsl,hc,HX.out⟩
end
section
theorem qBl (s:ByteArray):s.data.toList.length=s.size:=by rw [Array.length_toList];rfl
theorem qGh (s:ByteArray) (k:Nat) (h:k<s.size):s.data.toList.drop k=s[k] :: s.data.toList.drop (k+1):=by
 rw [List.drop_eq_getElem_cons (by rw [qBl];exact h)];rfl
def wdB (c:UInt8):Bool:=decide (32<c.toNat) && decide (c.toNat<127) && decide (c.toNat≠34)
def qtB (c:UInt8):Bool:=decide (32<=c.toNat) && decide (c.toNat≠127) && decide (c.toNat≠34) && decide (c.toNat≠92)
structure Fl where
 text:ByteArray
 quoted:Bool
 deriving DecidableEq
def Fl.bytes (f:Fl):List UInt8:=if f.quoted then 34 :: (f.text.data.toList++[34]) else f.text.data.toList
structure Fl.Ok (f:Fl):Prop where
 word:f.quoted=false->f.text.data.toList≠[]/\(f.text.data.toList.all wdB)=true/\f.text.data.toList.head?≠some 35
 quot:f.quoted=true->(f.text.data.toList.all qtB)=true
def qJq (l:List Fl):List UInt8:=l.flatMap fun f=>32 :: f.bytes
def qOd:List Fl->List UInt8
 | []=>[]
 | f :: l=>f.bytes++qJq l
def begF (l:List Fl) (k:Nat):Nat:=((l.take k).map fun f=>f.bytes.length+1).sum
theorem zEm {l:List Fl} {k:Nat} {f:Fl} (h:l[k]?=some f):begF l (k+1)=begF l k+f.bytes.length+1:=by
 have e:l.take (k+1)=l.take k++[f]:=by
  have hk:=(List.getElem?_eq_some_iff.1 h).1;rw [List.take_succ_eq_append_getElem hk,(List.getElem?_eq_some_iff.1 h).2]
 unfold begF;rw [e,List.map_append,List.sum_append];simp;omega
def flV (l:List Fl) (k:Nat) (f:Fl):List Value:=[.string f.text,.int .i64 ((begF l k:Nat)+1),.bool f.quoted]
def flVs (l:List Fl):Nat->List Fl->List Value
 | _,[]=>[]
 | k,f :: r=>flV l k f++flVs l (k+1) r
theorem qNr (l:List Fl):∀ (a b:List Fl) (k:Nat),flVs l k (a++b)=flVs l k a++flVs l (k+a.length) b
 | [],b,k=>by simp [flVs]
 | f :: a,b,k=>by
  rw [List.cons_append,flVs,flVs,qNr l a b (k+1),List.append_assoc,List.length_cons,show k+1+a.length=k+(a.length+1) by omega]
theorem qLn (f:Fl) (l:List Fl):qJq (f :: l)=32 :: (f.bytes++qJq l):=by simp [qJq]
theorem zMt {c:UInt8} (h:wdB c=true):c.toNat≠32/\c.toNat≠34:=by
 unfold wdB at h;simp only [Bool.and_eq_true,decide_eq_true_eq] at h;omega
theorem qQx (l:List Fl):qJq l=[]\/∃ r,qJq l=32 :: r:=by
 cases l with
 | nil=>exact .inl rfl
 | cons f l=>exact .inr ⟨_,qLn f l⟩
end
section
open Go.RowKit
theorem zCp (c:UInt8) (w:World):Calls Tryz.prog 242 #[.int .u8 c.toNat] w fun e w'=>e = .returned (.bool (wdB c))/\w=w':=by
 unfold wdB
 by_cases h1:32<c.toNat
 . have d1:decide (32<c.toNat)=true:=decide_eq_true h1
   by_cases h2:c.toNat<127
   . have d2:decide (c.toNat<127)=true:=decide_eq_true h2
     by_cases h3:c.toNat=34
     . have q1:((c.toNat:Int) == 34)=true:=by rw [h3];rfl
       (have q2:(!((c.toNat:Int) == 34))=false:=by rw [q1];rfl);go_enter Tryz.func242,Tryz.ntmps242;go_wp2_with fail;go_ret;exact ⟨by simp [h3],rfl⟩
     . have q1:((c.toNat:Int) == 34)=false:=beq_eq_false_iff_ne.2 (by omega)
       (have q2:(!((c.toNat:Int) == 34))=true:=by rw [q1];rfl);go_enter Tryz.func242,Tryz.ntmps242;go_wp2_with fail;go_ret;exact ⟨by simp [h1,h2,h3];try omega,rfl⟩
   . have d2:decide (c.toNat<127)=false:=decide_eq_false h2
     go_enter Tryz.func242,Tryz.ntmps242;go_wp2_with fail;go_ret;exact ⟨by simp [h2],rfl⟩
 . have d1:decide (32<c.toNat)=false:=decide_eq_false h1
   go_enter Tryz.func242,Tryz.ntmps242;go_wp2_with fail;go_ret;exact ⟨by simp [h1],rfl⟩
def LwRel (n:Nat) (v:Value):Prop:=∃ k:Nat,k<=n/\v = .int .i64 k
theorem zKs (s:ByteArray) (a r:List UInt8) (w:World) (hs:s.data.toList=a++r) (hsz:s.size<=4294967296) (ha:a.all wdB=true) (hne:a≠[]) (h0:a.head?≠some 35) (hr:r=[]\/∃ q,r=32 :: q) :
 Calls Tryz.prog 210 #[.string s] w fun e w'=>e = .returned (.tuple #[.int .i64 (a.length:Int),.int .i64 (-1)])/\w=w':=by
 have hlen:s.size=a.length+r.length:=by rw [← qBl,hs,List.length_append]
 have hat:∀ (k:Nat) (h:k<a.length),∃ hk:k<s.size,wdB s[k]=true/\(k=0->s[k].toNat≠35):=fun k h=>by
  have hk:k<s.size:=by omega
  have e:s.data.toList[k]?=some s[k]:=by
   have:=qGh s k hk;rw [← List.head?_drop,this];rfl
  rw [hs,List.getElem?_append_left h] at e;refine ⟨hk,List.all_eq_true.1 ha _ (List.mem_of_getElem? e),fun h2=>?_⟩;subst h2;rw [← List.head?_eq_getElem?] at e;rw [e] at h0;intro h3;exact h0 (congrArg some (UInt8.toNat_inj.1 h3))
 have hend:a.length<s.size->∀ h:a.length<s.size,s[a.length].toNat=32:=fun _ h=>by
  have e:s.data.toList.drop a.length=s[a.length] :: s.data.toList.drop (a.length+1):=qGh s _ h;rw [hs,List.drop_left] at e
  rcases hr with hr | ⟨q,hr⟩
  . rw [hr] at e;cases e
  . rw [hr] at e
    injection e with e1;rw [← e1];rfl
 have HAt:=gH hat;have HEnd:=gH hend;have HIw:=gH (fun c w=>zCp c w);(have hal:0<a.length:=by cases a with | nil=>exact absurd rfl hne | cons x a=>simp);obtain ⟨n,hn⟩:∃ n,n=a.length:=⟨_,rfl⟩;rw [← hn] at HAt HEnd hal hlen ⊢;(have hns:n<=s.size:=by omega);clear hn hat hend hr h0 hne ha hs hlen;go_enter Tryz.func210,Tryz.ntmps210;go_wp2_with fail;go_loop [7] (fun v=>LwRel n v) (fun v=>s.size-(intOf v).toNat)
 case atStart=>exact ⟨0,Nat.zero_le _,rfl⟩
 case round =>
  obtain ⟨k,hk,rfl⟩:=hrel
  by_cases hlt:k<n
  . obtain ⟨hks,hwd,h35⟩:=HAt.out k hlt
    have hw2:=zMt hwd;have q1:((s[k].toNat:Int) == 32)=false:=beq_eq_false_iff_ne.2 (by omega);have HW:=gH hwd;have H35:=gH h35;clear hwd h35 hw2
    by_cases hk0:k=0
    . have q2:((s[k].toNat:Int) == 35)=false:=beq_eq_false_iff_ne.2 (by have:=H35.out hk0;omega)
      subst hk0;go_wp2_with fail;refine (HIw.out _ _).mono ?_;rintro e w' ⟨rfl,rfl⟩;rw [HW.out];go_wp2_with fail;exact ⟨⟨1,by omega,by go_num⟩,by simp only [intOf];omega⟩
    . have q2:((k:Int) == 0)=false:=beq_eq_false_iff_ne.2 (by omega)
      go_wp2_with fail;refine (HIw.out _ _).mono ?_;rintro e w' ⟨rfl,rfl⟩;rw [HW.out];go_wp2_with fail;exact ⟨⟨k+1,by omega,by go_num⟩,by simp only [intOf];omega⟩
  . have ek:k=n:=by omega
    subst ek
    by_cases hz:k<s.size
    . have q1:((s[k].toNat:Int) == 32)=true:=by rw [HEnd.out hz hz];rfl
      go_wp2_with fail;go_ret2;exact ⟨rfl,rfl⟩
    . have ez:s.size=k:=by omega
      go_wp2_with fail;go_ret2;exact ⟨rfl,rfl⟩
theorem qGl:(Tryz.prog.info? 5).map (fun i=>(i.zero,i.size,i.bytes))=some (some (.int .u8 0),1,1):=by kernel_rfl
theorem qKf {wr:World} {base:Nat} {v:Value} {t:List UInt8} (h:wr.ownsRow base 5 1 v t.length (t.flatMap fun c=>[Value.int .u8 (c.toNat:Int)])) :
 ∃ A c,v = .slice A t.length c/\(convert 176 9 (.slice A t.length c)).run Tryz.prog wr = .ok (.string ⟨t.toArray⟩) wr:=by
 obtain ⟨A,c,rfl,hc,_,hsl,_⟩:=qBn (f:=fun c:UInt8=>[Value.int .u8 (c.toNat:Int)]) (size:=1) (fun _=>rfl) rfl h;refine ⟨A,c,rfl,?_⟩
 cases t with
 | nil =>
  cases A with
  | none=>exact run_convert_bytes_nil wr 176 5 Tryz.underlying176 Tryz.underlying5 0 c 9 Tryz.underlying9
  | some a=>exact run_convert_bytes_back wr 176 9 5 a c [] Tryz.underlying176 Tryz.underlying5 Tryz.underlying9 (fun j hj=>absurd hj (Nat.not_lt_zero _))
 | cons x t =>
  obtain ⟨b,off,rfl,hcs⟩:=hsl.2 (Nat.succ_pos _);exact run_convert_bytes_back wr 176 9 5 ⟨b,off,none⟩ c (x :: t) Tryz.underlying176 Tryz.underlying5 Tryz.underlying9 (fun j hj=>by have:=hcs j _ (List.getElem?_eq_getElem hj) 0 _ rfl;simp only [Nat.mul_one,Nat.add_zero] at this;simpa [Addr.add_mid] using this)
theorem zMm {t:List UInt8} {j:Nat} (h:j=t.length+1):Ending.returned (.tuple #[.string ⟨t.toArray⟩,.int .i64 ((j:Int)+1),.int .i64 (-1)])=Ending.returned (.tuple #[.string ⟨t.toArray⟩,.int .i64 ((t.length:Int)+2),.int .i64 (-1)]):=by
 rw [show (j:Int)+1=(t.length:Int)+2 by omega]
def LqRel (w:World) (t:List UInt8) (v i:Value) (wr:World):Prop:=∃ k j:Nat,k<=t.length/\Hid (j=k+1)/\i = .int .i64 (j:Int)/\Ext w wr/\wr.ownsRow w.heap.size 5 1 v k ((t.take k).flatMap fun c=>[Value.int .u8 (c.toNat:Int)])
theorem zCt (s:ByteArray) (t r:List UInt8) (w:World) (hs:s.data.toList=34 :: (t++34 :: r)) (hsz:s.size<=4294967296) (ht:t.all qtB=true) (hr:r=[]\/∃ q,r=32 :: q) :
 Calls Tryz.prog 209 #[.string s] w fun e w'=>e = .returned (.tuple #[.string ⟨t.toArray⟩,.int .i64 ((t.length:Int)+2),.int .i64 (-1)])/\Ext w w':=by
 have hlen:s.size=t.length+r.length+2:=by rw [← qBl,hs];simp;omega
 have hel:∀ (j:Nat) (h:j<s.size),(34 :: (t++34 :: r))[j]?=some s[j]:=fun j h=>by
  rw [← hs,← List.head?_drop,qGh s j h];rfl
 have hat:∀ (k:Nat) (h:k<t.length),∃ hk:k+1<s.size,t[k]?=some s[k+1]/\qtB s[k+1]=true:=fun k h=>by
  (have hk:k+1<s.size:=by omega);have e:=hel (k+1) hk;rw [List.getElem?_cons_succ,List.getElem?_append_left h] at e;exact ⟨hk,e,List.all_eq_true.1 ht _ (List.mem_of_getElem? e)⟩
 have hq:∀ h:t.length+1<s.size,s[t.length+1].toNat=34:=fun h=>by
  have e:=hel (t.length+1) h;rw [List.getElem?_cons_succ,List.getElem?_append_right (Nat.le_refl _),Nat.sub_self] at e;injection e with e;rw [← e];rfl
 have hb:∀ h:t.length+1+1<s.size,s[t.length+1+1].toNat=32:=fun h=>by
  have e:=hel (t.length+1+1) h;rw [List.getElem?_cons_succ,List.getElem?_append_right (by omega),show t.length+1-t.length=0+1 by omega,List.getElem?_cons_succ] at e
  rcases hr with hr | ⟨q,hr⟩
  . rw [hr] at e;cases e
  . rw [hr] at e
    injection e with e;rw [← e];rfl
 have HAt:=gH hat;have HQ:=gH hq;have HB:=gH hb;(have hle:t.length+2<=s.size:=by omega);clear hel hat hq hb hs ht hr hlen;go_enter Tryz.func209,Tryz.ntmps209;go_wp2_with fail
 go_loopw [5,6] (fun v i wr=>LqRel w t v i wr) (fun _ i _=>s.size-(intOf i).toNat)
 case atStart=>exact ⟨0,1,Nat.zero_le _,gH rfl,rfl,Ext.refl w,⟨rfl,.inl ⟨rfl,rfl⟩⟩⟩
 case round =>
  obtain ⟨k,j,hk,HJ,rfl,hx,hown⟩:=hrel;have hxs:=hx.size
  by_cases hlt:k<t.length
  . obtain ⟨hjs,htk,hqt⟩:∃ hk:j<s.size,t[k]?=some s[j]/\qtB s[j]=true:=by have:=HAt.out k hlt;rw [← HJ.out] at this;exact this
    have HT:Hid (t.take (k+1)=t.take k++[s[j]]):=gH (take_snoc' t k _ htk)
    have hf:32<=s[j].toNat/\s[j].toNat≠127/\s[j].toNat≠34/\s[j].toNat≠92:=by
     unfold qtB at hqt;simp only [Bool.and_eq_true,decide_eq_true_eq] at hqt;exact ⟨hqt.1.1.1,hqt.1.1.2,hqt.1.2,hqt.2⟩
    have q1:((s[j].toNat:Int) == 34)=false:=beq_eq_false_iff_ne.2 (by omega);have q2:((s[j].toNat:Int) == 92)=false:=beq_eq_false_iff_ne.2 (by omega);have q3:((s[j].toNat:Int) == 127)=false:=beq_eq_false_iff_ne.2 (by omega);have q4:decide (s[j].toNat<32)=false:=decide_eq_false (by omega);(have q5:¬ (s[j].toNat:Int)<32:=by omega);(have q6:32<=s[j].toNat:=by omega);clear hf htk hqt;go_wp2_with (at_builtin;refine qAi rfl (.tmp 17) (.tmp 19) 176 rfl qGl Tryz.underlying176 rfl (by decide) (hown.alloc _) (by exact rfl) wr.heap.size _ (by exact rfl) (by exact Blk.new' rfl) (by exact rfl) (by simp [Value.oneCell']) (by omega) (by unfold maxLen;omega) (by simp;omega) ?_;intro v' w3 hown3 hgr);refine ⟨⟨k+1,j+1,by omega,gH (by have:=HJ.out;omega),by go_num,(hx.alloc _).grown hgr (fun q hq=>by have:=qBg hown q hq;simpa using this),?_⟩,by simp [intOf];omega⟩;rw [HT.out,List.flatMap_append];exact hown3
  . obtain rfl:k=t.length:=by omega
    rw [List.take_length] at hown;obtain ⟨A,c,rfl,hcv⟩:=qKf hown;(have hjs:j<s.size:=by have:=HJ.out;omega)
    have q1:((s[j].toNat:Int) == 34)=true:=by
     have:=HQ.out;rw [← HJ.out] at this;rw [this hjs];rfl
    have HJ2:=gH HJ.out
    by_cases hz:j+1<s.size
    . have q2:((s[j+1].toNat:Int) != 32)=false:=by
       have:=HB.out;rw [← HJ.out] at this;rw [this hz];rfl
      go_wp2_with fail;go_ret3;exact ⟨zMm HJ.out,hx⟩
    . go_wp2_with fail
      go_ret3;exact ⟨zMm HJ.out,hx⟩
end
section
end
section
theorem qQr {r:Int}:∀ {l:List Int} {k:Nat},0<=qJd r l k->r∈l
 | [],k,h=>by simp [qJd] at h
 | a :: l,k,h=>by
  unfold qJd at h
  split at h
  . rename_i e;simp [e]
  . exact List.mem_cons_of_mem _ (qQr h)
theorem zEj:∀ r∈qAo qMm 0,0<=r/\r<=65535:=by decide +kernel
theorem zGl {r:Int} (h:0<=idx r):0<=r/\r<=65535:=by
 unfold idx at h
 split at h
 . omega
 . exact zEj r (qQr h)
end
section
open Go.RowKit
theorem qPe (l:List UInt8):(l.flatMap fun c=>[Value.int .u8 (c.toNat:Int)])=Lib.byteCells l:=by
 induction l with
 | nil=>rfl
 | cons a l ih=>rw [List.flatMap_cons,ih];rfl
theorem zFk (l:List Int) (r:Int):encL (l++[r])=encL l++(Utf8.encode r).data.toList:=by simp [encL]
theorem qQm {r:Int} (h:qUc r):Lib.byteCells (Utf8.encode r).data.toList=Lib.runeCells r:=by rw [h.2.2,Lib.byteCells_encodeRune]
theorem zFj (l:List Int):(encL l).length<=4*l.length:=by
 rw [qMq];unfold sz
 induction l with
 | nil=>simp
 | cons r l ih =>
  rw [List.map_cons,List.sum_cons,List.length_cons]
  have:esz r<=4:=by
   unfold esz Utf8.encode;dsimp only
   repeat' split
   all_goals first | exact Nat.le_of_ble_eq_true rfl | decide
  omega
def OfRel (w:World) (l:List Int) (n:Nat) (v i:Value) (wr:World):Prop :=
 ∃ k:Nat,k<=n/\i = .int .i64 k/\Ext w wr/\wr.ownsRow w.heap.size 5 1 v (encL (l.take k)).length (Lib.byteCells (encL (l.take k)))
theorem zEe (A:Option Addr) (n c:Nat) (l:List Int) (w:World) (hl:qCp w A n l) (hg:∀ r∈l,0<=idx r/\qUc r) (hn:n<=1000000) :
 Calls Tryz.prog 207 #[.slice A n c] w fun e w'=>e = .returned (.string ⟨(encL l).toArray⟩)/\Ext w w':=by
 have HL:=gH hl;have HG:=gH hg;have HN:=gH hl.len;clear hl hg;go_enter Tryz.func207,Tryz.ntmps207;go_wp2_with fail
 go_loopw [3,8] (fun v i wr=>OfRel w l n v i wr) (fun _ i _=>n-(intOf i).toNat)
 case atStart=>exact ⟨0,Nat.zero_le _,rfl,Ext.refl w,⟨rfl,.inl ⟨rfl,rfl⟩⟩⟩
 case round =>
  obtain ⟨k,hk,rfl,hx,hown⟩:=hrel;have HX:=gH hx;have HO:=gH hown;have hsz:=hx.size;clear hown hx
  by_cases hlt:k<n
  . obtain ⟨b,off,x,rfl,hxk,hcl⟩:=(HL.out.ext HX.out).at_ hlt
    have hc0:=hcl 0 _ rfl;simp only [Nat.mul_one,Nat.add_zero] at hc0;obtain ⟨hi0,hgx⟩:=HG.out x (List.mem_of_getElem? hxk);have hxr:=zGl hi0;have q1:decide (idx x<0)=false:=decide_eq_false (by omega);have HT:Hid (l.take (k+1)=l.take k++[x]):=gH (take_snoc' l k _ hxk);have HGx:=gH hgx;have h4:=zFj (l.take k);rw [List.length_take] at h4;clear hxk hcl hgx hi0;go_wp2_with fail;refine (qUd x _).mono ?_;rintro e w2 ⟨rfl,hx2⟩;have HX2:=gH (HX.out.trans hx2);have HO2:=gH (qAh HO.out hx2);have hsz2:=HX2.out.size;clear hx2 HX HO hsz;go_wp2_with fail;refine (Tryz.utf8_AppendRune_plain w.heap.size _ _ _ x (by omega) (by omega) w2 HO2.out (by omega) hsz2).mono ?_;rintro e w3 ⟨v',rfl,hown',o,hgrow⟩;have hx3:=(HX2.out.alloc o).grown hgrow (fun q hq=>qBg HO2.out q hq);go_wp2_with fail;refine ⟨⟨k+1,by omega,by go_num,hx3,?_⟩,by simp only [intOf];omega⟩;rw [HT.out,zFk,List.length_append,Lib.byteCells_append,qQm HGx.out,← Lib.byteCells_length (Utf8.encode x).data.toList,qQm HGx.out];exact hown'
  . obtain rfl:k=n:=by omega
    have ho:=HO.out;rw [List.take_of_length_le (by rw [HN.out];exact Nat.le_refl _)] at ho;rw [← qPe] at ho;obtain ⟨A',c',rfl,hcv⟩:=qKf ho;clear HO ho;go_wp2_with fail;go_ret;exact ⟨rfl,HX.out⟩
theorem qSt (n i j:Int) (w:World):Calls Tryz.prog 50 #[.int .i64 n,.int .i64 i,.int .i64 j] w fun e w'=>e = .returned (.tuple #[.int .i64 (min (max i 0) n),.int .i64 (min (max j (min (max i 0) n)) n)])/\w'=w:=by
 go_enter Tryz.func50,Tryz.ntmps50;go_wp2_with fail;go_ret2;exact ⟨rfl,rfl⟩
theorem zDg {w:World} {b off n:Nat} {l:List Int} (h:qCp w (some ⟨b,off,none⟩) n l) {f t:Nat} (hft:f<=t) (ht:t<=n):qCp w (some ⟨b,off+f,none⟩) (t-f) ((l.take t).drop f):=by
 refine ⟨by rw [List.length_drop,List.length_take,h.len];omega,fun h0=>⟨b,off+f,rfl,fun i x hx=>?_⟩⟩;obtain ⟨b',off',hA,hc⟩:=h.2 (by omega)
 cases hA
 rw [List.getElem?_drop,List.getElem?_take] at hx
 split at hx
 . have:=hc (f+i) x hx
   rwa [show off+f+i*1=off+(f+i)*1 by omega]
 . cases hx
theorem zAz (s:ByteArray) (f t:Nat) (w:World) (hE:Env w) (hs:s.size<=4294967296) (hv:vld s=true) (hft:f<=t) (ht:t<=(qAo s 0).length) (hn:(qAo s 0).length<=1000000) :
 Calls Tryz.prog 139 #[.string s,.int .i64 f,.int .i64 t] w fun e w'=>e = .returned (.string (csl s f t))/\Ext w w':=by
 have HCh:=gH (qTu s w hE (by omega) hv);have HG:=gH (fun r (hr:r∈qAo s 0)=>And.intro (qTn hv r hr) (zAu hv r hr));clear hE hs hv;go_enter Tryz.func139,Tryz.ntmps139;go_wp2_with fail;refine HCh.out.mono ?_;rintro e w1 ⟨A,n,c,rfl,hr,hnc,hx1⟩;have hl:(qAo s 0).length=n:=hr.len;rw [hl] at ht hn;have HL:=gH hl;have HR:=gH hr;have HX:=gH hx1;clear hl hr hx1 HCh;(have m1:max (f:Int) 0=f:=by omega);(have m2:min (f:Int) n=f:=by omega);(have m3:max (t:Int) f=t:=by omega);(have m4:min (t:Int) n=t:=by omega)
 by_cases h0:n=0
 . obtain rfl:n=0:=h0
   (obtain rfl:t=0:=by omega);(obtain rfl:f=0:=by omega);have hnil:qAo s 0=[]:=List.eq_nil_of_length_eq_zero HL.out;have HN:=gH hnil;clear hnil;go_wp2_with fail;refine (zEe A 0 _ [] w1 ⟨rfl,fun h=>absurd h (Nat.lt_irrefl 0)⟩ (fun r hr=>by cases hr) (by omega)).mono ?_;rintro e w2 ⟨rfl,hx2⟩;have HX2:=gH (HX.out.trans hx2);clear hx2;go_wp2_with fail;go_ret;exact ⟨by unfold csl;rw [HN.out];rfl,HX2.out⟩
 . obtain ⟨b,off,rfl,-⟩:=HR.out.2 (by omega)
   have HP:=gH (zDg HR.out hft ht);have HGp:=gH (fun r (hr:r∈((qAo s 0).take t).drop f)=>HG.out r (List.mem_of_mem_take (List.mem_of_mem_drop hr)));(have hcap:t<=c:=by omega)
   by_cases hcf:c=f
   . have ht0:t=f:=by omega
     subst ht0;subst hcf;(have q0:c-c=0:=by omega);go_wp2_with fail;refine (zEe _ 0 _ [] w1 ⟨rfl,fun h=>absurd h (Nat.lt_irrefl 0)⟩ (fun r hr=>by cases hr) (by omega)).mono ?_;rintro e w2 ⟨rfl,hx2⟩;have HX2:=gH (HX.out.trans hx2);clear hx2;go_wp2_with fail;go_ret;exact ⟨by unfold csl;rw [List.drop_eq_nil_of_le (by rw [List.length_take];omega)];rfl,HX2.out⟩
   . go_wp2_with fail
     refine (zEe _ _ _ _ w1 HP.out HGp.out (by omega)).mono ?_;rintro e w2 ⟨rfl,hx2⟩;have HX2:=gH (HX.out.trans hx2);clear hx2;go_wp2_with fail;go_ret;exact ⟨rfl,HX2.out⟩
theorem qJn:(Tryz.prog.info? 122).map (fun i=>(i.zero,i.size,i.bytes))=some (some (.agg #[.string ⟨#[]⟩,.int .i64 0,.bool false]),3,32):=by kernel_rfl
theorem Fl.Ok.ne {f:Fl} (h:f.Ok):∃ c r,f.bytes=c :: r/\c.toNat≠32/\c.toNat≠35/\(f.quoted=false->c.toNat≠34)/\(f.quoted=true->c.toNat=34):=by
 unfold Fl.bytes
 cases hq:f.quoted with
 | true=>exact ⟨34,_,if_pos rfl,by decide,by decide,fun h0=>Bool.noConfusion h0,fun _=>rfl⟩
 | false =>
  obtain ⟨h1,h2,h3⟩:=h.word hq;rw [if_neg Bool.false_ne_true]
  cases hm:f.text.data.toList with
  | nil=>exact absurd hm h1
  | cons c r =>
   rw [hm] at h2 h3;have hw:=zMt (c:=c) (List.all_eq_true.1 h2 c (by simp));refine ⟨c,r,rfl,hw.1,fun e=>h3 ?_,fun _=>hw.2,fun h0=>Bool.noConfusion h0⟩;simp only [List.head?_cons];exact congrArg some (UInt8.toNat_inj.1 e)
theorem qJv:(Tryz.prog.info? 122).map (·.size)=some 3:=by kernel_rfl
theorem qGm {w:World} {base g:Nat} {e t:TypeId} {size:Nat} {v:Value} {n:Nat} {xs:List Value} {cs:Array Value} (h:w.ownsRow base e size v n xs) (hne:v.ownBlock≠some g):(putB w g t cs).ownsRow base e size v n xs:=by
 refine ⟨h.1,?_⟩
 rcases h.2 with hn | ⟨b,cap,cur,rfl,hb,hg,rest⟩
 . exact .inl hn
 . have hbg:g≠b:=fun e=>hne (by subst e;rfl)
   refine .inr ⟨b,cap,cur,rfl,hb,?_,rest⟩;unfold putB;simp only;rw [Array.getElem?_setIfInBounds_ne hbg];exact hg
theorem qLl {w:World} {base:Nat} {e:TypeId} {size:Nat} {v:Value} {n:Nat} {xs:List Value} (h:w.ownsRow base e size v n xs):v.ownBlock≠some w.heap.size:=fun hb=>by
 have:=(qAt h _ hb).lt;omega
theorem zNq {s t:ByteArray} {q:Nat} {r:List UInt8} (h:s.data.toList.drop q=t.data.toList++r):s.extract q (q+t.data.toList.length)=t:=by
 apply ByteArray.ext;apply Array.ext';rw [ByteArray.data_extract,Array.toList_extract];simp only [List.extract_eq_take_drop];rw [Nat.add_sub_cancel_left,h,List.take_left]
def AtF (s:ByteArray) (l:List Fl) (k q:Nat):Prop :=
 s.data.toList.drop q=qOd (l.drop k)/\(k<l.length->q=begF l k)\/s.data.toList.drop q=qJq (l.drop k)/\(k<l.length->q+1=begF l k)
def LfRel (w:World) (s:ByteArray) (l:List Fl) (v i:Value) (wr:World):Prop:=∃ k q:Nat,k<=l.length/\Hid (AtF s l k q)/\q<=s.size/\i = .int .i64 (q:Int)/\Ext w wr/\wr.ownsRow w.heap.size 122 3 v k (flVs l 0 (l.take k))
theorem zNt (s:ByteArray) (q:Nat):(s.extract q s.size).data.toList=s.data.toList.drop q:=by
 rw [ByteArray.data_extract,Array.toList_extract];simp only [List.extract_eq_take_drop];rw [List.take_of_length_le];rw [List.length_drop,qBl];omega
theorem qFg {l:List Fl} {k:Nat} {f:Fl} (h:l[k]?=some f):qOd (l.drop k)=f.bytes++qJq (l.drop (k+1)):=by rw [qDh l k f h];rfl
theorem qQw {l:List Fl} {k:Nat} {f:Fl} (h:l[k]?=some f):qJq (l.drop k)=32 :: qOd (l.drop k):=by rw [qFg h,qDh l k f h,qLn]
theorem AtF.next {s:ByteArray} {l:List Fl} {k q:Nat} {f:Fl} (h:q=begF l k) (h2:s.data.toList.drop q=qOd (l.drop k)) (hf:l[k]?=some f):AtF s l (k+1) (q+f.bytes.length) :=
 .inr ⟨by rw [← List.drop_drop,h2,qFg hf,List.drop_left],fun _=>by rw [zEm hf,h]⟩
theorem AtF.room {s:ByteArray} {l:List Fl} {k q:Nat} {f:Fl} (h2:s.data.toList.drop q=qOd (l.drop k)) (hf:l[k]?=some f) (hq:q<=s.size):q+f.bytes.length<=s.size:=by
 have hlen:=congrArg List.length h2;rw [List.length_drop,qBl,qFg hf,List.length_append] at hlen;omega
theorem AtF.fin {s:ByteArray} {l:List Fl} {q:Nat} (h:AtF s l l.length q) (hq:q<=s.size):q=s.size:=by
 have h0:s.data.toList.drop q=[]:=by
  rcases h with ⟨h,-⟩ | ⟨h,-⟩
  . rw [h,List.drop_length];rfl
  . rw [h,List.drop_length];rfl
 have:=congrArg List.length h0;rw [List.length_drop,qBl] at this;simp at this;omega
theorem zEn {s:ByteArray} {q:Nat} {c:UInt8} {r:List UInt8} (h:s.data.toList.drop q=c :: r):∃ hq:q<s.size,s[q]=c:=by
 have hq:q<s.size:=by
  have:=congrArg List.length h;rw [List.length_drop,qBl,List.length_cons] at this;omega
 refine ⟨hq,?_⟩;rw [qGh s q hq] at h;injection h
theorem zFw {l:List Fl} {k:Nat} {f:Fl} (h:l[k]?=some f):flVs l 0 (l.take (k+1))=flVs l 0 (l.take k)++flV l k f:=by
 have hk:=(List.getElem?_eq_some_iff.1 h).1;rw [take_snoc' l k f h,qNr,List.length_take,Nat.min_eq_left (Nat.le_of_lt hk),Nat.zero_add];simp [flVs]
theorem zCr (s:ByteArray) (l:List Fl) (w:World) (hs:s.data.toList=qOd l) (hsz:s.size<=4294967296) (hok:∀ f∈l,f.Ok) :
 Calls Tryz.prog 141 #[.string s] w fun e w'=>∃ v,e = .returned (.tuple #[v,.int .i64 0])/\w'.ownsRow w.heap.size 122 3 v l.length (flVs l 0 l)/\Ext w w':=by
 have HOk:=gH hok;have HAt0:Hid (AtF s l 0 0):=gH (.inl ⟨by simpa using hs,fun _=>by simp [begF]⟩)
 have hfew:l.length<=s.size:=by
  rw [← qBl,hs];clear hs hsz HAt0 HOk
  have hr:∀ l:List Fl,l.length<=(qJq l).length:=fun l=>by
   induction l with
   | nil=>simp
   | cons f l ih=>rw [qLn];simp;omega
  cases l with
  | nil=>simp
  | cons f l =>
   obtain ⟨c,r,hb,-⟩:=(hok f (by simp)).ne;have:=hr l;simp only [qOd,List.length_append,List.length_cons,hb];omega
 clear hs hok;go_enter Tryz.func141,Tryz.ntmps141;go_wp2_with fail
 go_loopw [4,5] (fun v i wr=>LfRel w s l v i wr) (fun _ i _=>s.size-(intOf i).toNat)
 case atStart=>exact ⟨0,0,Nat.zero_le _,HAt0,Nat.zero_le _,rfl,Ext.refl w,⟨rfl,.inl ⟨rfl,rfl⟩⟩⟩
 case round =>
  obtain ⟨k,q,hk,HA,hq,rfl,hx,hown⟩:=hrel;have hxs:=hx.size
  by_cases hlt:k<l.length
  . obtain ⟨f,hf⟩:∃ f,l[k]?=some f:=⟨_,List.getElem?_eq_getElem hlt⟩
    have HF:=gH hf
    rcases HA.out with ⟨hd,hb⟩ | ⟨hd,hb⟩
    . have hb':=hb hlt
      obtain ⟨c,r,hcr,c1,c2,c3,c4⟩:=(HOk.out f (List.mem_of_getElem? hf)).ne;obtain ⟨hqs,hqc⟩:=zEn (c:=c) (r:=r++qJq (l.drop (k+1))) (by rw [hd,qFg hf,hcr];rfl);have hroom:=AtF.room hd hf hq;(have hpos:0<f.bytes.length:=by rw [hcr];simp);have HNx:=gH (AtF.next hb' hd hf);have q1:((s[q].toNat:Int) == 32)=false:=beq_eq_false_iff_ne.2 (by rw [hqc];omega);have q2:((s[q].toNat:Int) == 35)=false:=beq_eq_false_iff_ne.2 (by rw [hqc];omega);(have hex:(s.extract q s.size).data.toList=f.bytes++qJq (l.drop (k+1)):=by rw [zNt,hd,qFg hf]);(have hez:(s.extract q s.size).size<=4294967296:=by rw [ByteArray.size_extract];omega);have HVs:=gH (zFw hf);have HB:=gH hb';obtain ⟨text,quoted⟩:=f
      cases quoted with
      | true =>
       (have q3:((s[q].toNat:Int) == 34)=true:=by rw [hqc,c4 rfl];rfl);have HQ:=gH (fun w=>zCt (s.extract q s.size) text.data.toList (qJq (l.drop (k+1))) w (by rw [hex];simp [Fl.bytes]) hez ((HOk.out _ (List.mem_of_getElem? hf)).quot rfl) (qQx _));have HFv:Hid (flV l k ⟨text,true⟩=[.string text,.int .i64 ((q:Int)+1),.bool true]):=gH (by unfold flV;rw [hb']);(have hbl:(⟨text,true⟩:Fl).bytes.length=text.data.toList.length+2:=by simp [Fl.bytes]);rw [hbl] at hroom HNx;(have et:(⟨text.data.toList.toArray⟩:ByteArray)=text:=by simp);rw [et] at HQ;obtain ⟨m,hm⟩:∃ m,m=text.data.toList.length:=⟨_,rfl⟩;rw [← hm] at HQ hroom HNx;clear hm et hbl hex hez hd hb hb' hcr c1 c2 c3 c4 hqc hf HOk hpos;have hxa:=hx.alloc (.cells #[.string ⟨#[]⟩,.int .i64 ((q:Int)+1),.bool true] 122);have HBa:=gH (Blk.new wr 122 #[.string ⟨#[]⟩,.int .i64 ((q:Int)+1),.bool true]);have HOa:=gH (qAh hown ((Ext.refl wr).alloc (.cells #[.string ⟨#[]⟩,.int .i64 ((q:Int)+1),.bool true] 122)));have HXa:=gH hxa;have HNb:=gH (qLl hown);clear hxa hx hown;go_wp2_with fail;refine (HQ.out _).mono ?_;rintro e w2 ⟨rfl,hx2⟩;have HB2:=gH (HBa.out.ext hx2);have HO2:=gH (qAh HOa.out hx2);have HX2:=gH (HXa.out.trans hx2);have hgl:=HB2.out.lt;(have hc:=fun o=>HB2.out.cell o);(have hfz:=fun o=>HB2.out.frozen o)
       have hst:w2.setCell ⟨wr.heap.size,0,none⟩ (.string text)=putB w2 wr.heap.size 122 #[.string text,.int .i64 ((q:Int)+1),.bool true]:=qAd HB2.out 0 (.string text);have HB3:Hid (Blk (putB w2 wr.heap.size 122 #[.string text,.int .i64 ((q:Int)+1),.bool true]) wr.heap.size 122 #[.string text,.int .i64 ((q:Int)+1),.bool true]):=gH (HB2.out.put _);have HX3:=gH (HX2.out.put hxs 122 #[.string text,.int .i64 ((q:Int)+1),.bool true]);clear hx2 HBa HOa HXa;have HO3:=gH (qGm (g:=wr.heap.size) (t:=122) (cs:=#[.string text,.int .i64 ((q:Int)+1),.bool true]) HO2.out HNb.out);obtain ⟨W3,hW3⟩:∃ W3,W3=putB w2 wr.heap.size 122 #[.string text,.int .i64 ((q:Int)+1),.bool true]:=⟨_,rfl⟩;rw [← hW3] at hst HB3 HX3 HO3;clear hW3 HO2;have hsz3:=HX3.out.size;go_wp2_with (first | (refine qAa rfl 122 (.tmp 6) rfl wr.heap.size 122 _ _ (by exact rfl) (by exact HB3.out) Tryz.underlying122 rfl (by exact qJv) ?_) | (at_builtin;refine qAi rfl (.tmp 60) (.tmp 62) 117 rfl qJn Tryz.underlying117 rfl (by decide) (qAh HO3.out ((Ext.refl _).alloc _)) (by exact rfl) W3.heap.size _ (by exact rfl) (by exact Blk.new' rfl) (by exact rfl) (by simp [Value.oneCell']) (by omega) (by unfold maxLen;omega) (by simp;omega) ?_;intro v' w4 hown4 hgr))
       refine ⟨⟨k+1,q+(m+2),by omega,HNx,hroom,by go_num,(HX3.out.alloc _).grown hgr (fun b hb=>by have:=qBg HO3.out b hb;simpa using this),?_⟩,by simp only [intOf];omega⟩;rw [HVs.out,HFv.out];exact hown4
      | false =>
       have q3:((s[q].toNat:Int) == 34)=false:=beq_eq_false_iff_ne.2 (by rw [hqc];have:=c3 rfl;omega);obtain ⟨w1,w2,w3⟩:=(HOk.out _ (List.mem_of_getElem? hf)).word rfl;have HQ:=gH (fun w=>zKs (s.extract q s.size) text.data.toList (qJq (l.drop (k+1))) w (by rw [hex];simp [Fl.bytes]) hez w2 w1 w3 (qQx _));have HFv:Hid (flV l k ⟨text,false⟩=[.string text,.int .i64 ((q:Int)+1),.bool false]):=gH (by unfold flV;rw [hb']);(have hbl:(⟨text,false⟩:Fl).bytes.length=text.data.toList.length:=by simp [Fl.bytes]);rw [hbl] at hroom HNx hpos;have HEx:Hid (s.extract q (q+text.data.toList.length)=text):=gH (zNq (r:=qJq (l.drop (k+1))) (by rw [hd,qFg hf];simp [Fl.bytes]));obtain ⟨m,hm⟩:∃ m,m=text.data.toList.length:=⟨_,rfl⟩;rw [← hm] at HQ hroom HNx HEx hpos;clear hm hbl hex hez hd hb hb' hcr c1 c2 c3 c4 hqc hf HOk w1 w2 w3;have hxa:=hx.alloc (.cells #[.string ⟨#[]⟩,.int .i64 ((q:Int)+1),.bool false] 122);have HBa:=gH (Blk.new wr 122 #[.string ⟨#[]⟩,.int .i64 ((q:Int)+1),.bool false]);have HOa:=gH (qAh hown ((Ext.refl wr).alloc (.cells #[.string ⟨#[]⟩,.int .i64 ((q:Int)+1),.bool false] 122)));have HXa:=gH hxa;have HNb:=gH (qLl hown);clear hxa hx hown;go_wp2_with fail;refine (HQ.out _).mono ?_;rintro e w2 ⟨rfl,hw2⟩;have hx2:Ext (wr.alloc (.cells #[.string ⟨#[]⟩,.int .i64 ((q:Int)+1),.bool false] 122)) w2:=hw2 ▸ Ext.refl _;clear hw2;have HB2:=gH (HBa.out.ext hx2)
       have HO2:=gH (qAh HOa.out hx2);have HX2:=gH (HXa.out.trans hx2);have hgl:=HB2.out.lt;(have hc:=fun o=>HB2.out.cell o);(have hfz:=fun o=>HB2.out.frozen o);(have hst:w2.setCell ⟨wr.heap.size,0,none⟩ (.string (s.extract q (q+m)))=putB w2 wr.heap.size 122 #[.string text,.int .i64 ((q:Int)+1),.bool false]:=by rw [HEx.out];exact qAd HB2.out 0 (.string text));have HB3:Hid (Blk (putB w2 wr.heap.size 122 #[.string text,.int .i64 ((q:Int)+1),.bool false]) wr.heap.size 122 #[.string text,.int .i64 ((q:Int)+1),.bool false]):=gH (HB2.out.put _);have HX3:=gH (HX2.out.put hxs 122 #[.string text,.int .i64 ((q:Int)+1),.bool false]);clear hx2 HBa HOa HXa;have HO3:=gH (qGm (g:=wr.heap.size) (t:=122) (cs:=#[.string text,.int .i64 ((q:Int)+1),.bool false]) HO2.out HNb.out);obtain ⟨W3,hW3⟩:∃ W3,W3=putB w2 wr.heap.size 122 #[.string text,.int .i64 ((q:Int)+1),.bool false]:=⟨_,rfl⟩;rw [← hW3] at hst HB3 HX3 HO3;clear hW3 HO2;have hsz3:=HX3.out.size
       go_wp2_with (first | (refine qAa rfl 122 (.tmp 6) rfl wr.heap.size 122 _ _ (by exact rfl) (by exact HB3.out) Tryz.underlying122 rfl (by exact qJv) ?_) | (at_builtin;refine qAi rfl (.tmp 60) (.tmp 62) 117 rfl qJn Tryz.underlying117 rfl (by decide) (qAh HO3.out ((Ext.refl _).alloc _)) (by exact rfl) W3.heap.size _ (by exact rfl) (by exact Blk.new' rfl) (by exact rfl) (by simp [Value.oneCell']) (by omega) (by unfold maxLen;omega) (by simp;omega) ?_;intro v' w4 hown4 hgr));refine ⟨⟨k+1,q+m,by omega,HNx,hroom,by go_num,(HX3.out.alloc _).grown hgr (fun b hb=>by have:=qBg HO3.out b hb;simpa using this),?_⟩,by simp only [intOf];omega⟩;rw [HVs.out,HFv.out];exact hown4
    . have hb':=hb hlt
      obtain ⟨hqs,hqc⟩:=zEn (c:=32) (r:=qOd (l.drop k)) (by rw [hd,qQw hf]);(have q1:((s[q].toNat:Int) == 32)=true:=by rw [hqc];rfl);have HNx:Hid (AtF s l k (q+1)):=gH (.inl ⟨by rw [← List.drop_drop,hd,qQw hf];rfl,fun _=>hb'⟩);have HO:=gH hown;clear hd hb hb' hqc hf HOk hown HA;go_wp2_with fail;exact ⟨⟨k,q+1,by omega,HNx,by omega,by go_num,hx,HO.out⟩,by simp only [intOf];omega⟩
  . obtain rfl:k=l.length:=by omega
    have hqe:=AtF.fin HA.out hq;rw [List.take_length] at hown;have HO:=gH hown;clear hown HA HOk;subst hqe;go_wp2_with fail;go_ret2;exact ⟨_,rfl,HO.out,hx⟩
theorem zIl {s:ByteArray} (h:s.size≠0):s.toList.isEmpty=false:=by
 cases he:s.toList.isEmpty with
 | false=>rfl
 | true =>
  (have:s.toList=[]:=by simpa using he);rw [ByteArray.toList_eq] at this;exact absurd (by rw [← qBl,this];rfl) h
theorem zIm {s:ByteArray} (h:s.size≠0):(!s.toList.isEmpty)=true:=by rw [zIl h];rfl
theorem zCh {w w1:World} (h:Ext w w1) {p:Addr} (n:Nat) (hp:w.heap.size<=p.block):Ext w (w1.freeze p n):=by
 unfold World.freeze
 split
 . exact h
 . refine ⟨h.os,h.tape,h.output,by simpa using h.size,fun k hk=>?_⟩
   simp only;rw [Array.getElem?_modify,if_neg (by omega)];exact h.block k hk
theorem qVj (w:World) (e:TypeId) (s:ByteArray):Ext w (Lib.bytesWorld w e s):=zCh ((Ext.refl w).drew.alloc _) _ (Nat.le_refl _)
structure DigS (s:ByteArray):Prop where
 some_:0<s.size
 few:s.size<=4294967296
 dig:∀ (k:Nat) (h:k<s.size),48<=s[k].toNat/\s[k].toNat<=57
 zero:∀ h:0<s.size,s[0].toNat=48->s.size=1
theorem zOn {s:ByteArray} (h:DigS s):Lib.hasPrefix s.data.toList [45]=false:=by
 have h1:=qGh s 0 h.some_;rw [List.drop_zero] at h1;have h2:=(h.dig 0 h.some_).1;rw [h1];unfold Lib.hasPrefix;simp only [List.isPrefixOf,Bool.and_eq_false_imp];intro e;(have:(45:UInt8)=s[0]'h.some_:=by simpa using e);rw [← this] at h2;exact absurd h2 (by decide)
def zMc (n:Nat) (v:Value):Prop:=∃ k:Nat,k<=n/\v = .int .i64 k
theorem zBf (s:ByteArray) (n lo hi:Int) (w:World) (hs:DigS s) (hp:Lib.parseIntB 64 s.data.toList = .ok n) (h0:lo<=n) (hn:n<=hi) :
 Calls Tryz.prog 152 #[.string s,.int .i64 lo,.int .i64 hi] w fun e w'=>e = .returned (.tuple #[.int .i64 n,.int .i64 0])/\Ext w w':=by
 have HD:=gH hs;have hlen:=hs.some_;have hfew:=hs.few
 have HCut0:Hid (∀ w,Calls Tryz.prog 244 #[.string s,.string ⟨#[45]⟩] w fun e w'=>e = .returned (.tuple #[.string s,.bool false])/\w=w'):=by
  show ∀ w,_
  intro w;have HP:=Tryz.stringslite_HasPrefix s ⟨#[45]⟩ w;rw [show Lib.hasPrefix s.data.toList (⟨#[45]⟩:ByteArray).data.toList=false from zOn hs] at HP;have HP:=gH HP;clear hs hp;go_enter Tryz.func244,Tryz.ntmps244;go_wp2_with fail;refine HP.out.mono ?_;rintro e w' ⟨rfl,rfl⟩;go_wp2_with fail;go_ret2;exact ⟨rfl,rfl⟩
 have HCut:Hid (∀ w,Calls Tryz.prog 213 #[.string s,.string ⟨#[45]⟩] w fun e w'=>e = .returned (.tuple #[.string s,.bool false])/\w=w'):=by
  show ∀ w,_
  intro w;clear hs hp;go_enter Tryz.func213,Tryz.ntmps213;go_wp2_with fail;refine (HCut0.out w).mono ?_;rintro e w' ⟨rfl,rfl⟩;go_wp2_with fail;go_ret2;exact ⟨rfl,rfl⟩
 have HPr:=gH (fun w=>Tryz.strconv_ParseInt_10_at64_ok s (by omega) n hp w);(have hne:s.size≠0:=by omega);have hz2:=zIm hne;have hz3:=zIl hne;have d1:decide (n<lo)=false:=decide_eq_false (by omega);have d2:decide (hi<n)=false:=decide_eq_false (by omega);have hz48:=hs.zero hlen;clear hs hp
 by_cases hq:s[0].toNat=48
 . have hz1:=hz48 hq
   (have d3:¬ 1<s.size:=by omega);(have d3':¬ (1:Int)<(s.size:Int):=by omega);(have d4:(((s[0]).toNat:Int) == 48)=true:=by rw [hq];rfl);clear hz48 hz1;go_enter Tryz.func152,Tryz.ntmps152;go_wp2_with fail;refine (HCut.out _).mono ?_;rintro e w1 ⟨rfl,rfl⟩;go_wp2_with fail;go_loop [35] (fun v=>zMc s.size v) (fun v=>s.size-(intOf v).toNat)
   case atStart=>exact ⟨0,Nat.zero_le _,rfl⟩
   case round =>
    obtain ⟨k,hk,rfl⟩:=hrel
    by_cases hlt:k<s.size
    . obtain ⟨g1,g2⟩:=HD.out.dig k hlt
      have f1:decide (s[k].toNat<48)=false:=decide_eq_false (by omega);have f2:decide (57<s[k].toNat)=false:=decide_eq_false (by omega);(have f3:¬ s[k].toNat<48:=by omega);(have f4:¬ 57<s[k].toNat:=by omega);go_wp2_with fail;exact ⟨⟨k+1,by omega,by go_num⟩,by simp only [intOf];omega⟩
    . have ek:k=s.size:=by omega
      subst ek;go_wp2_with fail;refine (HPr.out _).mono ?_;rintro e w1 ⟨rfl,hw⟩
      have HX:Hid (Ext w w1):=by
       show Ext w w1
       rcases hw with rfl | ⟨t,rfl⟩
       . exact Ext.refl _
       . exact qVj _ _ _
      clear hw;go_wp2_with fail;go_ret2;exact ⟨rfl,HX.out⟩
 . have d4:(((s[0]).toNat:Int) == 48)=false:=beq_eq_false_iff_ne.2 (by omega)
   clear hz48;go_enter Tryz.func152,Tryz.ntmps152;go_wp2_with fail;refine (HCut.out _).mono ?_;rintro e w1 ⟨rfl,rfl⟩;go_wp2_with fail;go_loop [35] (fun v=>zMc s.size v) (fun v=>s.size-(intOf v).toNat)
   case atStart=>exact ⟨0,Nat.zero_le _,rfl⟩
   case round =>
    obtain ⟨k,hk,rfl⟩:=hrel
    by_cases hlt:k<s.size
    . obtain ⟨g1,g2⟩:=HD.out.dig k hlt
      have f1:decide (s[k].toNat<48)=false:=decide_eq_false (by omega);have f2:decide (57<s[k].toNat)=false:=decide_eq_false (by omega);(have f3:¬ s[k].toNat<48:=by omega);(have f4:¬ 57<s[k].toNat:=by omega);go_wp2_with fail;exact ⟨⟨k+1,by omega,by go_num⟩,by simp only [intOf];omega⟩
    . have ek:k=s.size:=by omega
      subst ek;go_wp2_with fail;refine (HPr.out _).mono ?_;rintro e w1 ⟨rfl,hw⟩
      have HX:Hid (Ext w w1):=by
       show Ext w w1
       rcases hw with rfl | ⟨t,rfl⟩
       . exact Ext.refl _
       . exact qVj _ _ _
      clear hw;go_wp2_with fail;go_ret2;exact ⟨rfl,HX.out⟩
structure VrJ (T:TypeId) (al:Nat) (cs0 cs1:Array Value) (W:World) (us:List Value) (gs:Nat->Option Nat) (w:World):Prop where
 ext:Ext W w
 va:∀ g,gs al=some g->W.heap.size<=g/\Blk w g T (if us.length<=0 then cs0 else cs1)
section
variable {T:TypeId} {al:Nat} {cs0 cs1:Array Value} {W w w2:World} {us:List Value} {gs:Nat->Option Nat} {v:Value}
theorem VrJ.start (W:World):VrJ T al cs0 cs1 W [] (fun _=>none) W.drew:=⟨(Ext.refl W).drew,fun g h=>by cases h⟩
theorem VrJ.alloc (h:VrJ T al cs0 cs1 W us gs w) (hl:us.length<=0):VrJ T al cs0 cs1 W us (upd gs al w.heap.size) (w.alloc (.cells cs0 T)):=by
 refine ⟨h.ext.alloc _,fun g hg=>?_⟩;rw [qCv] at hg;obtain rfl:w.heap.size=g:=Option.some.inj hg;rw [if_pos hl];exact ⟨h.ext.size,Blk.new w _ _⟩
theorem VrJ.blk {g:Nat} (h:VrJ T al cs0 cs1 W us gs w) (hg:gs al=some g) (hl:us.length<=0):Blk w g T cs0:=by
 have:=(h.va g hg).2
 rwa [if_pos hl] at this
theorem VrJ.store {g:Nat} (h:VrJ T al cs0 cs1 W us gs w) (hg:gs al=some g) (hl:us.length=0):VrJ T al cs0 cs1 W (us++[v]) gs (putB w g T cs1):=by
 obtain ⟨h1,h2⟩:=h.va g hg;refine ⟨h.ext.put h1 _ _,fun g' hg'=>?_⟩;rw [hg] at hg'
 cases hg'
 rw [if_neg (by simp)];exact ⟨h1,h2.put _⟩
end
theorem qDv {P:Program} {o:Oper} {a:Act} {w:World} {K:Act->World->Prop} {Q:Exit->Act->World->Prop} {T:TypeId} {cs:Array Value} (ho:o.op = .alloc T) (hz:∀ w:World,(zeroValue T).run P w = .ok (.agg cs) w) (h:K (a.put o.dst (.pointer (some ⟨w.heap.size,0,none⟩))) (w.alloc (.cells cs T))):o.wp P a w K Q:=by
 obtain ⟨dst,op,ty,pos,after,guard⟩:=o;simp only at ho;subst ho;go_simp;exact h
theorem qCh {P:Program} {o:Oper} {a:Act} {w:World} {K:Act->World->Prop} {Q:Exit->Act->World->Prop} (ty:TypeId) (x y:Operand) (ho:o.op = .store ty x y) (g:Nat) (t:TypeId) (cs cs':Array Value) (hx:a.eval x = .pointer (some ⟨g,0,none⟩)) (hy:a.eval y = .agg cs')
 (hi:(P.info? ty).map (·.size)=some cs'.size) (h1:cs'.all (·.oneCell')=true) (hB:Blk w g t cs) (hl:cs.size=cs'.size) (h:K (a.put o.dst undef) (putB w g t cs')):o.wp P a w K Q:=by
 refine wp_store_mid ty x y ho g 0 cs' hx hy (fun j hj=>?_) hi h1 (by rw [qIg hB cs' hl];exact h);rw [hB.cell,hB.frozen];exact ⟨by simp;omega,rfl⟩
end
end Go.Proofs.YtneffpbodfjceaaGreatDoor