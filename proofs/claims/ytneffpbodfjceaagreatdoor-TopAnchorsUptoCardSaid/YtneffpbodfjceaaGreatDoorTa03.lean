/- Texts laid together. -/
import Derived.Test.YtneffpbodfjceaaGreatDoorTa02
set_option linter.unusedVariables false
set_option linter.unusedSimpArgs false
set_option maxRecDepth 100000
set_option maxHeartbeats 16000000
namespace Go.Proofs.YtneffpbodfjceaaGreatDoor
section
open Go.RowKit
structure Reg where
 name:ByteArray
 top:Int
 height:Int
 left:Int
 width:Int
 align:Int
 bottom:Bool
 deriving DecidableEq
def Reg.val (r:Reg):Value:=.agg #[.string r.name,.int .i64 r.top,.int .i64 r.height,.int .i64 r.left,.int .i64 r.width,.int .u8 r.align,.bool r.bottom]
def Reg.zero:Reg:=⟨ByteArray.empty,0,0,0,0,0,false⟩
def Reg.default:Reg:=⟨ByteArray.empty,11,4,0,32,2,true⟩
theorem qHa (n lo hi:Int) (w:World) (h:lo<=n/\n<=hi):Calls Tryz.prog 189 #[.int .i64 n,.int .i64 lo,.int .i64 hi] w fun e w'=>e = .returned (.bool true)/\w=w':=by
 obtain ⟨h1,h2⟩:=h;go_enter Tryz.func189,Tryz.ntmps189;go_wp2;go_ret;exact ⟨by simp [h2],rfl⟩
theorem qJm (n lo hi:Int) (w:World) (h:¬ (lo<=n/\n<=hi)):Calls Tryz.prog 189 #[.int .i64 n,.int .i64 lo,.int .i64 hi] w fun e w'=>e = .returned (.bool false)/\w=w':=by
 by_cases h1:lo<=n
 . have h2:¬ n<=hi:=fun x=>h ⟨h1,x⟩
   clear h;go_enter Tryz.func189,Tryz.ntmps189;go_wp2;go_ret;exact ⟨rfl,rfl⟩
 . clear h
   go_enter Tryz.func189,Tryz.ntmps189;go_wp2;go_ret;exact ⟨rfl,rfl⟩
theorem qJi (w:World):Calls Tryz.prog 231 #[] w fun e w'=>e = .returned Reg.default.val/\Ext w w':=by
 go_enter Tryz.func231,Tryz.ntmps231;go_wp2;exact bodyPost_ret (v:=Reg.default.val) (by simp [results,Tryz.results231,go_sem,Reg.val,Reg.default];rfl) rfl ⟨rfl,(Ext.refl w).alloc _⟩
def Reg.inGrid (r:Reg):Prop:=(0<=r.top/\r.top<=14)/\(1<=r.height/\r.height<=15-r.top)/\(0<=r.left/\r.left<=31)/\(1<=r.width/\r.width<=32-r.left)
instance (r:Reg):Decidable r.inGrid:=by unfold Reg.inGrid;infer_instance
def Reg.check (r:Reg):Int:=if qCt r.name=false then 5 else if ¬ r.inGrid then 2 else if r.align<1\/3<r.align then 3 else 0
theorem qPw (r:Reg) (w:World) (hs:r.name.size<=9223372036854775807):Calls Tryz.prog 109 #[r.val] w fun e w'=>e = .returned (.int .i64 r.check)/\Ext w w':=by
 obtain ⟨nm,top,hgt,lft,wid,al,bot⟩:=r;unfold Reg.val;dsimp only
 cases hn:qCt nm
 . have HN:=gH hn
   (have HF:Hid (Reg.check ⟨nm,top,hgt,lft,wid,al,bot⟩=5):=by show Reg.check _=5;unfold Reg.check;rw [if_pos hn]);clear hn;go_enter Tryz.func109,Tryz.ntmps109;go_wp2_with fail;refine (qDc nm _ hs).mono ?_;rintro e w1 ⟨rfl,rfl⟩;rw [HN.out];go_wp2_with fail;go_ret;exact ⟨qAf HF.out.symm,(Ext.refl w).alloc _⟩
 . have HN:=gH hn
   have HC:Hid (Reg.check ⟨nm,top,hgt,lft,wid,al,bot⟩=if ¬ Reg.inGrid ⟨nm,top,hgt,lft,wid,al,bot⟩ then 2 else if al<1\/3<al then 3 else 0):=by
    show Reg.check _=_
    unfold Reg.check;rw [if_neg (by rw [hn];simp)]
   have HI:Hid (Reg.inGrid ⟨nm,top,hgt,lft,wid,al,bot⟩↔((0<=top/\top<=14)/\(1<=hgt/\hgt<=15-top)/\(0<=lft/\lft<=31)/\(1<=wid/\wid<=32-lft))):=Iff.rfl;clear hn
   by_cases h1:0<=top/\top<=14
   . by_cases h2:1<=hgt/\hgt<=15-top
     . by_cases h3:0<=lft/\lft<=31
       . by_cases h4:1<=wid/\wid<=32-lft
         . by_cases h5:al<1
           . go_enter Tryz.func109,Tryz.ntmps109
             go_wp2_with fail;refine (qDc nm _ hs).mono ?_;rintro e w1 ⟨rfl,rfl⟩;rw [HN.out];go_wp2_with (first | (go_at_call 189;refine (qHa _ _ _ _ (by omega)).mono ?_;rintro e w' ⟨rfl,rfl⟩) | (go_at_call 189;refine (qJm _ _ _ _ (by omega)).mono ?_;rintro e w' ⟨rfl,rfl⟩));go_ret;exact ⟨qAf (by rw [HC.out,if_neg (by rw [HI.out];omega),if_pos (by omega)]),(Ext.refl w).alloc _⟩
           . by_cases h6:3<al
             . go_enter Tryz.func109,Tryz.ntmps109
               go_wp2_with fail;refine (qDc nm _ hs).mono ?_;rintro e w1 ⟨rfl,rfl⟩;rw [HN.out];go_wp2_with (first | (go_at_call 189;refine (qHa _ _ _ _ (by omega)).mono ?_;rintro e w' ⟨rfl,rfl⟩) | (go_at_call 189;refine (qJm _ _ _ _ (by omega)).mono ?_;rintro e w' ⟨rfl,rfl⟩));go_ret;exact ⟨qAf (by rw [HC.out,if_neg (by rw [HI.out];omega),if_pos (by omega)]),(Ext.refl w).alloc _⟩
             . go_enter Tryz.func109,Tryz.ntmps109
               go_wp2_with fail;refine (qDc nm _ hs).mono ?_;rintro e w1 ⟨rfl,rfl⟩;rw [HN.out];go_wp2_with (first | (go_at_call 189;refine (qHa _ _ _ _ (by omega)).mono ?_;rintro e w' ⟨rfl,rfl⟩) | (go_at_call 189;refine (qJm _ _ _ _ (by omega)).mono ?_;rintro e w' ⟨rfl,rfl⟩));go_ret;exact ⟨qAf (by rw [HC.out,if_neg (by rw [HI.out];omega),if_neg (by omega)]),(Ext.refl w).alloc _⟩
         . go_enter Tryz.func109,Tryz.ntmps109
           go_wp2_with fail;refine (qDc nm _ hs).mono ?_;rintro e w1 ⟨rfl,rfl⟩;rw [HN.out];go_wp2_with (first | (go_at_call 189;refine (qHa _ _ _ _ (by omega)).mono ?_;rintro e w' ⟨rfl,rfl⟩) | (go_at_call 189;refine (qJm _ _ _ _ (by omega)).mono ?_;rintro e w' ⟨rfl,rfl⟩));go_ret;exact ⟨qAf (by rw [HC.out,if_pos (by rw [HI.out];omega)]),(Ext.refl w).alloc _⟩
       . go_enter Tryz.func109,Tryz.ntmps109
         go_wp2_with fail;refine (qDc nm _ hs).mono ?_;rintro e w1 ⟨rfl,rfl⟩;rw [HN.out];go_wp2_with (first | (go_at_call 189;refine (qHa _ _ _ _ (by omega)).mono ?_;rintro e w' ⟨rfl,rfl⟩) | (go_at_call 189;refine (qJm _ _ _ _ (by omega)).mono ?_;rintro e w' ⟨rfl,rfl⟩));go_ret;exact ⟨qAf (by rw [HC.out,if_pos (by rw [HI.out];omega)]),(Ext.refl w).alloc _⟩
     . go_enter Tryz.func109,Tryz.ntmps109
       go_wp2_with fail;refine (qDc nm _ hs).mono ?_;rintro e w1 ⟨rfl,rfl⟩;rw [HN.out];go_wp2_with (first | (go_at_call 189;refine (qHa _ _ _ _ (by omega)).mono ?_;rintro e w' ⟨rfl,rfl⟩) | (go_at_call 189;refine (qJm _ _ _ _ (by omega)).mono ?_;rintro e w' ⟨rfl,rfl⟩));go_ret;exact ⟨qAf (by rw [HC.out,if_pos (by rw [HI.out];omega)]),(Ext.refl w).alloc _⟩
   . go_enter Tryz.func109,Tryz.ntmps109
     go_wp2_with fail;refine (qDc nm _ hs).mono ?_;rintro e w1 ⟨rfl,rfl⟩;rw [HN.out];go_wp2_with (first | (go_at_call 189;refine (qHa _ _ _ _ (by omega)).mono ?_;rintro e w' ⟨rfl,rfl⟩) | (go_at_call 189;refine (qJm _ _ _ _ (by omega)).mono ?_;rintro e w' ⟨rfl,rfl⟩));go_ret;exact ⟨qAf (by rw [HC.out,if_pos (by rw [HI.out];omega)]),(Ext.refl w).alloc _⟩
theorem toList_inj (a b:ByteArray):(a.toList=b.toList)=(a=b):=by
 rw [ByteArray.toList_eq,ByteArray.toList_eq];obtain ⟨⟨x⟩⟩:=a;obtain ⟨⟨y⟩⟩:=b;simp
theorem zFq (a b:Reg) (w:World):(binOp .eql 45 a.val b.val).run Tryz.prog w = .ok (.bool (decide (a=b))) w:=by
 obtain ⟨nm,top,hgt,lft,wid,al,bot⟩:=a;obtain ⟨nm',top',hgt',lft',wid',al',bot'⟩:=b;unfold Reg.val;dsimp only;go_simp;simp only [toList_inj]
 repeat' split
 all_goals simp_all
theorem qXz (a:Reg) (w:World):(binOp .eql 45 a.val a.val).run Tryz.prog w = .ok (.bool true) w:=by rw [zFq,decide_eq_true rfl]
theorem zCd {a b:Reg} (h:¬ a=b) (w:World):(binOp .eql 45 a.val b.val).run Tryz.prog w = .ok (.bool false) w:=by rw [zFq,decide_eq_false h]
theorem qPz (c:Int) (i u:Bool) (w:World):Calls Tryz.prog 106 #[.agg #[.int .u8 c,.bool i,.bool u]] w fun e w'=>e = .returned (.bool (decide (c<=6)))/\Ext w w':=by
 go_enter Tryz.func106,Tryz.ntmps106;go_wp2;go_ret;exact ⟨rfl,(Ext.refl w).alloc _⟩
def Run.plainStyle (a b:Run):Prop:=a.color=b.color/\a.italic=b.italic/\a.under=b.under
instance (a b:Run):Decidable (Run.plainStyle a b):=by unfold Run.plainStyle;infer_instance
def qEr (a b:Run):Bool:=decide (Run.plainStyle a b) && decide (a.ruby.toList=[]) && decide (b.ruby.toList=[])
theorem qVe (c c':Int) (i i' u u':Bool) (w:World):(binOp .eql 42 (.agg #[.int .u8 c,.bool i,.bool u]) (.agg #[.int .u8 c',.bool i',.bool u'])).run Tryz.prog w = .ok (.bool (decide (c=c'/\i=i'/\u=u'))) w:=by
 go_simp
 repeat' split
 all_goals simp_all
theorem qUi (a b:Run) (w:World):Calls Tryz.prog 205 #[a.val,b.val] w fun e w'=>e = .returned (.bool (qEr a b))/\Ext w w':=by
 obtain ⟨t1,c1,i1,u1,r1⟩:=a;obtain ⟨t2,c2,i2,u2,r2⟩:=b;unfold Run.val;dsimp only;have hx:Ext w ((w.alloc (.cells #[.string t1,.int .u8 c1,.bool i1,.bool u1,.string r1] 102)).alloc (.cells #[.string t2,.int .u8 c2,.bool i2,.bool u2,.string r2] 102)):=((Ext.refl w).alloc _).alloc _;have HX:=gH hx;clear hx
 by_cases hs:c1=c2/\i1=i2/\u1=u2
 . have hq:∀ w,(binOp .eql 42 (.agg #[.int .u8 c1,.bool i1,.bool u1]) (.agg #[.int .u8 c2,.bool i2,.bool u2])).run Tryz.prog w = .ok (.bool true) w:=fun w=>by rw [qVe,decide_eq_true hs]
   have HS:=gH hs;clear hs
   cases h1:r1.toList.isEmpty
   . have HF:Hid (qEr ⟨t1,c1,i1,u1,r1⟩ ⟨t2,c2,i2,u2,r2⟩=false):=by show qEr _ _=false;unfold qEr;cases hr:r1.toList<;>simp_all
     go_enter Tryz.func205,Tryz.ntmps205;go_wp2;go_ret;exact ⟨by rw [HF.out];rfl,HX.out⟩
   . cases h2:r2.toList.isEmpty
     . have HF:Hid (qEr ⟨t1,c1,i1,u1,r1⟩ ⟨t2,c2,i2,u2,r2⟩=false):=by show qEr _ _=false;unfold qEr;cases hr:r2.toList<;>simp_all
       go_enter Tryz.func205,Tryz.ntmps205;go_wp2;go_ret;exact ⟨by rw [HF.out];rfl,HX.out⟩
     . have HF:Hid (qEr ⟨t1,c1,i1,u1,r1⟩ ⟨t2,c2,i2,u2,r2⟩=true):=by
        show qEr _ _=true
        unfold qEr Run.plainStyle;have:=HS.out
        simp_all
       go_enter Tryz.func205,Tryz.ntmps205;go_wp2;go_ret;exact ⟨by rw [HF.out];rfl,HX.out⟩
 . have hq:∀ w,(binOp .eql 42 (.agg #[.int .u8 c1,.bool i1,.bool u1]) (.agg #[.int .u8 c2,.bool i2,.bool u2])).run Tryz.prog w = .ok (.bool false) w:=fun w=>by rw [qVe,decide_eq_false hs]
   (have HF:Hid (qEr ⟨t1,c1,i1,u1,r1⟩ ⟨t2,c2,i2,u2,r2⟩=false):=by show qEr _ _=false;unfold qEr Run.plainStyle;rw [decide_eq_false hs];rfl);clear hs;go_enter Tryz.func205,Tryz.ntmps205;go_wp2;go_ret;exact ⟨by rw [HF.out];rfl,HX.out⟩
def qAe (l:Row):Nat:=(l.map fun r=>r.text.size).sum
def qAs:Row->Int
 | []=>0
 | r :: l=>if clen r.text<0 then -1 else if qAs l<0 then -1 else clen r.text+qAs l
theorem qEd (r:Run) (l:Row):qAe (r :: l)=r.text.size+qAe l:=by simp [qAe]
theorem qKp (l:Row) (k:Nat) (r:Run) (h:l[k]?=some r):qAe (l.take (k+1))=qAe (l.take k)+r.text.size:=by
 have hkl:=(List.getElem?_eq_some_iff.1 h).1;rw [List.take_succ_eq_append_getElem hkl,(List.getElem?_eq_some_iff.1 h).2];simp [qAe]
theorem qHm (l:Row) (k:Nat):qAe (l.take k)<=qAe l:=by
 have h:qAe l=qAe (l.take k)+qAe (l.drop k):=by
  have e:=List.take_append_drop k l;(have:qAe (l.take k++l.drop k)=qAe (l.take k)+qAe (l.drop k):=by simp only [qAe,List.map_append,List.sum_append]);rw [← this,e]
 omega
theorem zFa (s:ByteArray):clen s<=s.size:=by
 unfold clen
 split
 . have:=Lib.runeCount_le s;omega
 . omega
theorem zEz (s:ByteArray):-1<=clen s:=by
 unfold clen
 split<;>omega
def zPw (w:World) (n:Nat) (l:Row) (v i:Value) (wr:World):Prop :=
 ∃ (k:Nat) (s:Int),k<=n/\i = .int .i64 k/\v = .int .i64 s/\0<=s/\s<=qAe (l.take k)/\Ext w wr/\qAs l=if qAs (l.drop k)<0 then -1 else s+qAs (l.drop k)
theorem qWd:∀ l:Row,-1<=qAs l
 | []=>by simp [qAs]
 | r :: l=>by
  have:=qWd l;have:=zEz r.text;unfold qAs
  split
  . omega
  . split<;>omega
theorem qYt (s:Int) (r:Run) (l:Row) (h:¬ clen r.text<0):(if qAs (r :: l)<0 then -1 else s+qAs (r :: l))=if qAs l<0 then -1 else s+clen r.text+qAs l:=by
 rw [qAs,if_neg h]
 by_cases h9:qAs l<0
 . simp [h9]
 . rw [if_neg h9,if_neg h9,if_neg (by omega)]
   omega
theorem qIm (A:Option Addr) (n c:Nat) (l:Row) (w:World) (hE:Env w) (hl:qBj w A n l) (hb:qAe l<=4611686018427387904) (hn:n<=4611686018427387904) :
 Calls Tryz.prog 48 #[.agg #[.slice A n c]] w fun e w'=>e = .returned (.int .i64 (qAs l))/\Ext w w':=by
 have HL:=gH hl;have HLn:=gH hl.len;clear hl;have HEn:=gH hE;clear hE;go_enter Tryz.func48,Tryz.ntmps48;go_wp2_with fail
 go_loopw [3,10] (fun v i wr=>zPw w n l v i wr) (fun _ i _=>n-(intOf i).toNat)
 case atStart =>
  refine ⟨0,0,Nat.zero_le _,rfl,rfl,by omega,by simp,(Ext.refl w).alloc _,?_⟩;have:=qWd l;simp only [List.drop_zero]
  split<;>omega
 case round =>
  obtain ⟨k,s,hk,rfl,rfl,hs0,hs1,hx,hp⟩:=hrel;have HP:=gH hp;clear hp
  by_cases hlt:k<n
  . obtain ⟨b,off,r,rfl,hr,hC⟩:=(HL.out.ext hx).at_ hlt
    obtain ⟨c0,c1,c2,c3,c4⟩:=hC;have HD:=gH (qDh l k r hr);have hbt:=qKp l k r hr;have hble:=qHm l (k+1);(have hsz:(r.text.size:Int)<=4611686018427387904:=by omega);(have hs2:s+r.text.size<=4611686018427387904:=by omega);(have hs3:Hid (s+(r.text.size:Int)<=(qAe (l.take (k+1)):Int)):=by show s+(r.text.size:Int)<=_;omega);clear hbt hble hr;have hcl:=zFa r.text;have hcg:=zEz r.text;(have hcl2:s+clen r.text<=4611686018427387904:=by omega);go_wp2_with fail;refine (qZg r.text _ (HEn.out.ext (hx.alloc _)) (by omega)).mono ?_;rintro e w2 ⟨rfl,hx2⟩
    by_cases hneg:clen r.text<0
    . go_wp2_with fail
      go_ret;refine ⟨qAf ?_,(hx.alloc _).trans hx2⟩;rw [HP.out,HD.out,qAs,if_pos (by omega)]
    . go_wp2_with fail
      refine ⟨⟨k+1,s+clen r.text,by omega,by go_num,rfl,by omega,?_,(hx.alloc _).trans hx2,?_⟩,by simp [intOf];omega⟩
      . have:=hs3.out;omega
      . rw [HP.out,HD.out]
        exact qYt s r (l.drop (k+1)) (by omega)
  . have HD:Hid (l.drop k=[]):=List.drop_eq_nil_of_le (by rw [HLn.out];omega)
    go_wp2_with fail;go_ret;exact ⟨qAf (by rw [HP.out,HD.out];simp [qAs]),hx⟩
def qAy (l:Row):List UInt8:=l.flatMap fun r=>r.text.data.toList
theorem qHf (l:Row):(qAy l).length=qAe l:=by
 unfold qAy qAe
 induction l with
 | nil=>rfl
 | cons r l ih=>simp [List.flatMap_cons,ih]
def zJi (w:World) (bx:Array Value) (n:Nat) (l:Row) (i:Value) (wr:World):Prop :=
 ∃ k:Nat,k<=n/\i = .int .i64 k/\Ext (w.alloc (.cells bx 61)) wr/\Lib.IsBuilder 178 5 (w.heap.size+1) (w.heap.size+1) (Lib.byteCells (qAy (l.take k))) wr
theorem byteCells_append (a b:List UInt8):Lib.byteCells (a++b)=Lib.byteCells a++Lib.byteCells b:=by simp [Lib.byteCells]
theorem qWf (l:Row) (k:Nat) (r:Run) (h:l[k]?=some r):qAy (l.take (k+1))=qAy (l.take k)++r.text.data.toList:=by
 have hkl:=(List.getElem?_eq_some_iff.1 h).1;rw [List.take_succ_eq_append_getElem hkl,(List.getElem?_eq_some_iff.1 h).2];simp [qAy]
theorem qHx {T e:TypeId} {B b:Nat} {bs:List Value} {w:World} (h:Lib.IsBuilder T e B b bs w) (o:Obj):Lib.IsBuilder T e B b bs (w.alloc o):=by
 have key:∀ p,Lib.BuilderAt T e B b p bs w->Lib.BuilderAt T e B b p bs (w.alloc o):=fun p ⟨hB,v,hb,hown,hne⟩ =>
  ⟨hB,v,(Below.heap_alloc w o b (Array.getElem?_eq_some_iff.1 hb).1).trans hb,hown.alloc o,hne⟩
 exact h.elim (fun x=>.inl (key _ x)) (fun x=>.inr (key _ x))
theorem qUf (A:Option Addr) (n c:Nat) (l:Row) (w:World) (hl:qBj w A n l) (hb:qAe l<=140737488355328) (hn:n<=4611686018427387904) :
 Calls Tryz.prog 130 #[.agg #[.slice A n c]] w fun e w'=>e = .returned (.string ⟨(qAy l).toArray⟩)/\Ext w w':=by
 have HL:=gH hl;have HLn:=gH hl.len;clear hl;go_enter Tryz.func130,Tryz.ntmps130;go_wp2_with fail
 go_loopw [9] (fun i wr=>zJi w #[.slice A n c] n l i wr) (fun i _=>n-(intOf i).toNat)
 case atStart =>
  refine ⟨0,Nat.zero_le _,rfl,(Ext.refl _).alloc _,.inl ⟨Nat.le_refl _,.slice none 0 0,?_,⟨rfl,.inl ⟨rfl,rfl⟩⟩,by simp [Value.ownBlock]⟩⟩;exact Blk.new' (w:=w.alloc _) (by simp)
 case round =>
  obtain ⟨k,hk,rfl,hx,hbd⟩:=hrel;have hxw:Ext w wr:=((Ext.refl w).alloc _).trans hx;have HB:=gH hbd;clear hbd;have hsz:=hx.size;simp only [World.size_alloc] at hsz
  by_cases hlt:k<n
  . obtain ⟨b,off,r,rfl,hr,hC⟩:=(HL.out.ext hxw).at_ hlt
    obtain ⟨c0,c1,c2,c3,c4⟩:=hC;have HT:=gH (qWf l k r hr);have hbt:=qKp l k r hr;have hble:=qHm l (k+1)
    have hlen:Hid ((Lib.byteCells (qAy (l.take k))).length+r.text.size<=140737488355328):=by
     show (Lib.byteCells (qAy (l.take k))).length+r.text.size<=_
     rw [Lib.byteCells_length,qHf];omega
    clear hbt hble hr;go_wp2_with fail;refine (qFk (w.heap.size+1) _ _ _ _ (qHx HB.out _) hlen.out (by simp;omega)).mono ?_;rintro e w2 ⟨rfl,hb2,hx2⟩;go_wp2_with fail;refine ⟨⟨k+1,by omega,by go_num,?_,?_⟩,by simp [intOf];omega⟩
    . exact (hx.alloc _).below hx2 (by simp)
    . rw [HT.out,byteCells_append]
      exact .inr hb2
  . have HT:Hid (l.take k=l):=List.take_of_length_le (by rw [HLn.out];omega)
    go_wp2_with fail;refine (Tryz.Builder_String_any (w.heap.size+1) _ _ _ HB.out (by omega)).mono ?_;rintro e w2 ⟨rfl,hx2⟩;go_wp2_with fail;go_ret;exact ⟨by rw [HT.out];rfl,hxw.below hx2 (by omega)⟩
def qEn (p:Option Run) (x:Run):Int :=
 if vld x.text=false then 10 else if x.text.toList=[] then 4 else if ¬ x.color<=6 then 12 else if vld x.ruby=false then 10 else if (p.any fun q=>qEr q x)=true then 8 else 0
def qEf:Option Run->Row->Int
 | _,[]=>0
 | p,x :: l=>if qEn p x=0 then qEf (some x) l else qEn p x
def qCu (l:Row):Int:=if 16<l.length then 9 else qEf none l
theorem qYx {p:Option Run} {x:Run} (h:vld x.text=false):qEn p x=10:=by unfold qEn;rw [if_pos h]
theorem qWh {p:Option Run} {x:Run} (h:vld x.text=true) (he:x.text.toList.isEmpty=true):qEn p x=4:=by
 unfold qEn;rw [if_neg (by rw [h];simp),if_pos (by simpa using he)]
theorem qWg {p:Option Run} {x:Run} (h:vld x.text=true) (he:x.text.toList.isEmpty=false) (hc:¬ x.color<=6):qEn p x=12:=by
 unfold qEn;rw [if_neg (by rw [h];simp),if_neg (by intro hh;rw [hh] at he;simp at he),if_pos hc]
theorem qYw {p:Option Run} {x:Run} (h:vld x.text=true) (he:x.text.toList.isEmpty=false) (hc:x.color<=6) (hr:vld x.ruby=false):qEn p x=10:=by
 unfold qEn;rw [if_neg (by rw [h];simp),if_neg (by intro hh;rw [hh] at he;simp at he),if_neg (by omega),if_pos hr]
theorem qOp {p:Option Run} {x:Run} (h:vld x.text=true) (he:x.text.toList.isEmpty=false) (hc:x.color<=6) (hr:vld x.ruby=true):qEn p x=if (p.any fun q=>qEr q x)=true then 8 else 0:=by
 unfold qEn;rw [if_neg (by rw [h];simp),if_neg (by intro hh;rw [hh] at he;simp at he),if_neg (by omega),if_neg (by rw [hr];simp)]
def ahead (l:Row) (k:Nat):Option Run:=if k=0 then none else l[k-1]?
theorem zBj (l:Row) (k:Nat) (r:Run) (h:l[k]?=some r):ahead l (k+1)=some r:=by unfold ahead;rw [if_neg (by omega)];simpa using h
def zIz (w:World) (bx:Array Value) (n:Nat) (l:Row) (i:Value) (wr:World):Prop :=
 ∃ k:Nat,k<=n/\i = .int .i64 k/\Ext (w.alloc (.cells bx 61)) wr/\qEf none l=qEf (ahead l k) (l.drop k)
theorem qIl (A:Option Addr) (n c:Nat) (l:Row) (w:World) (hE:Env w) (hl:qBj w A n l) (hb:∀ r∈l,r.text.size<=4611686018427387904/\r.ruby.size<=4611686018427387904) (hn:n<=4611686018427387904) :
 Calls Tryz.prog 190 #[.agg #[.slice A n c]] w fun e w'=>e = .returned (.int .i64 (qCu l))/\Ext w w':=by
 have HL:=gH hl;have HLn:=gH hl.len;have HEn:=gH hE;have HBd:=gH hb;clear hl hE hb
 by_cases h16:16<n
 . have HF:Hid (qCu l=9):=by show qCu l=9;unfold qCu;rw [if_pos (by rw [HLn.out];exact h16)]
   (have h16':(16:Int)<(n:Int):=by omega);go_enter Tryz.func190,Tryz.ntmps190;go_wp2_with fail;go_ret;exact ⟨qAf HF.out.symm,(Ext.refl w).alloc _⟩
 . have HF:Hid (qCu l=qEf none l):=by show qCu l=_;unfold qCu;rw [if_neg (by rw [HLn.out];exact h16)]
   (have h16':(n:Int)<=16:=by omega);clear h16;go_enter Tryz.func190,Tryz.ntmps190;go_wp2_with fail
   go_loopw [12] (fun i wr=>zIz w #[.slice A n c] n l i wr) (fun i _=>n-(intOf i).toNat)
   case atStart=>exact ⟨0,Nat.zero_le _,rfl,Ext.refl _,rfl⟩
   case round =>
    obtain ⟨k,hk,rfl,hx,hp⟩:=hrel;have HP:=gH hp;clear hp;have hxw:Ext w wr:=((Ext.refl w).alloc _).trans hx
    by_cases hlt:k<n
    . have HB0:=gH (Blk.ext (Blk.new w _ _) hx)
      obtain ⟨b,off,r,rfl,hr,hC⟩:=(HL.out.ext hxw).at_ hlt;obtain ⟨c0,c1,c2,c3,c4⟩:=hC;have HD:=gH (qDh l k r hr);have HA:=gH (zBj l k r hr);have hbd:=HBd.out r (List.mem_of_getElem? hr);obtain ⟨hb1,hb2⟩:=hbd;have HR:=gH hr;clear hr
      have HPs:Hid (qEf none l=if qEn (ahead l k) r=0 then qEf (ahead l (k+1)) (l.drop (k+1)) else qEn (ahead l k) r):=by
       show _=_
       rw [HP.out,HD.out,HA.out];rfl
      clear HP HD HA;have hblt:w.heap.size<wr.heap.size:=HB0.out.lt;(have hbne:w.heap.size≠wr.heap.size:=by omega);go_wp2_with fail;refine (qDj r.text _ (HEn.out.ext (hxw.alloc _)) (by omega)).mono ?_;rintro e w2 ⟨rfl,hx2⟩;have HB2:=gH (Blk.ext (Blk.new wr _ _) hx2);have hxw2:Ext w w2:=(hxw.alloc _).trans hx2
      cases hv:vld r.text
      . have HV:=gH hv
        clear hv;go_wp2_with fail;go_ret;refine ⟨qAf ?_,hxw2⟩;rw [HF.out,HPs.out,qYx HV.out];rfl
      . have HV:=gH hv
        clear hv;(have hc2:=fun o=>HB2.out.cell o)
        cases he:r.text.toList.isEmpty
        . by_cases hcol:r.color<=6
          . go_wp2_with fail
            refine (qPz _ _ _ _).mono ?_;rintro e w3 ⟨rfl,hx3⟩;have HB3:=gH (HB2.out.ext hx3);clear hc2;(have hc3:=fun o=>HB3.out.cell o);go_wp2_with fail;refine (qDj r.ruby _ (HEn.out.ext (hxw2.trans hx3)) (by omega)).mono ?_;rintro e w4 ⟨rfl,hx4⟩;have HB4:=gH (HB3.out.ext hx4);have hxw4:Ext w w4:=(hxw2.trans hx3).trans hx4;clear hc3
            cases hvr:vld r.ruby
            . have HVr:=gH hvr
              clear hvr;go_wp2_with fail;go_ret;refine ⟨qAf ?_,hxw4⟩;rw [HF.out,HPs.out,qYw HV.out he hcol HVr.out];rfl
            . have HVr:=gH hvr
              clear hvr;have HE2:=gH (qOp (p:=ahead l k) HV.out he hcol HVr.out)
              by_cases hk0:k=0
              . subst hk0
                (have HAl:Hid (qEn (ahead l 0) r=0):=by show _=_;rw [HE2.out];rfl);(have HPt:Hid (qEf none l=qEf (ahead l (0+1)) (l.drop (0+1))):=by show _=_;rw [HPs.out,if_pos HAl.out]);go_wp2_with fail;go_quiet (fail);go_wp2_with fail;exact ⟨⟨0+1,by omega,by go_num,((hx.alloc _).trans ((hx2.trans hx3).trans hx4)).drewN _,HPt.out⟩,by simp [intOf];omega⟩
              . obtain ⟨m,rfl⟩:∃ m,k=m+1:=⟨k-1,by omega⟩
                obtain ⟨q,hq⟩:∃ q,l[m]?=some q:=by
                 (have:m<l.length:=by rw [HLn.out];omega);exact ⟨_,List.getElem?_eq_getElem this⟩
                (have HAh:Hid (ahead l (m+1)=some q):=by show _=_;unfold ahead;rw [if_neg hk0];exact hq);obtain ⟨b',off',q',hA',hq',hC'⟩:=(HL.out.ext hxw4).at_ (i:=m) (by omega)
                cases hA'
                rw [hq] at hq'
                cases hq'
                obtain ⟨d0,d1,d2,d3,d4⟩:=hC';have HQ:=gH hq;clear hq hk0;(have hm0:(0:Int)<=(m:Int):=by omega);(have hm1:(m:Int)<(n:Int):=by omega);(have hm2:(0:Int)<(m:Int)+1:=by omega);(have hm3:m<n:=by omega);have e1:IntKind.i64.wrap (m:Int)=(m:Int):=IntWalk.i64_in _ (by omega);(have hc4:=fun o=>HB4.out.cell o);have HB04:=gH (HB0.out.ext (((Ext.refl wr).alloc _).trans ((hx2.trans hx3).trans hx4)));(have hc0:=fun o=>HB04.out.cell o);have HAL:=gH (fun w=>qUi q r w);unfold Run.val at HAL;have z0:w4.cell? ⟨w.heap.size,0,none⟩=some (.slice (some ⟨b,off,none⟩) n c):=hc0 0;have z1:w4.cell? ⟨wr.heap.size,0,none⟩=some (.string r.text):=hc4 0;have z2:w4.cell? ⟨wr.heap.size,1,none⟩=some (.int .u8 r.color):=hc4 1;have z3:w4.cell? ⟨wr.heap.size,2,none⟩=some (.bool r.italic):=hc4 2;have z4:w4.cell? ⟨wr.heap.size,3,none⟩=some (.bool r.under):=hc4 3;have z5:w4.cell? ⟨wr.heap.size,4,none⟩=some (.string r.ruby):=hc4 4;clear hc0 hc4 c0 c1 c2 c3 c4;go_wp2_with fail
                go_region_held3 (fun w'=>w'.cell? ⟨w.heap.size,0,none⟩=some (.slice (some ⟨b,off,none⟩) n c)/\w'.cell? ⟨wr.heap.size,0,none⟩=some (.string r.text)/\w'.cell? ⟨wr.heap.size,1,none⟩=some (.int .u8 r.color)/\w'.cell? ⟨wr.heap.size,2,none⟩=some (.bool r.italic)/\w'.cell? ⟨wr.heap.size,3,none⟩=some (.bool r.under)/\w'.cell? ⟨wr.heap.size,4,none⟩=some (.string r.ruby) /\
                 w'.cell? ⟨b,off+m*5,none⟩=some (.string q.text)/\w'.cell? ⟨b,off+m*5+1,none⟩=some (.int .u8 q.color)/\w'.cell? ⟨b,off+m*5+2,none⟩=some (.bool q.italic)/\w'.cell? ⟨b,off+m*5+3,none⟩=some (.bool q.under)/\w'.cell? ⟨b,off+m*5+4,none⟩=some (.string q.ruby))
                 (first | go_keep | (go_split_ands;refine ⟨?_,?_,?_,?_,?_,?_,?_,?_,?_,?_,?_⟩<;>(apply hx5.cell;assumption)))
                 (first | (go_at_call 205;refine (HAL.out _).mono ?_;rintro e w5 ⟨rfl,hx5⟩))
                have hxa:Ext (w.alloc (.cells #[.slice (some ⟨b,off,none⟩) n c] 61)) w5:=((((hx.alloc _).trans ((hx2.trans hx3).trans hx4)).drew)).trans hx5;have hxw5:Ext w w5:=((Ext.refl w).alloc _).trans hxa;clear e1
                cases hal:qEr q r
                . have HAl:Hid (qEn (ahead l (m+1)) r=0):=by show _=_;rw [HE2.out,HAh.out,Option.any_some,hal];rfl
                  (have HPt:Hid (qEf none l=qEf (ahead l (m+1+1)) (l.drop (m+1+1))):=by show _=_;rw [HPs.out,if_pos HAl.out]);clear hal;go_wp2_with fail;exact ⟨⟨m+1+1,by omega,by go_num,hxa,HPt.out⟩,by simp [intOf];omega⟩
                . have HAl:Hid (qEn (ahead l (m+1)) r=8):=by show _=_;rw [HE2.out,HAh.out,Option.any_some,hal];rfl
                  clear hal;go_wp2_with fail;go_ret;exact ⟨qAf (by rw [HF.out,HPs.out,HAl.out];rfl),hxw5⟩
          . have HC:=gH hcol
            have hd:decide (r.color<=6)=false:=decide_eq_false hcol;clear hcol;go_wp2_with fail;refine (qPz _ _ _ _).mono ?_;rintro e w3 ⟨rfl,hx3⟩;go_wp2_with fail;go_ret;refine ⟨qAf ?_,hxw2.trans hx3⟩;rw [HF.out,HPs.out,qWg HV.out he (by have:=HC.out;omega)];rfl
        . go_wp2_with fail
          go_ret;refine ⟨qAf ?_,hxw2⟩;rw [HF.out,HPs.out,qWh HV.out he];rfl
    . have HD:Hid (l.drop k=[]):=List.drop_eq_nil_of_le (by rw [HLn.out];omega)
      go_wp2_with fail;go_ret;exact ⟨qAf (by rw [HF.out,HP.out,HD.out];rfl),hxw⟩
def badS (s:ByteArray):Bool:=s.toList.isEmpty || decide (s.data.toList.head?=some 32) || decide (s.data.toList.getLast?=some 32) || Lib.contains s.data.toList [32,32]
def qHn (l:Row):ByteArray:=⟨(qAy l).toArray⟩
def qCg (l:Row):Int:=if qCu l≠0 then qCu l else if badS (qHn l)=true then 4 else if 32<qAs l then 11 else 0
theorem qTz (s:ByteArray) (w:World) (hE:Env w) (hs:s.size<4294967281) :
 Calls Tryz.prog 232 #[.string s,.string ⟨#[32,32]⟩] w fun e w'=>e = .returned (.bool (Lib.contains s.data.toList [32,32]))/\w=w':=by
 obtain ⟨m,hm⟩:=hE.2;(exact (Tryz.strings_Contains s ⟨#[32,32]⟩ m w hs hm).mono fun _ _ ⟨a,b⟩=>⟨a,b.symm⟩)
theorem zGf (s:ByteArray) (h:0<s.size):(s.data.toList.head?=some 32)↔((s[0].toNat:Int) == 32)=true:=by
 have e:=qKx s 0 h;simp only [Nat.zero_add,List.take_zero,List.nil_append] at e
 have hh:s.data.toList.head?=some s[0]:=by
  cases hl:s.data.toList with
  | nil=>rw [hl] at e;simp at e
  | cons a l=>rw [hl] at e;simp at e;simp [e]
 rw [hh]
 constructor
 . intro h1
   have h2:s[0]=32:=Option.some.inj h1;(rw [h2];rfl)
 . intro h1
   have h2:(s[0].toNat:Int)=32:=by simpa using h1
   congr 1
   apply UInt8.toNat_inj.1;(have:s[0].toNat=32:=by omega);(rw [this];rfl)
theorem zGs (s:ByteArray) (h:0<s.size):(s.data.toList.getLast?=some 32)↔((s[s.size-1].toNat:Int) == 32)=true:=by
 have hh:s.data.toList.getLast?=some s[s.size-1]:=by
  rw [List.getLast?_eq_getElem?];(have hl:s.data.toList.length=s.size:=by simp);rw [hl,List.getElem?_eq_getElem (by rw [hl];omega)];rfl
 rw [hh]
 constructor
 . intro h1
   have h2:s[s.size-1]=32:=Option.some.inj h1;(rw [h2];rfl)
 . intro h1
   have h2:(s[s.size-1].toNat:Int)=32:=by simpa using h1
   congr 1
   apply UInt8.toNat_inj.1;(have:s[s.size-1].toNat=32:=by omega);(rw [this];rfl)
theorem zHw (A:Option Addr) (n c:Nat) (l:Row) (w:World) (hE:Env w) (hl:qBj w A n l) (hb:∀ r∈l,r.text.size<=4611686018427387904/\r.ruby.size<=4611686018427387904) (hn:n<=4611686018427387904) (hbt:qAe l<4294967281) :
 Calls Tryz.prog 181 #[.agg #[.slice A n c]] w fun e w'=>e = .returned (.int .i64 (qCg l))/\Ext w w':=by
 have HL:=gH hl;have HEn:=gH hE;have HBd:=gH hb;clear hl hE hb;(have hsz:(qHn l).size=qAe l:=by rw [← qHf];rfl);have HSz:=gH hsz;clear hsz
 by_cases h1:qCu l=0
 . have HF:Hid (qCg l=if badS (qHn l)=true then 4 else if 32<qAs l then 11 else 0):=by show _=_;unfold qCg;rw [if_neg (by simp [h1])]
   (have h1b:(qCu l != 0)=false:=by simp [h1]);have HR:=gH h1;clear h1;go_enter Tryz.func181,Tryz.ntmps181;go_wp2_with fail;refine (qIl A n c l _ (HEn.out.ext ((Ext.refl w).alloc _)) (HL.out.ext ((Ext.refl w).alloc _)) HBd.out hn).mono ?_;rintro e w1 ⟨rfl,hx1⟩;have HB1:=gH (Blk.ext (Blk.new w _ _) hx1);have hxw1:Ext w w1:=((Ext.refl w).alloc _).trans hx1;have hc1:=HB1.out.cell 0;simp at hc1;go_wp2_with fail;refine (qUf A n c l _ (HL.out.ext hxw1) (by omega) hn).mono ?_;rintro e w2 ⟨rfl,hx2⟩;have hxw2:Ext w w2:=hxw1.trans hx2;have HB2:=gH (HB1.out.ext hx2);clear hc1;have hc2:=HB2.out.cell 0;simp at hc2;rw [show (⟨(qAy l).toArray⟩:ByteArray)=qHn l from rfl];generalize hs:qHn l=s at *;have HS:=gH hs;clear hs;(have hs9:s.size<4294967281:=by rw [HSz.out];exact hbt)
   by_cases e0:s.toList.isEmpty=true
   . have HFb:Hid (badS s=true):=by show _=_;unfold badS;rw [e0];rfl
     go_wp2_with fail;go_ret;exact ⟨qAf (by rw [HF.out,if_pos HFb.out]),hxw2⟩
   . have e0':s.toList.isEmpty=false:=by simpa using e0
     have hpos:0<s.size:=by
      rcases Nat.eq_zero_or_pos s.size with h | h
      . exfalso
        apply e0
        have:s.toList=[]:=by
         rw [ByteArray.toList_eq];exact List.eq_nil_of_length_eq_zero (by simpa using h)
        rw [this];rfl
      . exact h
     clear e0
     by_cases e1:((s[0].toNat:Int) == 32)=true
     . have HFb:Hid (badS s=true):=by show _=_;unfold badS;rw [decide_eq_true ((zGf s hpos).2 e1)];simp
       go_wp2_with fail;go_ret;exact ⟨qAf (by rw [HF.out,if_pos HFb.out]),hxw2⟩
     . have e1':((s[0].toNat:Int) == 32)=false:=by simpa using e1
       have hd1:=gH (decide_eq_false (p:=s.data.toList.head?=some 32) (fun h=>e1 ((zGf s hpos).1 h)));clear e1;(have hz0:(0:Int)<=(s.size:Int)-1:=by omega);(have hz1:(s.size:Int)-1<(s.size:Int):=by omega)
       by_cases e2:((s[s.size-1].toNat:Int) == 32)=true
       . have HFb:Hid (badS s=true):=by show _=_;unfold badS;rw [decide_eq_true ((zGs s hpos).2 e2)];simp
         go_wp2_with fail;go_ret;exact ⟨qAf (by rw [HF.out,if_pos HFb.out]),hxw2⟩
       . have e2':((s[s.size-1].toNat:Int) == 32)=false:=by simpa using e2
         have hd2:=gH (decide_eq_false (p:=s.data.toList.getLast?=some 32) (fun h=>e2 ((zGs s hpos).1 h)));clear e2;(have HFb:Hid (badS s=Lib.contains s.data.toList [32,32]):=by show _=_;unfold badS;rw [e0',hd1.out,hd2.out];simp);go_wp2_with fail;refine (qTz s _ (HEn.out.ext hxw2) hs9).mono ?_;rintro e w3 ⟨rfl,rfl⟩
         cases hct:Lib.contains s.data.toList [32,32]
         . have HCt:=gH hct
           clear hct;go_wp2_with fail;refine (qIm A n c l _ (HEn.out.ext hxw2) (HL.out.ext hxw2) (by omega) hn).mono ?_;rintro e w4 ⟨rfl,hx4⟩
           by_cases hw:32<qAs l
           . go_wp2_with fail
             go_ret;exact ⟨qAf (by rw [HF.out,HFb.out,HCt.out,if_neg (by simp),if_pos hw]),hxw2.trans hx4⟩
           . go_wp2_with fail
             go_ret;exact ⟨qAf (by rw [HF.out,HFb.out,HCt.out,if_neg (by simp),if_neg (by omega)]),hxw2.trans hx4⟩
         . have HCt:=gH hct
           clear hct;go_wp2_with fail;go_ret;exact ⟨qAf (by rw [HF.out,HFb.out,HCt.out];rfl),hxw2⟩
 . have HF:Hid (qCg l=qCu l):=by show _=_;unfold qCg;rw [if_pos h1]
   (have h1b:(qCu l != 0)=true:=by simp [h1]);clear h1;go_enter Tryz.func181,Tryz.ntmps181;go_wp2_with fail;refine (qIl A n c l _ (HEn.out.ext ((Ext.refl w).alloc _)) (HL.out.ext ((Ext.refl w).alloc _)) HBd.out hn).mono ?_;rintro e w1 ⟨rfl,hx1⟩;go_wp2_with fail;go_ret;exact ⟨qAf HF.out.symm,((Ext.refl w).alloc _).trans hx1⟩
def qIi (i o:Int):Bool:=decide (0<=i/\i<o/\o<=5184000)
theorem zIi (i o:Int) (w:World):Calls Tryz.prog 180 #[.agg #[.int .i64 i,.int .i64 o]] w fun e w'=>e = .returned (.bool (qIi i o))/\Ext w w':=by
 have HX:=gH ((Ext.refl w).alloc (.cells #[.int .i64 i,.int .i64 o] 38))
 by_cases h1:0<=i
 . by_cases h2:i<o
   . go_enter Tryz.func180,Tryz.ntmps180
     go_wp2;go_ret;refine ⟨qBh ?_,HX.out⟩;unfold qIi
     by_cases h3:o<=5184000
     . rw [decide_eq_true h3,decide_eq_true ⟨h1,h2,h3⟩]
     . rw [decide_eq_false h3,decide_eq_false (fun h=>h3 h.2.2)]
   . go_enter Tryz.func180,Tryz.ntmps180
     go_wp2;go_ret;exact ⟨qBh (by unfold qIi;rw [decide_eq_false (by omega)]),HX.out⟩
 . go_enter Tryz.func180,Tryz.ntmps180
   go_wp2;go_ret;exact ⟨qBh (by unfold qIi;rw [decide_eq_false (by omega)]),HX.out⟩
def qKn (k:Int):Bool:=decide (k<1\/4<k)
def qOa:Array Value:=#[.string ⟨#[68,73,65,76,79,71,85,69]⟩,.string ⟨#[83,79,85,78,68]⟩,.string ⟨#[84,73,84,76,69]⟩,.string ⟨#[77,85,83,73,67]⟩]
theorem qVs (w:World):Calls Tryz.prog 154 #[] w fun e w'=>e = .returned (.slice (some ⟨w.heap.size,0,none⟩) 4 4)/\w'=w.alloc (.cells qOa 9):=by
 go_enter Tryz.func154,Tryz.ntmps154;go_wp2;go_ret;exact ⟨rfl,rfl⟩
def zJf (k:Int) (w:World) (e:Ending) (w':World):Prop:=∃ s:ByteArray,e = .returned (.string s)/\s.toList.isEmpty=qKn k/\Ext w w'
theorem qLs (k:Int) (w:World):Calls Tryz.prog 105 #[.int .u8 k] w (zJf k w):=by
 by_cases h1:k<1
 . go_enter Tryz.func105,Tryz.ntmps105
   go_wp2_with fail;go_ret;exact ⟨_,rfl,by unfold qKn;rw [decide_eq_true (by omega),ByteArray.toList_eq];rfl,Ext.refl _⟩
 . by_cases h2:4<k
   . go_enter Tryz.func105,Tryz.ntmps105
     go_wp2_with fail;go_ret;exact ⟨_,rfl,by unfold qKn;rw [decide_eq_true (by omega),ByteArray.toList_eq];rfl,Ext.refl _⟩
   . have HN:Hid (qKn k=false):=by show _=_;unfold qKn;rw [decide_eq_false (by omega)]
     have hk:k=1\/k=2\/k=3\/k=4:=by omega
     rcases hk with rfl | rfl | rfl | rfl
     all_goals
      clear h1 h2;go_enter Tryz.func105,Tryz.ntmps105;go_wp2_with fail;refine (qVs _).mono ?_;rintro e w1 ⟨rfl,rfl⟩;unfold qOa;go_wp2_with fail;go_ret;exact ⟨_,rfl,by rw [HN.out,ByteArray.toList_eq];rfl,(Ext.refl w).alloc _⟩
def Reg.usable (r:Reg):Bool:=decide (r=Reg.default\/r.check=0)
def RegC (w:World) (b o:Nat) (r:Reg):Prop :=
 w.cell? ⟨b,o,none⟩=some (.string r.name)/\w.cell? ⟨b,o+1,none⟩=some (.int .i64 r.top)/\w.cell? ⟨b,o+2,none⟩=some (.int .i64 r.height)/\w.cell? ⟨b,o+3,none⟩=some (.int .i64 r.left) /\
 w.cell? ⟨b,o+4,none⟩=some (.int .i64 r.width)/\w.cell? ⟨b,o+5,none⟩=some (.int .u8 r.align)/\w.cell? ⟨b,o+6,none⟩=some (.bool r.bottom)
theorem RegC.stays:zBh RegC:=fun _ _ _ _ _ k h=>⟨k.cell h.1,k.cell h.2.1,k.cell h.2.2.1,k.cell h.2.2.2.1,k.cell h.2.2.2.2.1,k.cell h.2.2.2.2.2.1,k.cell h.2.2.2.2.2.2⟩
theorem zDs (r:Reg) (w:World) (hs:r.name.size<=9223372036854775807):Calls Tryz.prog 233 #[r.val] w fun e w'=>e = .returned (.bool r.usable)/\Ext w w':=by
 have hR:=fun w=>qPw r w hs
 by_cases hd:r=Reg.default
 . have HF:Hid (r.usable=true):=by show r.usable=true;unfold Reg.usable;exact decide_eq_true (.inl hd)
   (have hq:=fun w=>qXz Reg.default w);subst hd;clear hR hs;unfold Reg.val Reg.default at hq ⊢;unfold Reg.default at HF;dsimp only at hq HF ⊢;go_enter Tryz.func233,Tryz.ntmps233;go_wp2_with fail;go_region_with (first | (go_at_call 231;refine (qJi _).mono ?_;rintro e w1 ⟨rfl,hx1⟩;have hx1':=gH hx1;(have hc:=fun o u=>hx1.cell (p:=⟨w.heap.size,o,none⟩) (u:=u));simp at hc;clear hx1;unfold Reg.val Reg.default))
   all_goals go_wp2
   all_goals go_ret
   all_goals exact ⟨by rw [HF.out];rfl,(((Ext.refl w).alloc _).drew).trans hx1'.out⟩
 . obtain ⟨nm,top,hgt,lft,wid,al,bot⟩:=r
   (have hq:=fun w=>zCd hd w);have HR:=gH hR
   have HF:Hid (Reg.usable ⟨nm,top,hgt,lft,wid,al,bot⟩=decide (Reg.check ⟨nm,top,hgt,lft,wid,al,bot⟩=0)):=by
    show Reg.usable _=_
    unfold Reg.usable
    congr 1
    simp [hd]
   clear hR hd;unfold Reg.val at HR ⊢;unfold Reg.val Reg.default at hq;dsimp only at HR hq ⊢;go_enter Tryz.func233,Tryz.ntmps233;go_wp2_with fail
   go_region_held3 (fun w'=>w'.cell? ⟨w.heap.size,0,none⟩=some (.string nm)/\w'.cell? ⟨w.heap.size,1,none⟩=some (.int .i64 top)/\w'.cell? ⟨w.heap.size,2,none⟩=some (.int .i64 hgt)/\w'.cell? ⟨w.heap.size,3,none⟩=some (.int .i64 lft)/\w'.cell? ⟨w.heap.size,4,none⟩=some (.int .i64 wid)/\w'.cell? ⟨w.heap.size,5,none⟩=some (.int .u8 al)/\w'.cell? ⟨w.heap.size,6,none⟩=some (.bool bot))
    (first | go_keep | (go_split_ands;refine ⟨?_,?_,?_,?_,?_,?_,?_⟩<;>(apply hx2.cell;assumption)) | (go_split_ands;refine ⟨?_,?_,?_,?_,?_,?_,?_⟩<;>(apply hx1.cell;assumption)))
    (first | (go_at_call 231;refine (qJi _).mono ?_;rintro e w1 ⟨rfl,hx1⟩;unfold Reg.val Reg.default) | (go_at_call 109;refine (HR.out _).mono ?_;rintro e w2 ⟨rfl,hx2⟩))
   go_wp2
   all_goals go_ret
   all_goals exact ⟨by rw [HF.out];exact qBh rfl,((((Ext.refl w).alloc _).drew).trans hx1).trans hx2⟩
def qNc (w:World) (A:Option Addr) (n:Nat) (l:List Int):Prop:=Sl w 1 (Cells fun x=>[.int .i64 x]) A n l
theorem qNc.ext {w w1:World} {A:Option Addr} {n:Nat} {l:List Int} (h:qNc w A n l) (k:Ext w w1):qNc w1 A n l:=Sl.ext (Cells.stays _) h k
theorem qNc.cell {w:World} {A:Option Addr} {n:Nat} {l:List Int} (h:qNc w A n l) {i:Nat} (hi:i<n):∃ b off x,A=some ⟨b,off,none⟩/\l[i]?=some x/\w.cell? ⟨b,off+i,none⟩=some (.int .i64 x):=by
 obtain ⟨b,off,x,hA,hx,hc⟩:=h.at_ hi;exact ⟨b,off,x,hA,hx,by simpa using hc 0 (.int .i64 x) rfl⟩
structure Spot where
 row:Int
 col:Int
 len:Int
 deriving DecidableEq
def Spot.cells (s:Spot):List Value:=[.int .i64 s.row,.int .i64 s.col,.int .i64 s.len]
def zNh (w:World) (A:Option Addr) (n:Nat) (l:List Spot):Prop:=Sl w 3 (Cells Spot.cells) A n l
def Reg.spot (r:Reg) (top:Int) (i:Nat) (n:Int):Spot:=⟨top+i,if r.align=3 then r.left+(r.width-n) else if r.align=2 then r.left+(r.width-n) / 2 else r.left,n⟩
def Reg.spots (r:Reg) (top:Int):Nat->List Int->List Spot
 | _,[]=>[]
 | i,n :: l=>r.spot top i n :: r.spots top (i+1) l
def Reg.lensErr (r:Reg):List Int->Int
 | []=>0
 | n :: l=>if n<0 then 2 else if r.width<n then 11 else r.lensErr l
def Reg.top' (r:Reg) (n:Nat):Int:=if r.bottom then r.top+(r.height-n) else r.top
def Reg.place (r:Reg) (lens:List Int):Int:=if r.usable=false then 1 else if r.height<lens.length then 9 else r.lensErr lens
theorem qLp (r:Reg) (top:Int):∀ (l:List Int) (i:Nat) (n:Int),r.spots top i (l++[n])=r.spots top i l++[r.spot top (i+l.length) n]
 | [],i,n=>by simp [Reg.spots]
 | a :: l,i,n=>by
  simp only [List.cons_append,Reg.spots,qLp r top l (i+1) n,List.length_cons];rw [show i+1+l.length=i+(l.length+1) by omega]
theorem qWq (r:Reg) (top:Int):∀ (l:List Int) (i:Nat),(r.spots top i l).length=l.length
 | [],i=>rfl
 | a :: l,i=>by simp [Reg.spots,qWq r top l (i+1)]
theorem qLy (r:Reg) (l:List Int) (k:Nat) (x:Int) (hx:l[k]?=some x):r.lensErr (l.drop k)=if x<0 then 2 else if r.width<x then 11 else r.lensErr (l.drop (k+1)):=by
 have hkl:=(List.getElem?_eq_some_iff.1 hx).1;rw [List.drop_eq_getElem_cons hkl,(List.getElem?_eq_some_iff.1 hx).2];rfl
theorem qTm {r:Reg} (h:r.usable=true):(0<=r.top/\r.top<=14)/\(1<=r.height/\r.height<=15)/\(0<=r.left/\r.left<=31)/\(1<=r.width/\r.width<=32):=by
 unfold Reg.usable at h
 rcases of_decide_eq_true h with h | h
 . subst h;decide
 . unfold Reg.check at h
   split at h
   . omega
   . split at h
     . omega
     . rename_i h1 h2
       (have h2':r.inGrid:=by simpa using h2);unfold Reg.inGrid at h2';omega
def qUe (w:World) (bx:Array Value) (r:Reg) (top:Int) (n:Nat) (lens:List Int) (v i:Value) (wr:World):Prop :=
 ∃ k:Nat,k<=n/\i = .int .i64 k/\Ext (w.alloc (.cells bx 45)) wr/\r.lensErr lens=r.lensErr (lens.drop k) /\
  wr.ownsRow (w.heap.size+1) 332 3 v k ((r.spots top 0 (lens.take k)).flatMap Spot.cells)
theorem qFo:(Tryz.prog.info? 332).map (fun i=>(i.zero,i.size,i.bytes))=some (some (.agg #[.int .i64 0,.int .i64 0,.int .i64 0]),3,24):=by kernel_rfl
def qNd (r:Reg) (lens:List Int) (w:World) (e:Ending) (w':World):Prop :=
 ∃ A n c,e = .returned (.tuple #[.slice A n c,.int .i64 (r.place lens)])/\zNh w' A n (if r.place lens=0 then r.spots (r.top' lens.length) 0 lens else [])/\n<=c/\Ext w w'
theorem qDe {r:Reg} {lens:List Int} {w w':World} {e:Ending} {k:Int} (hk:r.place lens=k) (h0:k≠0) (he:e = .returned (.tuple #[.slice none 0 0,.int .i64 k])) (hx:Ext w w'):qNd r lens w e w' :=
 ⟨none,0,0,by rw [hk];exact he,by rw [if_neg (by rw [hk];exact h0)];exact Sl.nil,Nat.le_refl _,hx⟩
theorem qMa {r:Reg} {lens:List Int} {w w':World} {v:Value} {n base:Nat} {top:Int} (h0:r.place lens=0) (ht:r.top' lens.length=top)
 (hown:w'.ownsRow base 332 3 v n ((r.spots top 0 lens).flatMap Spot.cells)) (hn:lens.length=n) (hx:Ext w w'):qNd r lens w (.returned (.tuple #[v,.int .i64 0])) w':=by
 (have hl:(r.spots top 0 lens).length=n:=by rw [qWq,hn]);obtain ⟨A,c,rfl,hc,_,hsl,_⟩:=qBn (f:=Spot.cells) (size:=3) (fun _=>rfl) hl hown;exact ⟨A,n,c,by rw [h0],by rw [if_pos h0,ht];exact hsl,hc,hx⟩
theorem zEf (r:Reg) (A:Option Addr) (n c:Nat) (lens:List Int) (w:World) (hs:r.name.size<=9223372036854775807) (hl:qNc w A n lens) (hn:n<=9223372036854775807) :
 Calls Tryz.prog 182 #[r.val,.slice A n c] w (qNd r lens w):=by
 (have hU:=fun w=>zDs r w hs);have hlen:=hl.len
 cases hu:r.usable
 . have HP:Hid (r.place lens=1):=by show r.place lens=1;unfold Reg.place;rw [if_pos hu]
   have HU:=gH hU;have Hu:=gH hu;clear hU hu hlen hl;obtain ⟨nm,top,hgt,lft,wid,al,bot⟩:=r;unfold Reg.val at HU ⊢;dsimp only at HU ⊢;go_enter Tryz.func182,Tryz.ntmps182;go_wp2_with fail;refine (HU.out _).mono ?_;rintro e w1 ⟨rfl,hx1⟩;rw [Hu.out];go_wp2_with fail;go_ret2;exact qDe HP.out (by decide) rfl (((Ext.refl w).alloc _).trans hx1)
 . have hb:=qTm hu
   obtain ⟨⟨ht0,ht1⟩,⟨hh0,hh1⟩,⟨hl0,hl1⟩,⟨hw0,hw1⟩⟩:=hb
   by_cases hgt9:r.height<n
   . have HP:Hid (r.place lens=9):=by show r.place lens=9;unfold Reg.place;rw [if_neg (by rw [hu];simp),if_pos (by rw [hlen];exact hgt9)]
     have HU:=gH hU;have Hu:=gH hu;clear hU hu hlen hl;obtain ⟨nm,top,hgt,lft,wid,al,bot⟩:=r;unfold Reg.val at HU ⊢;dsimp only at *;go_enter Tryz.func182,Tryz.ntmps182;go_wp2_with fail;refine (HU.out _).mono ?_;rintro e w1 ⟨rfl,hx1⟩;rw [Hu.out];have hc:=hx1.bcell.1 w.heap.size;simp at hc;go_wp2_with fail;go_ret2;exact qDe HP.out (by decide) rfl (((Ext.refl w).alloc _).trans hx1)
   . have hnh:(n:Int)<=r.height:=by omega
     (have hn15:n<=15:=by omega);(have HP:Hid (r.place lens=r.lensErr lens):=by show r.place lens=_;unfold Reg.place;rw [if_neg (by rw [hu];simp),if_neg (by rw [hlen];omega)]);have HLn:=gH hlen;have HL:=gH hl;have HU:=gH hU;have Hu:=gH hu;clear hU hu hlen hl hgt9;obtain ⟨i0,hi0,hz0,hz1,hz2⟩:=info_parts qFo;obtain ⟨nm,top,hgt,lft,wid,al,bot⟩:=r;unfold Reg.val at HU ⊢;dsimp only at *
     cases bot
     . go_enter Tryz.func182,Tryz.ntmps182
       go_wp2_with fail;refine (HU.out _).mono ?_;rintro e w1 ⟨rfl,hx1⟩;rw [Hu.out];have hc:=hx1.bcell.1 w.heap.size;simp at hc;go_wp2_with fail;clear hc
       go_loopw [7,34] (fun v i wr=>qUe w #[.string nm,.int .i64 top,.int .i64 hgt,.int .i64 lft,.int .i64 wid,.int .u8 al,.bool false] ⟨nm,top,hgt,lft,wid,al,false⟩ top n lens v i wr) (fun _ i _=>n-(intOf i).toNat)
       case atStart=>exact ⟨0,Nat.zero_le _,rfl,hx1,rfl,⟨by simp [Reg.spots],.inl ⟨rfl,rfl⟩⟩⟩
       case round =>
        obtain ⟨k,hk,rfl,hx,hp,hown⟩:=hrel;have HPr:=gH hp;clear hp;have hB:=gH (Blk.ext (Blk.new w _ _) hx);have hxw:Ext w wr:=((Ext.refl w).alloc _).trans hx;(have hc:=fun o=>hB.out.cell o);have hsz:w.heap.size<wr.heap.size:=hB.out.lt;(have hne:w.heap.size≠wr.heap.size:=by omega)
        by_cases hlt:k<n
        . obtain ⟨b,off,x,rfl,hxx,hcell⟩:=(HL.out.ext hxw).cell hlt
          have HX:=gH hxx;have HE:=gH (qLy ⟨nm,top,hgt,lft,wid,al,false⟩ lens k x hxx);have HT:=gH (take_snoc' lens k x hxx);(have hkl:Hid ((lens.take k).length=k):=by show (lens.take k).length=k;rw [List.length_take,HLn.out];omega);clear hxx
          by_cases hneg:x<0
          . go_wp2_with fail
            go_ret2;exact qDe (k:=2) (by rw [HP.out,HPr.out,HE.out,if_pos (by omega)]) (by decide) rfl hxw
          . by_cases hwide:wid<x
            . go_wp2_with fail
              go_ret2;exact qDe (k:=11) (by rw [HP.out,HPr.out,HE.out,if_neg (by omega),if_pos (by omega)]) (by decide) rfl hxw
            . have HS:=gH (qLp ⟨nm,top,hgt,lft,wid,al,false⟩ top (lens.take k) 0 x)
              have hE2:Hid (Reg.lensErr ⟨nm,top,hgt,lft,wid,al,false⟩ lens=Reg.lensErr ⟨nm,top,hgt,lft,wid,al,false⟩ (lens.drop (k+1))):=by
               show _=_
               rw [HPr.out,HE.out,if_neg (by omega),if_neg (by omega)]
              by_cases ha3:(al == 3)=true
              . have hal:al=3:=by simpa using ha3
                have HSp:Hid (Reg.spot ⟨nm,top,hgt,lft,wid,al,false⟩ top (0+(lens.take k).length) x=⟨top+k,lft+(wid-x),x⟩):=by
                 show _=_
                 rw [hkl.out];unfold Reg.spot;simp [hal]
                clear hal;go_wp2_with (at_builtin;refine qAi rfl (.tmp 75) (.tmp 77) 272 rfl qFo Tryz.underlying272 rfl (by decide) ((hown.alloc _).alloc _) (by exact rfl) (wr.heap.size+1) _ (by exact rfl) (by exact Blk.new' (by simp)) (by exact rfl) (by simp [Value.oneCell']) (by omega) (by simp [maxLen];omega) (by simp;omega) ?_;intro v' w' hown' hgr);refine ⟨⟨k+1,by omega,by go_num,((hx.alloc _).alloc _).grown hgr (fun q hq=>by have:=qBg hown q hq;simpa using this),hE2.out,?_⟩,by simp [intOf];omega⟩;rw [HT.out,HS.out,List.flatMap_append,HSp.out];exact hown'
              . have ha3':(al == 3)=false:=by simpa using ha3
                clear ha3;(have hn3:¬ al=3:=by simpa using ha3')
                by_cases ha2:(al == 2)=true
                . have hal:al=2:=by simpa using ha2
                  have HSp:Hid (Reg.spot ⟨nm,top,hgt,lft,wid,al,false⟩ top (0+(lens.take k).length) x=⟨top+k,lft+(wid-x) / 2,x⟩):=by
                   show _=_
                   rw [hkl.out];unfold Reg.spot;simp [hal]
                  clear hal hn3;go_wp2_with (at_builtin;refine qAi rfl (.tmp 75) (.tmp 77) 272 rfl qFo Tryz.underlying272 rfl (by decide) ((hown.alloc _).alloc _) (by exact rfl) (wr.heap.size+1) _ (by exact rfl) (by exact Blk.new' (by simp)) (by exact rfl) (by simp [Value.oneCell']) (by omega) (by simp [maxLen];omega) (by simp;omega) ?_;intro v' w' hown' hgr);refine ⟨⟨k+1,by omega,by go_num,((hx.alloc _).alloc _).grown hgr (fun q hq=>by have:=qBg hown q hq;simpa using this),hE2.out,?_⟩,by simp [intOf];omega⟩;rw [HT.out,HS.out,List.flatMap_append,HSp.out];exact hown'
                . have ha2':(al == 2)=false:=by simpa using ha2
                  clear ha2;(have hn2:¬ al=2:=by simpa using ha2')
                  have HSp:Hid (Reg.spot ⟨nm,top,hgt,lft,wid,al,false⟩ top (0+(lens.take k).length) x=⟨top+k,lft,x⟩):=by
                   show _=_
                   rw [hkl.out];unfold Reg.spot;simp [hn3,hn2]
                  clear hn2 hn3;go_wp2_with (at_builtin;refine qAi rfl (.tmp 75) (.tmp 77) 272 rfl qFo Tryz.underlying272 rfl (by decide) ((hown.alloc _).alloc _) (by exact rfl) (wr.heap.size+1) _ (by exact rfl) (by exact Blk.new' (by simp)) (by exact rfl) (by simp [Value.oneCell']) (by omega) (by simp [maxLen];omega) (by simp;omega) ?_;intro v' w' hown' hgr);refine ⟨⟨k+1,by omega,by go_num,((hx.alloc _).alloc _).grown hgr (fun q hq=>by have:=qBg hown q hq;simpa using this),hE2.out,?_⟩,by simp [intOf];omega⟩;rw [HT.out,HS.out,List.flatMap_append,HSp.out];exact hown'
        . have hkn:k=n:=by omega
          subst hkn;have HD:Hid (lens.drop k=[]):=List.drop_eq_nil_of_le (by rw [HLn.out];omega);have HTk:Hid (lens.take k=lens):=List.take_of_length_le (by rw [HLn.out];omega);have HO:=gH hown;clear hown;go_wp2_with fail;go_ret2;exact qMa (by rw [HP.out,HPr.out,HD.out];rfl) (by rw [HLn.out];rfl) (HTk.out ▸ HO.out) (by rw [HLn.out]) hxw
     . go_enter Tryz.func182,Tryz.ntmps182
       go_wp2_with fail;refine (HU.out _).mono ?_;rintro e w1 ⟨rfl,hx1⟩;rw [Hu.out];have hc:=hx1.bcell.1 w.heap.size;simp at hc;go_wp2_with fail;clear hc
       go_loopw [7,34] (fun v i wr=>qUe w #[.string nm,.int .i64 top,.int .i64 hgt,.int .i64 lft,.int .i64 wid,.int .u8 al,.bool true] ⟨nm,top,hgt,lft,wid,al,true⟩ (top+(hgt-n)) n lens v i wr) (fun _ i _=>n-(intOf i).toNat)
       case atStart=>exact ⟨0,Nat.zero_le _,rfl,hx1,rfl,⟨by simp [Reg.spots],.inl ⟨rfl,rfl⟩⟩⟩
       case round =>
        obtain ⟨k,hk,rfl,hx,hp,hown⟩:=hrel;have HPr:=gH hp;clear hp;have hB:=gH (Blk.ext (Blk.new w _ _) hx);have hxw:Ext w wr:=((Ext.refl w).alloc _).trans hx;(have hc:=fun o=>hB.out.cell o);have hsz:w.heap.size<wr.heap.size:=hB.out.lt;(have hne:w.heap.size≠wr.heap.size:=by omega)
        by_cases hlt:k<n
        . obtain ⟨b,off,x,rfl,hxx,hcell⟩:=(HL.out.ext hxw).cell hlt
          have HX:=gH hxx;have HE:=gH (qLy ⟨nm,top,hgt,lft,wid,al,true⟩ lens k x hxx);have HT:=gH (take_snoc' lens k x hxx);(have hkl:Hid ((lens.take k).length=k):=by show (lens.take k).length=k;rw [List.length_take,HLn.out];omega);clear hxx
          by_cases hneg:x<0
          . go_wp2_with fail
            go_ret2;exact qDe (k:=2) (by rw [HP.out,HPr.out,HE.out,if_pos (by omega)]) (by decide) rfl hxw
          . by_cases hwide:wid<x
            . go_wp2_with fail
              go_ret2;exact qDe (k:=11) (by rw [HP.out,HPr.out,HE.out,if_neg (by omega),if_pos (by omega)]) (by decide) rfl hxw
            . have HS:=gH (qLp ⟨nm,top,hgt,lft,wid,al,true⟩ (top+(hgt-n)) (lens.take k) 0 x)
              have hE2:Hid (Reg.lensErr ⟨nm,top,hgt,lft,wid,al,true⟩ lens=Reg.lensErr ⟨nm,top,hgt,lft,wid,al,true⟩ (lens.drop (k+1))):=by
               show _=_
               rw [HPr.out,HE.out,if_neg (by omega),if_neg (by omega)]
              by_cases ha3:(al == 3)=true
              . have hal:al=3:=by simpa using ha3
                have HSp:Hid (Reg.spot ⟨nm,top,hgt,lft,wid,al,true⟩ (top+(hgt-n)) (0+(lens.take k).length) x=⟨top+(hgt-n)+k,lft+(wid-x),x⟩):=by
                 show _=_
                 rw [hkl.out];unfold Reg.spot;simp [hal]
                clear hal;go_wp2_with (at_builtin;refine qAi rfl (.tmp 75) (.tmp 77) 272 rfl qFo Tryz.underlying272 rfl (by decide) ((hown.alloc _).alloc _) (by exact rfl) (wr.heap.size+1) _ (by exact rfl) (by exact Blk.new' (by simp)) (by exact rfl) (by simp [Value.oneCell']) (by omega) (by simp [maxLen];omega) (by simp;omega) ?_;intro v' w' hown' hgr);refine ⟨⟨k+1,by omega,by go_num,((hx.alloc _).alloc _).grown hgr (fun q hq=>by have:=qBg hown q hq;simpa using this),hE2.out,?_⟩,by simp [intOf];omega⟩;rw [HT.out,HS.out,List.flatMap_append,HSp.out];exact hown'
              . have ha3':(al == 3)=false:=by simpa using ha3
                clear ha3;(have hn3:¬ al=3:=by simpa using ha3')
                by_cases ha2:(al == 2)=true
                . have hal:al=2:=by simpa using ha2
                  have HSp:Hid (Reg.spot ⟨nm,top,hgt,lft,wid,al,true⟩ (top+(hgt-n)) (0+(lens.take k).length) x=⟨top+(hgt-n)+k,lft+(wid-x) / 2,x⟩):=by
                   show _=_
                   rw [hkl.out];unfold Reg.spot;simp [hal]
                  clear hal hn3;go_wp2_with (at_builtin;refine qAi rfl (.tmp 75) (.tmp 77) 272 rfl qFo Tryz.underlying272 rfl (by decide) ((hown.alloc _).alloc _) (by exact rfl) (wr.heap.size+1) _ (by exact rfl) (by exact Blk.new' (by simp)) (by exact rfl) (by simp [Value.oneCell']) (by omega) (by simp [maxLen];omega) (by simp;omega) ?_;intro v' w' hown' hgr);refine ⟨⟨k+1,by omega,by go_num,((hx.alloc _).alloc _).grown hgr (fun q hq=>by have:=qBg hown q hq;simpa using this),hE2.out,?_⟩,by simp [intOf];omega⟩;rw [HT.out,HS.out,List.flatMap_append,HSp.out];exact hown'
                . have ha2':(al == 2)=false:=by simpa using ha2
                  clear ha2;(have hn2:¬ al=2:=by simpa using ha2')
                  have HSp:Hid (Reg.spot ⟨nm,top,hgt,lft,wid,al,true⟩ (top+(hgt-n)) (0+(lens.take k).length) x=⟨top+(hgt-n)+k,lft,x⟩):=by
                   show _=_
                   rw [hkl.out];unfold Reg.spot;simp [hn3,hn2]
                  clear hn2 hn3;go_wp2_with (at_builtin;refine qAi rfl (.tmp 75) (.tmp 77) 272 rfl qFo Tryz.underlying272 rfl (by decide) ((hown.alloc _).alloc _) (by exact rfl) (wr.heap.size+1) _ (by exact rfl) (by exact Blk.new' (by simp)) (by exact rfl) (by simp [Value.oneCell']) (by omega) (by simp [maxLen];omega) (by simp;omega) ?_;intro v' w' hown' hgr);refine ⟨⟨k+1,by omega,by go_num,((hx.alloc _).alloc _).grown hgr (fun q hq=>by have:=qBg hown q hq;simpa using this),hE2.out,?_⟩,by simp [intOf];omega⟩;rw [HT.out,HS.out,List.flatMap_append,HSp.out];exact hown'
        . have hkn:k=n:=by omega
          subst hkn;have HD:Hid (lens.drop k=[]):=List.drop_eq_nil_of_le (by rw [HLn.out];omega);have HTk:Hid (lens.take k=lens):=List.take_of_length_le (by rw [HLn.out];omega);have HO:=gH hown;clear hown;go_wp2_with fail;go_ret2;exact qMa (by rw [HP.out,HPr.out,HD.out];rfl) (by rw [HLn.out];rfl) (HTk.out ▸ HO.out) (by rw [HLn.out]) hxw
def qFw (w:World) (A:Option Addr) (n:Nat) (l:List Reg):Prop:=Sl w 7 RegC A n l
theorem qFw.ext {w w1:World} {A:Option Addr} {n:Nat} {l:List Reg} (h:qFw w A n l) (k:Ext w w1):qFw w1 A n l:=Sl.ext RegC.stays h k
def qJl (l:List Reg) (nm:ByteArray):Option Reg:=if nm.toList=[] then some Reg.default else l.find? (fun r=>r.name.toList == nm.toList)
def zOs:Array Value:=#[.string ⟨#[]⟩,.int .i64 0,.int .i64 0,.int .i64 0,.int .i64 0,.int .u8 0,.bool false]
def zMw (w:World) (A:Option Addr) (n:Nat) (l:List Reg) (nm:ByteArray) (i:Value) (wr:World):Prop :=
 ∃ k:Nat,k<=n/\i = .int .i64 k/\Ext (w.alloc (.cells zOs 45)) wr/\l.find? (fun r=>r.name.toList == nm.toList)=(l.drop k).find? (fun r=>r.name.toList == nm.toList)
theorem qKk:(Tryz.prog.info? 45).map (·.size)=some 7:=by kernel_rfl
theorem qSm {w':World} {g:Nat} {r:Reg} {b:Bool} {tmps:Array Value} (hB:Blk w' g 45 #[.string r.name,.int .i64 r.top,.int .i64 r.height,.int .i64 r.left,.int .i64 r.width,.int .u8 r.align,.bool r.bottom])
 (h4:tmps.getD 4 undef = .pointer (some ⟨g,0,none⟩)) (h5:tmps.getD 5 undef = .bool b):(results Tryz.f179 tmps).run Tryz.prog w' = .ok (.tuple #[r.val,.bool b]) w':=by
 rw [qAq (P:=Tryz.prog) Tryz.results179 h4 hB Tryz.underlying45 rfl qKk,h5];rfl
theorem zJd (A:Option Addr) (n c:Nat) (l:List Reg) (nm:ByteArray) (w:World) (hl:qFw w A n l) (hn:n<=9223372036854775807) :
 Calls Tryz.prog 179 #[.slice A n c,.string nm] w fun e w'=>e = .returned (.tuple #[((qJl l nm).getD Reg.zero).val,.bool (qJl l nm).isSome])/\Ext w w':=by
 by_cases h0:nm.toList=[]
 . have HF:Hid (qJl l nm=some Reg.default):=by show qJl l nm=_;unfold qJl;rw [if_pos h0]
   (have h0':nm.toList.isEmpty=true:=by rw [h0];rfl);clear h0;go_enter Tryz.func179,Tryz.ntmps179;go_wp2_with fail;refine (qJi _).mono ?_;rintro e w1 ⟨rfl,hx1⟩;unfold Reg.val Reg.default;dsimp only;have hB:=gH (Blk.ext (Blk.new w _ _) hx1);go_wp2_with (refine qAc rfl 45 (.tmp 4) (.tmp 10) rfl w.heap.size 45 _ _ (by exact rfl) (by exact rfl) hB.out (by exact rfl) (by exact qKk) (by simp [Value.oneCell']) ?_);refine bodyPost_ret (v:=.tuple #[Reg.default.val,.bool true]) ?_ rfl ⟨?_,?_⟩
   . exact qSm (r:=Reg.default) (hB.out.put _) rfl rfl
   . rw [HF.out];rfl
   . exact (((Ext.refl w).alloc _).trans hx1).put (Nat.le_refl _) _ _
 . have HF:Hid (qJl l nm=l.find? (fun r=>r.name.toList == nm.toList)):=by show qJl l nm=_;unfold qJl;rw [if_neg h0]
   have h0':nm.toList.isEmpty=false:=by cases h:nm.toList with
    | nil=>exact absurd h h0
    | cons a b=>rfl
   clear h0;have HL:=gH hl;clear hl;go_enter Tryz.func179,Tryz.ntmps179;go_wp2_with fail
   go_loopw [13] (fun i wr=>zMw w A n l nm i wr) (fun i _=>n-(intOf i).toNat)
   case atStart=>exact ⟨0,Nat.zero_le _,rfl,Ext.refl _,rfl⟩
   case round =>
    obtain ⟨k,hk,rfl,hx,hp⟩:=hrel;have HP:=gH hp;clear hp;have hB:=gH (Blk.ext (Blk.new w _ _) hx);have hxw:Ext w wr:=((Ext.refl w).alloc _).trans hx
    by_cases hlt:k<n
    . obtain ⟨b,off,r,rfl,hr,hC⟩:=(HL.out.ext hxw).at_ hlt
      have HR:=gH hr;clear hr;obtain ⟨c0,c1,c2,c3,c4,c5,c6⟩:=hC
      have hdrop:Hid (l.drop k=r :: l.drop (k+1)):=by
       show l.drop k=_
       have hkl:=(List.getElem?_eq_some_iff.1 HR.out).1;rw [List.drop_eq_getElem_cons hkl]
       congr 1
       exact (List.getElem?_eq_some_iff.1 HR.out).2
      by_cases hq:(r.name.toList == nm.toList)=true
      . go_wp2_with (refine qAc rfl 45 (.tmp 4) (.tmp 21) rfl w.heap.size 45 _ _ (by exact rfl) (by exact rfl) (hB.out.alloc _) (by exact rfl) (by exact qKk) (by simp [Value.oneCell']) ?_)
        refine bodyPost_ret (v:=.tuple #[r.val,.bool true]) ?_ rfl ⟨?_,?_⟩
        . exact qSm (r:=r) ((hB.out.alloc _).put _) rfl rfl
        . rw [HF.out,HP.out,hdrop.out,List.find?_cons,hq];rfl
        . exact (hxw.alloc _).put (Nat.le_refl _) _ _
      . have hq':(r.name.toList == nm.toList)=false:=by simpa using hq
        clear hq;go_wp2_with fail;refine ⟨⟨k+1,by omega,by go_num,hx.alloc _,?_⟩,by simp [intOf];omega⟩;rw [HP.out,hdrop.out,List.find?_cons,hq']
    . have hend:Hid (l.drop k=[]):=List.drop_eq_nil_of_le (by rw [HL.out.len];omega)
      go_wp2_with (refine qAc rfl 45 (.tmp 4) (.tmp 23) rfl w.heap.size 45 _ _ (by exact rfl) (by exact rfl) hB.out (by exact rfl) (by exact qKk) (by simp [Value.oneCell']) ?_);refine bodyPost_ret (v:=.tuple #[Reg.zero.val,.bool false]) ?_ rfl ⟨?_,?_⟩
      . exact qSm (r:=Reg.zero) (hB.out.put _) rfl rfl
      . rw [HF.out,HP.out,hend.out];rfl
      . exact hxw.put (Nat.le_refl _) _ _
end
end Go.Proofs.YtneffpbodfjceaaGreatDoor