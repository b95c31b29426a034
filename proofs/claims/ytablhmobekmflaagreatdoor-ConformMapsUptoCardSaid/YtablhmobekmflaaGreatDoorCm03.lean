/- Texts laid together. -/
import Derived.Test.YtablhmobekmflaaGreatDoorCm02
import Derived.Test.YtablhmobekmflaaGreatDoorCm01
set_option linter.unusedVariables false
set_option linter.unusedSimpArgs false
set_option maxRecDepth 100000
namespace Go.Proofs.YtablhmobekmflaaGreatDoor
section
open Go.RowKit
def qDj (p:Option Run) (x:Run):Int :=
 if vld x.text=false then 10 else if x.text.toList=[] then 4 else if ¬ x.color≤6 then 12 else if vld x.ruby=false then 10 else if (p.any fun q=>qDk q x)=true then 8 else 0
def qCm:Option Run→Row→Int
 | _,[]=>0
 | p,x :: l=>if qDj p x=0 then qCm (some x) l else qDj p x
def qCl (l:Row):Int:=if 16<l.length then 9 else qCm none l
theorem runErr_text {p:Option Run} {x:Run} (h:vld x.text=false):qDj p x=10:=by unfold qDj;rw [if_pos h]
theorem qMx {p:Option Run} {x:Run} (h:vld x.text=true) (he:x.text.toList.isEmpty=true):qDj p x=4:=by
 unfold qDj;rw [if_neg (by rw [h];simp),if_pos (by simpa using he)]
theorem qNi {p:Option Run} {x:Run} (h:vld x.text=true) (he:x.text.toList.isEmpty=false) (hc:¬ x.color≤6):qDj p x=12:=by
 unfold qDj;rw [if_neg (by rw [h];simp),if_neg (by intro hh;rw [hh] at he;simp at he),if_pos hc]
theorem qOm {p:Option Run} {x:Run} (h:vld x.text=true) (he:x.text.toList.isEmpty=false) (hc:x.color≤6) (hr:vld x.ruby=false):qDj p x=10:=by
 unfold qDj;rw [if_neg (by rw [h];simp),if_neg (by intro hh;rw [hh] at he;simp at he),if_neg (by omega),if_pos hr]
theorem runErr_last {p:Option Run} {x:Run} (h:vld x.text=true) (he:x.text.toList.isEmpty=false) (hc:x.color≤6) (hr:vld x.ruby=true):qDj p x=if (p.any fun q=>qDk q x)=true then 8 else 0:=by
 unfold qDj;rw [if_neg (by rw [h];simp),if_neg (by intro hh;rw [hh] at he;simp at he),if_neg (by omega),if_neg (by rw [hr];simp)]
def ahead (l:Row) (k:Nat):Option Run:=if k=0 then none else l[k-1]?
theorem ahead_succ (l:Row) (k:Nat) (r:Run) (h:l[k]?=some r):ahead l (k+1)=some r:=by unfold ahead;rw [if_neg (by omega)];simpa using h
def CheckRel (w:World) (bx:Array Value) (n:Nat) (l:Row) (i:Value) (wr:World):Prop :=
 ∃ k:Nat,k≤n∧i = .int .i64 k∧Ext (w.alloc (.cells bx 174)) wr∧qCm none l=qCm (ahead l k) (l.drop k)
theorem qOp (s:ByteArray):s.toList.isEmpty=true↔s.toList=[]:=by simp
set_option maxHeartbeats 2000000 in
theorem SCheck_any (A:Option Addr) (n c:Nat) (l:Row) (w:World) (hE:Env w) (hl:qCt w A n l) (hb:∀ r∈l,r.text.size≤4611686018427387904∧r.ruby.size≤4611686018427387904) (hn:n≤4611686018427387904) :
 Calls Tryz.prog 193 #[.agg #[.slice A n c]] w fun e w'=>e = .returned (.int .i64 (qCl l))∧Ext w w':=by
 have HL:=gH hl;have HLn:=gH hl.len;have HEn:=gH hE;have HBd:=gH hb;clear hl hE hb
 by_cases h16:16<n
 · have HF:Hid (qCl l=9):=by show qCl l=9;unfold qCl;rw [if_pos (by rw [HLn.out];exact h16)]
   (have h16':(16:Int)<(n:Int):=by omega);go_enter Tryz.func193,Tryz.ntmps193;go_wp2_with fail;go_ret;exact ⟨qAa HF.out.symm,(Ext.refl w).alloc _⟩
 · have HF:Hid (qCl l=qCm none l):=by show qCl l=_;unfold qCl;rw [if_neg (by rw [HLn.out];exact h16)]
   (have h16':(n:Int)≤16:=by omega);clear h16;go_enter Tryz.func193,Tryz.ntmps193;go_wp2_with fail
   go_loopw [12] (fun i wr=>CheckRel w #[.slice A n c] n l i wr) (fun i _=>n-(intOf i).toNat)
   case atStart=>exact ⟨0,Nat.zero_le _,rfl,Ext.refl _,rfl⟩
   case round =>
    obtain ⟨k,hk,rfl,hx,hp⟩:=hrel;have HP:=gH hp;clear hp;have hxw:Ext w wr:=((Ext.refl w).alloc _).trans hx
    by_cases hlt:k<n
    · have HB0:=gH (Blk.ext (Blk.new w _ _) hx)
      obtain ⟨b,off,r,rfl,hr,hC⟩:=(HL.out.ext hxw).at_ hlt;obtain ⟨c0,c1,c2,c3,c4⟩:=hC;have HD:=gH (qDe l k r hr);have HA:=gH (ahead_succ l k r hr);have hbd:=HBd.out r (List.mem_of_getElem? hr);obtain ⟨hb1,hb2⟩:=hbd;have HR:=gH hr;clear hr
      have HPs:Hid (qCm none l=if qDj (ahead l k) r=0 then qCm (ahead l (k+1)) (l.drop (k+1)) else qDj (ahead l k) r):=by
       show _=_
       rw [HP.out,HD.out,HA.out];rfl
      clear HP HD HA;have hblt:w.heap.size<wr.heap.size:=HB0.out.lt;(have hbne:w.heap.size≠wr.heap.size:=by omega);go_wp2_with fail;refine (qGd r.text _ (HEn.out.ext (hxw.alloc _)) (by omega)).mono ?_;rintro e w2 ⟨rfl,hx2⟩;have HB2:=gH (Blk.ext (Blk.new wr _ _) hx2);have hxw2:Ext w w2:=(hxw.alloc _).trans hx2
      cases hv:vld r.text
      · have HV:=gH hv
        clear hv;go_wp2_with fail;go_ret;refine ⟨qAa ?_,hxw2⟩;rw [HF.out,HPs.out,runErr_text HV.out];rfl
      · have HV:=gH hv
        clear hv;(have hc2:=fun o=>HB2.out.cell o)
        cases he:r.text.toList.isEmpty
        · by_cases hcol:r.color≤6
          · go_wp2_with fail
            refine (SValid_any _ _ _ _).mono ?_;rintro e w3 ⟨rfl,hx3⟩;have HB3:=gH (HB2.out.ext hx3);clear hc2;(have hc3:=fun o=>HB3.out.cell o);go_wp2_with fail;refine (qGd r.ruby _ (HEn.out.ext (hxw2.trans hx3)) (by omega)).mono ?_;rintro e w4 ⟨rfl,hx4⟩;have HB4:=gH (HB3.out.ext hx4);have hxw4:Ext w w4:=(hxw2.trans hx3).trans hx4;clear hc3
            cases hvr:vld r.ruby
            · have HVr:=gH hvr
              clear hvr;go_wp2_with fail;go_ret;refine ⟨qAa ?_,hxw4⟩;rw [HF.out,HPs.out,qOm HV.out he hcol HVr.out];rfl
            · have HVr:=gH hvr
              clear hvr;have HE2:=gH (runErr_last (p:=ahead l k) HV.out he hcol HVr.out)
              by_cases hk0:k=0
              · subst hk0
                (have HAl:Hid (qDj (ahead l 0) r=0):=by show _=_;rw [HE2.out];rfl);(have HPt:Hid (qCm none l=qCm (ahead l (0+1)) (l.drop (0+1))):=by show _=_;rw [HPs.out,if_pos HAl.out]);go_wp2_with fail;go_quiet (fail);go_wp2_with fail;exact ⟨⟨0+1,by omega,by go_num,((hx.alloc _).trans ((hx2.trans hx3).trans hx4)).drewN _,HPt.out⟩,by simp [intOf];omega⟩
              · obtain ⟨m,rfl⟩:∃ m,k=m+1:=⟨k-1,by omega⟩
                obtain ⟨q,hq⟩:∃ q,l[m]?=some q:=by
                 (have:m<l.length:=by rw [HLn.out];omega);exact ⟨_,List.getElem?_eq_getElem this⟩
                (have HAh:Hid (ahead l (m+1)=some q):=by show _=_;unfold ahead;rw [if_neg hk0];exact hq);obtain ⟨b',off',q',hA',hq',hC'⟩:=(HL.out.ext hxw4).at_ (i:=m) (by omega)
                cases hA'
                rw [hq] at hq'
                cases hq'
                obtain ⟨d0,d1,d2,d3,d4⟩:=hC';have HQ:=gH hq;clear hq hk0;(have hm0:(0:Int)≤(m:Int):=by omega);(have hm1:(m:Int)<(n:Int):=by omega);(have hm2:(0:Int)<(m:Int)+1:=by omega);(have hm3:m<n:=by omega);have e1:IntKind.i64.wrap (m:Int)=(m:Int):=IntWalk.i64_in _ (by omega);(have hc4:=fun o=>HB4.out.cell o);have HB04:=gH (HB0.out.ext (((Ext.refl wr).alloc _).trans ((hx2.trans hx3).trans hx4)));(have hc0:=fun o=>HB04.out.cell o);have HAL:=gH (fun w=>alike_any q r w);unfold Run.val at HAL;have z0:w4.cell? ⟨w.heap.size,0,none⟩=some (.slice (some ⟨b,off,none⟩) n c):=hc0 0;have z1:w4.cell? ⟨wr.heap.size,0,none⟩=some (.string r.text):=hc4 0;have z2:w4.cell? ⟨wr.heap.size,1,none⟩=some (.int .u8 r.color):=hc4 1;have z3:w4.cell? ⟨wr.heap.size,2,none⟩=some (.bool r.italic):=hc4 2;have z4:w4.cell? ⟨wr.heap.size,3,none⟩=some (.bool r.under):=hc4 3;have z5:w4.cell? ⟨wr.heap.size,4,none⟩=some (.string r.ruby):=hc4 4;clear hc0 hc4 c0 c1 c2 c3 c4;go_wp2_with fail
                go_region_held3 (fun w'=>w'.cell? ⟨w.heap.size,0,none⟩=some (.slice (some ⟨b,off,none⟩) n c)∧w'.cell? ⟨wr.heap.size,0,none⟩=some (.string r.text)∧w'.cell? ⟨wr.heap.size,1,none⟩=some (.int .u8 r.color)∧w'.cell? ⟨wr.heap.size,2,none⟩=some (.bool r.italic)∧w'.cell? ⟨wr.heap.size,3,none⟩=some (.bool r.under)∧w'.cell? ⟨wr.heap.size,4,none⟩=some (.string r.ruby) ∧
                 w'.cell? ⟨b,off+m*5,none⟩=some (.string q.text)∧w'.cell? ⟨b,off+m*5+1,none⟩=some (.int .u8 q.color)∧w'.cell? ⟨b,off+m*5+2,none⟩=some (.bool q.italic)∧w'.cell? ⟨b,off+m*5+3,none⟩=some (.bool q.under)∧w'.cell? ⟨b,off+m*5+4,none⟩=some (.string q.ruby))
                 (first | go_keep | (go_split_ands;refine ⟨?_,?_,?_,?_,?_,?_,?_,?_,?_,?_,?_⟩<;>(apply hx5.cell;assumption)))
                 (first | (go_at_call 239;refine (HAL.out _).mono ?_;rintro e w5 ⟨rfl,hx5⟩))
                have hxa:Ext (w.alloc (.cells #[.slice (some ⟨b,off,none⟩) n c] 174)) w5:=((((hx.alloc _).trans ((hx2.trans hx3).trans hx4)).drew)).trans hx5;have hxw5:Ext w w5:=((Ext.refl w).alloc _).trans hxa;clear e1
                cases hal:qDk q r
                · have HAl:Hid (qDj (ahead l (m+1)) r=0):=by show _=_;rw [HE2.out,HAh.out,Option.any_some,hal];rfl
                  (have HPt:Hid (qCm none l=qCm (ahead l (m+1+1)) (l.drop (m+1+1))):=by show _=_;rw [HPs.out,if_pos HAl.out]);clear hal;go_wp2_with fail;exact ⟨⟨m+1+1,by omega,by go_num,hxa,HPt.out⟩,by simp [intOf];omega⟩
                · have HAl:Hid (qDj (ahead l (m+1)) r=8):=by show _=_;rw [HE2.out,HAh.out,Option.any_some,hal];rfl
                  clear hal;go_wp2_with fail;go_ret;exact ⟨qAa (by rw [HF.out,HPs.out,HAl.out];rfl),hxw5⟩
          · have HC:=gH hcol
            have hd:decide (r.color≤6)=false:=decide_eq_false hcol;clear hcol;go_wp2_with fail;refine (SValid_any _ _ _ _).mono ?_;rintro e w3 ⟨rfl,hx3⟩;go_wp2_with fail;go_ret;refine ⟨qAa ?_,hxw2.trans hx3⟩;rw [HF.out,HPs.out,qNi HV.out he (by have:=HC.out;omega)];rfl
        · go_wp2_with fail
          go_ret;refine ⟨qAa ?_,hxw2⟩;rw [HF.out,HPs.out,qMx HV.out he];rfl
    · have HD:Hid (l.drop k=[]):=List.drop_eq_nil_of_le (by rw [HLn.out];omega)
      go_wp2_with fail;go_ret;exact ⟨qAa (by rw [HF.out,HP.out,HD.out];rfl),hxw⟩
end
section
open Go.RowKit
def badS (s:ByteArray):Bool:=s.toList.isEmpty || decide (s.data.toList.head?=some 32) || decide (s.data.toList.getLast?=some 32) || Lib.contains s.data.toList [32,32]
def qFy (l:Row):ByteArray:=⟨(qDt l).toArray⟩
def qBp (l:Row):Int:=if qCl l≠0 then qCl l else if badS (qFy l)=true then 4 else if 32<qAq l then 11 else 0
theorem Contains_any (s:ByteArray) (w:World) (hE:Env w) (hs:s.size<4294967281) :
 Calls Tryz.prog 195 #[.string s,.string ⟨#[32,32]⟩] w fun e w'=>e = .returned (.bool (Lib.contains s.data.toList [32,32]))∧w=w':=by
 obtain ⟨m,hm⟩:=hE.2;(exact (Tryz.strings_Contains s ⟨#[32,32]⟩ m w hs hm).mono fun _ _ ⟨a,b⟩=>⟨a,b.symm⟩)
theorem head_eq (s:ByteArray) (h:0<s.size):(s.data.toList.head?=some 32)↔((s[0].toNat:Int) == 32)=true:=by
 have e:=qIp s 0 h;simp only [Nat.zero_add,List.take_zero,List.nil_append] at e
 have hh:s.data.toList.head?=some s[0]:=by
  cases hl:s.data.toList with
  | nil=>rw [hl] at e;simp at e
  | cons a l=>rw [hl] at e;simp at e;simp [e]
 rw [hh]
 constructor
 · intro h1
   have h2:s[0]=32:=Option.some.inj h1;(rw [h2];rfl)
 · intro h1
   have h2:(s[0].toNat:Int)=32:=by simpa using h1
   congr 1
   apply UInt8.toNat_inj.1;(have:s[0].toNat=32:=by omega);(rw [this];rfl)
theorem last_eq (s:ByteArray) (h:0<s.size):(s.data.toList.getLast?=some 32)↔((s[s.size-1].toNat:Int) == 32)=true:=by
 have hh:s.data.toList.getLast?=some s[s.size-1]:=by
  rw [List.getLast?_eq_getElem?];(have hl:s.data.toList.length=s.size:=by simp);rw [hl,List.getElem?_eq_getElem (by rw [hl];omega)];rfl
 rw [hh]
 constructor
 · intro h1
   have h2:s[s.size-1]=32:=Option.some.inj h1;(rw [h2];rfl)
 · intro h1
   have h2:(s[s.size-1].toNat:Int)=32:=by simpa using h1
   congr 1
   apply UInt8.toNat_inj.1;(have:s[s.size-1].toNat=32:=by omega);(rw [this];rfl)
set_option maxHeartbeats 2000000 in
theorem row_any (A:Option Addr) (n c:Nat) (l:Row) (w:World) (hE:Env w) (hl:qCt w A n l) (hb:∀ r∈l,r.text.size≤4611686018427387904∧r.ruby.size≤4611686018427387904) (hn:n≤4611686018427387904) (hbt:qAk l<4294967281) :
 Calls Tryz.prog 130 #[.agg #[.slice A n c]] w fun e w'=>e = .returned (.int .i64 (qBp l))∧Ext w w':=by
 have HL:=gH hl;have HEn:=gH hE;have HBd:=gH hb;clear hl hE hb;(have hsz:(qFy l).size=qAk l:=by rw [← qFu];rfl);have HSz:=gH hsz;clear hsz
 by_cases h1:qCl l=0
 · have HF:Hid (qBp l=if badS (qFy l)=true then 4 else if 32<qAq l then 11 else 0):=by show _=_;unfold qBp;rw [if_neg (by simp [h1])]
   (have h1b:(qCl l != 0)=false:=by simp [h1]);have HR:=gH h1;clear h1;go_enter Tryz.func130,Tryz.ntmps130;go_wp2_with fail;refine (SCheck_any A n c l _ (HEn.out.ext ((Ext.refl w).alloc _)) (HL.out.ext ((Ext.refl w).alloc _)) HBd.out hn).mono ?_;rintro e w1 ⟨rfl,hx1⟩;have HB1:=gH (Blk.ext (Blk.new w _ _) hx1);have hxw1:Ext w w1:=((Ext.refl w).alloc _).trans hx1;have hc1:=HB1.out.cell 0;simp at hc1;go_wp2_with fail;refine (Plain_any A n c l _ (HL.out.ext hxw1) (by omega) hn).mono ?_;rintro e w2 ⟨rfl,hx2⟩;have hxw2:Ext w w2:=hxw1.trans hx2;have HB2:=gH (HB1.out.ext hx2);clear hc1;have hc2:=HB2.out.cell 0;simp at hc2;rw [show (⟨(qDt l).toArray⟩:ByteArray)=qFy l from rfl];generalize hs:qFy l=s at *;have HS:=gH hs;clear hs;(have hs9:s.size<4294967281:=by rw [HSz.out];exact hbt)
   by_cases e0:s.toList.isEmpty=true
   · have HFb:Hid (badS s=true):=by show _=_;unfold badS;rw [e0];rfl
     go_wp2_with fail;go_ret;exact ⟨qAa (by rw [HF.out,if_pos HFb.out]),hxw2⟩
   · have e0':s.toList.isEmpty=false:=by simpa using e0
     have hpos:0<s.size:=by
      rcases Nat.eq_zero_or_pos s.size with h | h
      · exfalso
        apply e0
        have:s.toList=[]:=by
         rw [ByteArray.toList_eq];exact List.eq_nil_of_length_eq_zero (by simpa using h)
        rw [this];rfl
      · exact h
     clear e0
     by_cases e1:((s[0].toNat:Int) == 32)=true
     · have HFb:Hid (badS s=true):=by show _=_;unfold badS;rw [decide_eq_true ((head_eq s hpos).2 e1)];simp
       go_wp2_with fail;go_ret;exact ⟨qAa (by rw [HF.out,if_pos HFb.out]),hxw2⟩
     · have e1':((s[0].toNat:Int) == 32)=false:=by simpa using e1
       have hd1:=gH (decide_eq_false (p:=s.data.toList.head?=some 32) (fun h=>e1 ((head_eq s hpos).1 h)));clear e1;(have hz0:(0:Int)≤(s.size:Int)-1:=by omega);(have hz1:(s.size:Int)-1<(s.size:Int):=by omega)
       by_cases e2:((s[s.size-1].toNat:Int) == 32)=true
       · have HFb:Hid (badS s=true):=by show _=_;unfold badS;rw [decide_eq_true ((last_eq s hpos).2 e2)];simp
         go_wp2_with fail;go_ret;exact ⟨qAa (by rw [HF.out,if_pos HFb.out]),hxw2⟩
       · have e2':((s[s.size-1].toNat:Int) == 32)=false:=by simpa using e2
         have hd2:=gH (decide_eq_false (p:=s.data.toList.getLast?=some 32) (fun h=>e2 ((last_eq s hpos).1 h)));clear e2;(have HFb:Hid (badS s=Lib.contains s.data.toList [32,32]):=by show _=_;unfold badS;rw [e0',hd1.out,hd2.out];simp);go_wp2_with fail;refine (Contains_any s _ (HEn.out.ext hxw2) hs9).mono ?_;rintro e w3 ⟨rfl,rfl⟩
         cases hct:Lib.contains s.data.toList [32,32]
         · have HCt:=gH hct
           clear hct;go_wp2_with fail;refine (SLen_any A n c l _ (HEn.out.ext hxw2) (HL.out.ext hxw2) (by omega) hn).mono ?_;rintro e w4 ⟨rfl,hx4⟩
           by_cases hw:32<qAq l
           · go_wp2_with fail
             go_ret;exact ⟨qAa (by rw [HF.out,HFb.out,HCt.out,if_neg (by simp),if_pos hw]),hxw2.trans hx4⟩
           · go_wp2_with fail
             go_ret;exact ⟨qAa (by rw [HF.out,HFb.out,HCt.out,if_neg (by simp),if_neg (by omega)]),hxw2.trans hx4⟩
         · have HCt:=gH hct
           clear hct;go_wp2_with fail;go_ret;exact ⟨qAa (by rw [HF.out,HFb.out,HCt.out];rfl),hxw2⟩
 · have HF:Hid (qBp l=qCl l):=by show _=_;unfold qBp;rw [if_pos h1]
   (have h1b:(qCl l != 0)=true:=by simp [h1]);clear h1;go_enter Tryz.func130,Tryz.ntmps130;go_wp2_with fail;refine (SCheck_any A n c l _ (HEn.out.ext ((Ext.refl w).alloc _)) (HL.out.ext ((Ext.refl w).alloc _)) HBd.out hn).mono ?_;rintro e w1 ⟨rfl,hx1⟩;go_wp2_with fail;go_ret;exact ⟨qAa HF.out.symm,((Ext.refl w).alloc _).trans hx1⟩
def qFh (i o:Int):Bool:=decide (0≤i∧i<o∧o≤5184000)
set_option maxHeartbeats 400000 in
theorem spans_any (i o:Int) (w:World):Calls Tryz.prog 128 #[.agg #[.int .i64 i,.int .i64 o]] w fun e w'=>e = .returned (.bool (qFh i o))∧Ext w w':=by
 have HX:=gH ((Ext.refl w).alloc (.cells #[.int .i64 i,.int .i64 o] 60))
 by_cases h1:0≤i
 · by_cases h2:i<o
   · go_enter Tryz.func128,Tryz.ntmps128
     go_wp2;go_ret;refine ⟨qAg ?_,HX.out⟩;unfold qFh
     by_cases h3:o≤5184000
     · rw [decide_eq_true h3,decide_eq_true ⟨h1,h2,h3⟩]
     · rw [decide_eq_false h3,decide_eq_false (fun h=>h3 h.2.2)]
   · go_enter Tryz.func128,Tryz.ntmps128
     go_wp2;go_ret;exact ⟨qAg (by unfold qFh;rw [decide_eq_false (by omega)]),HX.out⟩
 · go_enter Tryz.func128,Tryz.ntmps128
   go_wp2;go_ret;exact ⟨qAg (by unfold qFh;rw [decide_eq_false (by omega)]),HX.out⟩
def qIa (k:Int):Bool:=decide (k<1∨4<k)
def kindNames:Array Value:=#[.string ⟨#[68,73,65,76,79,71,85,69]⟩,.string ⟨#[83,79,85,78,68]⟩,.string ⟨#[84,73,84,76,69]⟩,.string ⟨#[77,85,83,73,67]⟩]
theorem kinds_any (w:World):Calls Tryz.prog 192 #[] w fun e w'=>e = .returned (.slice (some ⟨w.heap.size,0,none⟩) 4 4)∧w'=w.alloc (.cells kindNames 9):=by
 go_enter Tryz.func192,Tryz.ntmps192;go_wp2;go_ret;exact ⟨rfl,rfl⟩
def KindPost (k:Int) (w:World) (e:Ending) (w':World):Prop:=∃ s:ByteArray,e = .returned (.string s)∧s.toList.isEmpty=qIa k∧Ext w w'
set_option maxHeartbeats 1000000 in
theorem KindName_any (k:Int) (w:World):Calls Tryz.prog 129 #[.int .u8 k] w (KindPost k w):=by
 by_cases h1:k<1
 · go_enter Tryz.func129,Tryz.ntmps129
   go_wp2_with fail;go_ret;exact ⟨_,rfl,by unfold qIa;rw [decide_eq_true (by omega),ByteArray.toList_eq];rfl,Ext.refl _⟩
 · by_cases h2:4<k
   · go_enter Tryz.func129,Tryz.ntmps129
     go_wp2_with fail;go_ret;exact ⟨_,rfl,by unfold qIa;rw [decide_eq_true (by omega),ByteArray.toList_eq];rfl,Ext.refl _⟩
   · have HN:Hid (qIa k=false):=by show _=_;unfold qIa;rw [decide_eq_false (by omega)]
     have hk:k=1∨k=2∨k=3∨k=4:=by omega
     rcases hk with rfl | rfl | rfl | rfl
     all_goals
      clear h1 h2;go_enter Tryz.func129,Tryz.ntmps129;go_wp2_with fail;refine (kinds_any _).mono ?_;rintro e w1 ⟨rfl,rfl⟩;unfold kindNames;go_wp2_with fail;go_ret;exact ⟨_,rfl,by rw [HN.out,ByteArray.toList_eq];rfl,(Ext.refl w).alloc _⟩
end
section
open Go.RowKit
def Reg.usable (r:Reg):Bool:=decide (r=Reg.default∨r.check=0)
def RegC (w:World) (b o:Nat) (r:Reg):Prop :=
 w.cell? ⟨b,o,none⟩=some (.string r.name)∧w.cell? ⟨b,o+1,none⟩=some (.int .i64 r.top)∧w.cell? ⟨b,o+2,none⟩=some (.int .i64 r.height)∧w.cell? ⟨b,o+3,none⟩=some (.int .i64 r.left) ∧
 w.cell? ⟨b,o+4,none⟩=some (.int .i64 r.width)∧w.cell? ⟨b,o+5,none⟩=some (.int .u8 r.align)∧w.cell? ⟨b,o+6,none⟩=some (.bool r.bottom)
theorem RegC.stays:Stays RegC:=fun _ _ _ _ _ k h=>⟨k.cell h.1,k.cell h.2.1,k.cell h.2.2.1,k.cell h.2.2.2.1,k.cell h.2.2.2.2.1,k.cell h.2.2.2.2.2.1,k.cell h.2.2.2.2.2.2⟩
set_option maxHeartbeats 1000000 in
theorem usable_any (r:Reg) (w:World) (hs:r.name.size≤9223372036854775807):Calls Tryz.prog 197 #[r.val] w fun e w'=>e = .returned (.bool r.usable)∧Ext w w':=by
 have hR:=fun w=>RCheck_any r w hs
 by_cases hd:r=Reg.default
 · have HF:Hid (r.usable=true):=by show r.usable=true;unfold Reg.usable;exact decide_eq_true (.inl hd)
   (have hq:=fun w=>qJy Reg.default w);subst hd;clear hR hs;unfold Reg.val Reg.default at hq ⊢;unfold Reg.default at HF;dsimp only at hq HF ⊢;go_enter Tryz.func197,Tryz.ntmps197;go_wp2_with fail;go_region_with (first | (go_at_call 191;refine (qKb _).mono ?_;rintro e w1 ⟨rfl,hx1⟩;have hx1':=gH hx1;(have hc:=fun o u=>hx1.cell (p:=⟨w.heap.size,o,none⟩) (u:=u));simp at hc;clear hx1;unfold Reg.val Reg.default))
   all_goals go_wp2
   all_goals go_ret
   all_goals exact ⟨by rw [HF.out];rfl,(((Ext.refl w).alloc _).drew).trans hx1'.out⟩
 · obtain ⟨nm,top,hgt,lft,wid,al,bot⟩:=r
   (have hq:=fun w=>qLw hd w);have HR:=gH hR
   have HF:Hid (Reg.usable ⟨nm,top,hgt,lft,wid,al,bot⟩=decide (Reg.check ⟨nm,top,hgt,lft,wid,al,bot⟩=0)):=by
    show Reg.usable _=_
    unfold Reg.usable
    congr 1
    simp [hd]
   clear hR hd;unfold Reg.val at HR ⊢;unfold Reg.val Reg.default at hq;dsimp only at HR hq ⊢;go_enter Tryz.func197,Tryz.ntmps197;go_wp2_with fail
   go_region_held3 (fun w'=>w'.cell? ⟨w.heap.size,0,none⟩=some (.string nm)∧w'.cell? ⟨w.heap.size,1,none⟩=some (.int .i64 top)∧w'.cell? ⟨w.heap.size,2,none⟩=some (.int .i64 hgt)∧w'.cell? ⟨w.heap.size,3,none⟩=some (.int .i64 lft)∧w'.cell? ⟨w.heap.size,4,none⟩=some (.int .i64 wid)∧w'.cell? ⟨w.heap.size,5,none⟩=some (.int .u8 al)∧w'.cell? ⟨w.heap.size,6,none⟩=some (.bool bot))
    (first | go_keep | (go_split_ands;refine ⟨?_,?_,?_,?_,?_,?_,?_⟩<;>(apply hx2.cell;assumption)) | (go_split_ands;refine ⟨?_,?_,?_,?_,?_,?_,?_⟩<;>(apply hx1.cell;assumption)))
    (first | (go_at_call 191;refine (qKb _).mono ?_;rintro e w1 ⟨rfl,hx1⟩;unfold Reg.val Reg.default) | (go_at_call 126;refine (HR.out _).mono ?_;rintro e w2 ⟨rfl,hx2⟩))
   go_wp2
   all_goals go_ret
   all_goals exact ⟨by rw [HF.out];exact qAg rfl,((((Ext.refl w).alloc _).drew).trans hx1).trans hx2⟩
end
section
open Go.RowKit
def qMw (w:World) (A:Option Addr) (n:Nat) (l:List Int):Prop:=Sl w 1 (Cells fun x=>[.int .i64 x]) A n l
theorem qMw.ext {w w1:World} {A:Option Addr} {n:Nat} {l:List Int} (h:qMw w A n l) (k:Ext w w1):qMw w1 A n l:=Sl.ext (Cells.stays _) h k
theorem qMw.cell {w:World} {A:Option Addr} {n:Nat} {l:List Int} (h:qMw w A n l) {i:Nat} (hi:i<n):∃ b off x,A=some ⟨b,off,none⟩∧l[i]?=some x∧w.cell? ⟨b,off+i,none⟩=some (.int .i64 x):=by
 obtain ⟨b,off,x,hA,hx,hc⟩:=h.at_ hi;exact ⟨b,off,x,hA,hx,by simpa using hc 0 (.int .i64 x) rfl⟩
structure Spot where
 row:Int
 col:Int
 len:Int
 deriving DecidableEq
def Spot.cells (s:Spot):List Value:=[.int .i64 s.row,.int .i64 s.col,.int .i64 s.len]
def SpotsAt (w:World) (A:Option Addr) (n:Nat) (l:List Spot):Prop:=Sl w 3 (Cells Spot.cells) A n l
def Reg.spot (r:Reg) (top:Int) (i:Nat) (n:Int):Spot:=⟨top+i,if r.align=3 then r.left+(r.width-n) else if r.align=2 then r.left+(r.width-n) / 2 else r.left,n⟩
def Reg.spots (r:Reg) (top:Int):Nat→List Int→List Spot
 | _,[]=>[]
 | i,n :: l=>r.spot top i n :: r.spots top (i+1) l
def Reg.lensErr (r:Reg):List Int→Int
 | []=>0
 | n :: l=>if n<0 then 2 else if r.width<n then 11 else r.lensErr l
def Reg.top' (r:Reg) (n:Nat):Int:=if r.bottom then r.top+(r.height-n) else r.top
def Reg.place (r:Reg) (lens:List Int):Int:=if r.usable=false then 1 else if r.height<lens.length then 9 else r.lensErr lens
theorem qHa (r:Reg) (top:Int):∀ (l:List Int) (i:Nat) (n:Int),r.spots top i (l++[n])=r.spots top i l++[r.spot top (i+l.length) n]
 | [],i,n=>by simp [Reg.spots]
 | a :: l,i,n=>by
  simp only [List.cons_append,Reg.spots,qHa r top l (i+1) n,List.length_cons];rw [show i+1+l.length=i+(l.length+1) by omega]
theorem spots_len (r:Reg) (top:Int):∀ (l:List Int) (i:Nat),(r.spots top i l).length=l.length
 | [],i=>rfl
 | a :: l,i=>by simp [Reg.spots,spots_len r top l (i+1)]
theorem qGp (r:Reg) (l:List Int) (k:Nat) (x:Int) (hx:l[k]?=some x):r.lensErr (l.drop k)=if x<0 then 2 else if r.width<x then 11 else r.lensErr (l.drop (k+1)):=by
 have hkl:=(List.getElem?_eq_some_iff.1 hx).1;rw [List.drop_eq_getElem_cons hkl,(List.getElem?_eq_some_iff.1 hx).2];rfl
theorem qLd {r:Reg} (h:r.usable=true):(0≤r.top∧r.top≤14)∧(1≤r.height∧r.height≤15)∧(0≤r.left∧r.left≤31)∧(1≤r.width∧r.width≤32):=by
 unfold Reg.usable at h
 rcases of_decide_eq_true h with h | h
 · subst h;decide
 · unfold Reg.check at h
   split at h
   · omega
   · split at h
     · omega
     · rename_i h1 h2
       (have h2':r.inGrid:=by simpa using h2);unfold Reg.inGrid at h2';omega
def qKh (w:World) (bx:Array Value) (r:Reg) (top:Int) (n:Nat) (lens:List Int) (v i:Value) (wr:World):Prop :=
 ∃ k:Nat,k≤n∧i = .int .i64 k∧Ext (w.alloc (.cells bx 105)) wr∧r.lensErr lens=r.lensErr (lens.drop k) ∧
  wr.ownsRow (w.heap.size+1) 248 3 v k ((r.spots top 0 (lens.take k)).flatMap Spot.cells)
theorem qCp:(Tryz.prog.info? 248).map (fun i=>(i.zero,i.size,i.bytes))=some (some (.agg #[.int .i64 0,.int .i64 0,.int .i64 0]),3,24):=by kernel_rfl
def qKg (r:Reg) (lens:List Int) (w:World) (e:Ending) (w':World):Prop :=
 ∃ A n c,e = .returned (.tuple #[.slice A n c,.int .i64 (r.place lens)])∧SpotsAt w' A n (if r.place lens=0 then r.spots (r.top' lens.length) 0 lens else [])∧n≤c∧Ext w w'
theorem qBi {r:Reg} {lens:List Int} {w w':World} {e:Ending} {k:Int} (hk:r.place lens=k) (h0:k≠0) (he:e = .returned (.tuple #[.slice none 0 0,.int .i64 k])) (hx:Ext w w'):qKg r lens w e w' :=
 ⟨none,0,0,by rw [hk];exact he,by rw [if_neg (by rw [hk];exact h0)];exact Sl.nil,Nat.le_refl _,hx⟩
theorem qGs {r:Reg} {lens:List Int} {w w':World} {v:Value} {n base:Nat} {top:Int} (h0:r.place lens=0) (ht:r.top' lens.length=top)
 (hown:w'.ownsRow base 248 3 v n ((r.spots top 0 lens).flatMap Spot.cells)) (hn:lens.length=n) (hx:Ext w w'):qKg r lens w (.returned (.tuple #[v,.int .i64 0])) w':=by
 (have hl:(r.spots top 0 lens).length=n:=by rw [spots_len,hn]);obtain ⟨A,c,rfl,hc,_,hsl,_⟩:=qBg (f:=Spot.cells) (size:=3) (fun _=>rfl) hl hown;exact ⟨A,n,c,by rw [h0],by rw [if_pos h0,ht];exact hsl,hc,hx⟩
set_option maxHeartbeats 4000000 in
theorem Place_any (r:Reg) (A:Option Addr) (n c:Nat) (lens:List Int) (w:World) (hs:r.name.size≤9223372036854775807) (hl:qMw w A n lens) (hn:n≤9223372036854775807) :
 Calls Tryz.prog 131 #[r.val,.slice A n c] w (qKg r lens w):=by
 (have hU:=fun w=>usable_any r w hs);have hlen:=hl.len
 cases hu:r.usable
 · have HP:Hid (r.place lens=1):=by show r.place lens=1;unfold Reg.place;rw [if_pos hu]
   have HU:=gH hU;have Hu:=gH hu;clear hU hu hlen hl;obtain ⟨nm,top,hgt,lft,wid,al,bot⟩:=r;unfold Reg.val at HU ⊢;dsimp only at HU ⊢;go_enter Tryz.func131,Tryz.ntmps131;go_wp2_with fail;refine (HU.out _).mono ?_;rintro e w1 ⟨rfl,hx1⟩;rw [Hu.out];go_wp2_with fail;go_ret2;exact qBi HP.out (by decide) rfl (((Ext.refl w).alloc _).trans hx1)
 · have hb:=qLd hu
   obtain ⟨⟨ht0,ht1⟩,⟨hh0,hh1⟩,⟨hl0,hl1⟩,⟨hw0,hw1⟩⟩:=hb
   by_cases hgt9:r.height<n
   · have HP:Hid (r.place lens=9):=by show r.place lens=9;unfold Reg.place;rw [if_neg (by rw [hu];simp),if_pos (by rw [hlen];exact hgt9)]
     have HU:=gH hU;have Hu:=gH hu;clear hU hu hlen hl;obtain ⟨nm,top,hgt,lft,wid,al,bot⟩:=r;unfold Reg.val at HU ⊢;dsimp only at *;go_enter Tryz.func131,Tryz.ntmps131;go_wp2_with fail;refine (HU.out _).mono ?_;rintro e w1 ⟨rfl,hx1⟩;rw [Hu.out];have hc:=hx1.bcell.1 w.heap.size;simp at hc;go_wp2_with fail;go_ret2;exact qBi HP.out (by decide) rfl (((Ext.refl w).alloc _).trans hx1)
   · have hnh:(n:Int)≤r.height:=by omega
     (have hn15:n≤15:=by omega);(have HP:Hid (r.place lens=r.lensErr lens):=by show r.place lens=_;unfold Reg.place;rw [if_neg (by rw [hu];simp),if_neg (by rw [hlen];omega)]);have HLn:=gH hlen;have HL:=gH hl;have HU:=gH hU;have Hu:=gH hu;clear hU hu hlen hl hgt9;obtain ⟨i0,hi0,hz0,hz1,hz2⟩:=info_parts qCp;obtain ⟨nm,top,hgt,lft,wid,al,bot⟩:=r;unfold Reg.val at HU ⊢;dsimp only at *
     cases bot
     · go_enter Tryz.func131,Tryz.ntmps131
       go_wp2_with fail;refine (HU.out _).mono ?_;rintro e w1 ⟨rfl,hx1⟩;rw [Hu.out];have hc:=hx1.bcell.1 w.heap.size;simp at hc;go_wp2_with fail;clear hc
       go_loopw [7,34] (fun v i wr=>qKh w #[.string nm,.int .i64 top,.int .i64 hgt,.int .i64 lft,.int .i64 wid,.int .u8 al,.bool false] ⟨nm,top,hgt,lft,wid,al,false⟩ top n lens v i wr) (fun _ i _=>n-(intOf i).toNat)
       case atStart=>exact ⟨0,Nat.zero_le _,rfl,hx1,rfl,⟨by simp [Reg.spots],.inl ⟨rfl,rfl⟩⟩⟩
       case round =>
        obtain ⟨k,hk,rfl,hx,hp,hown⟩:=hrel;have HPr:=gH hp;clear hp;have hB:=gH (Blk.ext (Blk.new w _ _) hx);have hxw:Ext w wr:=((Ext.refl w).alloc _).trans hx;(have hc:=fun o=>hB.out.cell o);have hsz:w.heap.size<wr.heap.size:=hB.out.lt;(have hne:w.heap.size≠wr.heap.size:=by omega)
        by_cases hlt:k<n
        · obtain ⟨b,off,x,rfl,hxx,hcell⟩:=(HL.out.ext hxw).cell hlt
          have HX:=gH hxx;have HE:=gH (qGp ⟨nm,top,hgt,lft,wid,al,false⟩ lens k x hxx);have HT:=gH (take_snoc' lens k x hxx);(have hkl:Hid ((lens.take k).length=k):=by show (lens.take k).length=k;rw [List.length_take,HLn.out];omega);clear hxx
          by_cases hneg:x<0
          · go_wp2_with fail
            go_ret2;exact qBi (k:=2) (by rw [HP.out,HPr.out,HE.out,if_pos (by omega)]) (by decide) rfl hxw
          · by_cases hwide:wid<x
            · go_wp2_with fail
              go_ret2;exact qBi (k:=11) (by rw [HP.out,HPr.out,HE.out,if_neg (by omega),if_pos (by omega)]) (by decide) rfl hxw
            · have HS:=gH (qHa ⟨nm,top,hgt,lft,wid,al,false⟩ top (lens.take k) 0 x)
              have hE2:Hid (Reg.lensErr ⟨nm,top,hgt,lft,wid,al,false⟩ lens=Reg.lensErr ⟨nm,top,hgt,lft,wid,al,false⟩ (lens.drop (k+1))):=by
               show _=_
               rw [HPr.out,HE.out,if_neg (by omega),if_neg (by omega)]
              by_cases ha3:(al == 3)=true
              · have hal:al=3:=by simpa using ha3
                have HSp:Hid (Reg.spot ⟨nm,top,hgt,lft,wid,al,false⟩ top (0+(lens.take k).length) x=⟨top+k,lft+(wid-x),x⟩):=by
                 show _=_
                 rw [hkl.out];unfold Reg.spot;simp [hal]
                clear hal;go_wp2_with (at_builtin;refine qAf rfl (.tmp 75) (.tmp 77) 200 rfl qCp Tryz.underlying200 rfl (by decide) ((hown.alloc _).alloc _) (by exact rfl) (wr.heap.size+1) _ (by exact rfl) (by exact Blk.new' (by simp)) (by exact rfl) (by simp [Value.oneCell']) (by omega) (by simp [maxLen];omega) (by simp;omega) ?_;intro v' w' hown' hgr);refine ⟨⟨k+1,by omega,by go_num,((hx.alloc _).alloc _).grown hgr (fun q hq=>by have:=qAp hown q hq;simpa using this),hE2.out,?_⟩,by simp [intOf];omega⟩;rw [HT.out,HS.out,List.flatMap_append,HSp.out];exact hown'
              · have ha3':(al == 3)=false:=by simpa using ha3
                clear ha3;(have hn3:¬ al=3:=by simpa using ha3')
                by_cases ha2:(al == 2)=true
                · have hal:al=2:=by simpa using ha2
                  have HSp:Hid (Reg.spot ⟨nm,top,hgt,lft,wid,al,false⟩ top (0+(lens.take k).length) x=⟨top+k,lft+(wid-x) / 2,x⟩):=by
                   show _=_
                   rw [hkl.out];unfold Reg.spot;simp [hal]
                  clear hal hn3;go_wp2_with (at_builtin;refine qAf rfl (.tmp 75) (.tmp 77) 200 rfl qCp Tryz.underlying200 rfl (by decide) ((hown.alloc _).alloc _) (by exact rfl) (wr.heap.size+1) _ (by exact rfl) (by exact Blk.new' (by simp)) (by exact rfl) (by simp [Value.oneCell']) (by omega) (by simp [maxLen];omega) (by simp;omega) ?_;intro v' w' hown' hgr);refine ⟨⟨k+1,by omega,by go_num,((hx.alloc _).alloc _).grown hgr (fun q hq=>by have:=qAp hown q hq;simpa using this),hE2.out,?_⟩,by simp [intOf];omega⟩;rw [HT.out,HS.out,List.flatMap_append,HSp.out];exact hown'
                · have ha2':(al == 2)=false:=by simpa using ha2
                  clear ha2;(have hn2:¬ al=2:=by simpa using ha2')
                  have HSp:Hid (Reg.spot ⟨nm,top,hgt,lft,wid,al,false⟩ top (0+(lens.take k).length) x=⟨top+k,lft,x⟩):=by
                   show _=_
                   rw [hkl.out];unfold Reg.spot;simp [hn3,hn2]
                  clear hn2 hn3;go_wp2_with (at_builtin;refine qAf rfl (.tmp 75) (.tmp 77) 200 rfl qCp Tryz.underlying200 rfl (by decide) ((hown.alloc _).alloc _) (by exact rfl) (wr.heap.size+1) _ (by exact rfl) (by exact Blk.new' (by simp)) (by exact rfl) (by simp [Value.oneCell']) (by omega) (by simp [maxLen];omega) (by simp;omega) ?_;intro v' w' hown' hgr);refine ⟨⟨k+1,by omega,by go_num,((hx.alloc _).alloc _).grown hgr (fun q hq=>by have:=qAp hown q hq;simpa using this),hE2.out,?_⟩,by simp [intOf];omega⟩;rw [HT.out,HS.out,List.flatMap_append,HSp.out];exact hown'
        · have hkn:k=n:=by omega
          subst hkn;have HD:Hid (lens.drop k=[]):=List.drop_eq_nil_of_le (by rw [HLn.out];omega);have HTk:Hid (lens.take k=lens):=List.take_of_length_le (by rw [HLn.out];omega);have HO:=gH hown;clear hown;go_wp2_with fail;go_ret2;exact qGs (by rw [HP.out,HPr.out,HD.out];rfl) (by rw [HLn.out];rfl) (HTk.out ▸ HO.out) (by rw [HLn.out]) hxw
     · go_enter Tryz.func131,Tryz.ntmps131
       go_wp2_with fail;refine (HU.out _).mono ?_;rintro e w1 ⟨rfl,hx1⟩;rw [Hu.out];have hc:=hx1.bcell.1 w.heap.size;simp at hc;go_wp2_with fail;clear hc
       go_loopw [7,34] (fun v i wr=>qKh w #[.string nm,.int .i64 top,.int .i64 hgt,.int .i64 lft,.int .i64 wid,.int .u8 al,.bool true] ⟨nm,top,hgt,lft,wid,al,true⟩ (top+(hgt-n)) n lens v i wr) (fun _ i _=>n-(intOf i).toNat)
       case atStart=>exact ⟨0,Nat.zero_le _,rfl,hx1,rfl,⟨by simp [Reg.spots],.inl ⟨rfl,rfl⟩⟩⟩
       case round =>
        obtain ⟨k,hk,rfl,hx,hp,hown⟩:=hrel;have HPr:=gH hp;clear hp;have hB:=gH (Blk.ext (Blk.new w _ _) hx);have hxw:Ext w wr:=((Ext.refl w).alloc _).trans hx;(have hc:=fun o=>hB.out.cell o);have hsz:w.heap.size<wr.heap.size:=hB.out.lt;(have hne:w.heap.size≠wr.heap.size:=by omega)
        by_cases hlt:k<n
        · obtain ⟨b,off,x,rfl,hxx,hcell⟩:=(HL.out.ext hxw).cell hlt
          have HX:=gH hxx;have HE:=gH (qGp ⟨nm,top,hgt,lft,wid,al,true⟩ lens k x hxx);have HT:=gH (take_snoc' lens k x hxx);(have hkl:Hid ((lens.take k).length=k):=by show (lens.take k).length=k;rw [List.length_take,HLn.out];omega);clear hxx
          by_cases hneg:x<0
          · go_wp2_with fail
            go_ret2;exact qBi (k:=2) (by rw [HP.out,HPr.out,HE.out,if_pos (by omega)]) (by decide) rfl hxw
          · by_cases hwide:wid<x
            · go_wp2_with fail
              go_ret2;exact qBi (k:=11) (by rw [HP.out,HPr.out,HE.out,if_neg (by omega),if_pos (by omega)]) (by decide) rfl hxw
            · have HS:=gH (qHa ⟨nm,top,hgt,lft,wid,al,true⟩ (top+(hgt-n)) (lens.take k) 0 x)
              have hE2:Hid (Reg.lensErr ⟨nm,top,hgt,lft,wid,al,true⟩ lens=Reg.lensErr ⟨nm,top,hgt,lft,wid,al,true⟩ (lens.drop (k+1))):=by
               show _=_
               rw [HPr.out,HE.out,if_neg (by omega),if_neg (by omega)]
              by_cases ha3:(al == 3)=true
              · have hal:al=3:=by simpa using ha3
                have HSp:Hid (Reg.spot ⟨nm,top,hgt,lft,wid,al,true⟩ (top+(hgt-n)) (0+(lens.take k).length) x=⟨top+(hgt-n)+k,lft+(wid-x),x⟩):=by
                 show _=_
                 rw [hkl.out];unfold Reg.spot;simp [hal]
                clear hal;go_wp2_with (at_builtin;refine qAf rfl (.tmp 75) (.tmp 77) 200 rfl qCp Tryz.underlying200 rfl (by decide) ((hown.alloc _).alloc _) (by exact rfl) (wr.heap.size+1) _ (by exact rfl) (by exact Blk.new' (by simp)) (by exact rfl) (by simp [Value.oneCell']) (by omega) (by simp [maxLen];omega) (by simp;omega) ?_;intro v' w' hown' hgr);refine ⟨⟨k+1,by omega,by go_num,((hx.alloc _).alloc _).grown hgr (fun q hq=>by have:=qAp hown q hq;simpa using this),hE2.out,?_⟩,by simp [intOf];omega⟩;rw [HT.out,HS.out,List.flatMap_append,HSp.out];exact hown'
              · have ha3':(al == 3)=false:=by simpa using ha3
                clear ha3;(have hn3:¬ al=3:=by simpa using ha3')
                by_cases ha2:(al == 2)=true
                · have hal:al=2:=by simpa using ha2
                  have HSp:Hid (Reg.spot ⟨nm,top,hgt,lft,wid,al,true⟩ (top+(hgt-n)) (0+(lens.take k).length) x=⟨top+(hgt-n)+k,lft+(wid-x) / 2,x⟩):=by
                   show _=_
                   rw [hkl.out];unfold Reg.spot;simp [hal]
                  clear hal hn3;go_wp2_with (at_builtin;refine qAf rfl (.tmp 75) (.tmp 77) 200 rfl qCp Tryz.underlying200 rfl (by decide) ((hown.alloc _).alloc _) (by exact rfl) (wr.heap.size+1) _ (by exact rfl) (by exact Blk.new' (by simp)) (by exact rfl) (by simp [Value.oneCell']) (by omega) (by simp [maxLen];omega) (by simp;omega) ?_;intro v' w' hown' hgr);refine ⟨⟨k+1,by omega,by go_num,((hx.alloc _).alloc _).grown hgr (fun q hq=>by have:=qAp hown q hq;simpa using this),hE2.out,?_⟩,by simp [intOf];omega⟩;rw [HT.out,HS.out,List.flatMap_append,HSp.out];exact hown'
                · have ha2':(al == 2)=false:=by simpa using ha2
                  clear ha2;(have hn2:¬ al=2:=by simpa using ha2')
                  have HSp:Hid (Reg.spot ⟨nm,top,hgt,lft,wid,al,true⟩ (top+(hgt-n)) (0+(lens.take k).length) x=⟨top+(hgt-n)+k,lft,x⟩):=by
                   show _=_
                   rw [hkl.out];unfold Reg.spot;simp [hn3,hn2]
                  clear hn2 hn3;go_wp2_with (at_builtin;refine qAf rfl (.tmp 75) (.tmp 77) 200 rfl qCp Tryz.underlying200 rfl (by decide) ((hown.alloc _).alloc _) (by exact rfl) (wr.heap.size+1) _ (by exact rfl) (by exact Blk.new' (by simp)) (by exact rfl) (by simp [Value.oneCell']) (by omega) (by simp [maxLen];omega) (by simp;omega) ?_;intro v' w' hown' hgr);refine ⟨⟨k+1,by omega,by go_num,((hx.alloc _).alloc _).grown hgr (fun q hq=>by have:=qAp hown q hq;simpa using this),hE2.out,?_⟩,by simp [intOf];omega⟩;rw [HT.out,HS.out,List.flatMap_append,HSp.out];exact hown'
        · have hkn:k=n:=by omega
          subst hkn;have HD:Hid (lens.drop k=[]):=List.drop_eq_nil_of_le (by rw [HLn.out];omega);have HTk:Hid (lens.take k=lens):=List.take_of_length_le (by rw [HLn.out];omega);have HO:=gH hown;clear hown;go_wp2_with fail;go_ret2;exact qGs (by rw [HP.out,HPr.out,HD.out];rfl) (by rw [HLn.out];rfl) (HTk.out ▸ HO.out) (by rw [HLn.out]) hxw
end
section
open Go.RowKit
def qDs (w:World) (A:Option Addr) (n:Nat) (l:List Reg):Prop:=Sl w 7 RegC A n l
theorem qDs.ext {w w1:World} {A:Option Addr} {n:Nat} {l:List Reg} (h:qDs w A n l) (k:Ext w w1):qDs w1 A n l:=Sl.ext RegC.stays h k
def qFo (l:List Reg) (nm:ByteArray):Option Reg:=if nm.toList=[] then some Reg.default else l.find? (fun r=>r.name.toList == nm.toList)
def regZero:Array Value:=#[.string ⟨#[]⟩,.int .i64 0,.int .i64 0,.int .i64 0,.int .i64 0,.int .u8 0,.bool false]
def FindRel (w:World) (A:Option Addr) (n:Nat) (l:List Reg) (nm:ByteArray) (i:Value) (wr:World):Prop :=
 ∃ k:Nat,k≤n∧i = .int .i64 k∧Ext (w.alloc (.cells regZero 105)) wr∧l.find? (fun r=>r.name.toList == nm.toList)=(l.drop k).find? (fun r=>r.name.toList == nm.toList)
theorem qBw:(Tryz.prog.info? 105).map (·.size)=some 7:=by kernel_rfl
theorem find_ret {w':World} {g:Nat} {r:Reg} {b:Bool} {tmps:Array Value} (hB:Blk w' g 105 #[.string r.name,.int .i64 r.top,.int .i64 r.height,.int .i64 r.left,.int .i64 r.width,.int .u8 r.align,.bool r.bottom])
 (h4:tmps.getD 4 undef = .pointer (some ⟨g,0,none⟩)) (h5:tmps.getD 5 undef = .bool b):(results Tryz.f127 tmps).run Tryz.prog w' = .ok (.tuple #[r.val,.bool b]) w':=by
 rw [qDb (P:=Tryz.prog) Tryz.results127 h4 hB Tryz.underlying105 rfl qBw,h5];rfl
set_option maxHeartbeats 1000000 in
theorem Find_any (A:Option Addr) (n c:Nat) (l:List Reg) (nm:ByteArray) (w:World) (hl:qDs w A n l) (hn:n≤9223372036854775807) :
 Calls Tryz.prog 127 #[.slice A n c,.string nm] w fun e w'=>e = .returned (.tuple #[((qFo l nm).getD Reg.zero).val,.bool (qFo l nm).isSome])∧Ext w w':=by
 by_cases h0:nm.toList=[]
 · have HF:Hid (qFo l nm=some Reg.default):=by show qFo l nm=_;unfold qFo;rw [if_pos h0]
   (have h0':nm.toList.isEmpty=true:=by rw [h0];rfl);clear h0;go_enter Tryz.func127,Tryz.ntmps127;go_wp2_with fail;refine (qKb _).mono ?_;rintro e w1 ⟨rfl,hx1⟩;unfold Reg.val Reg.default;dsimp only;have hB:=gH (Blk.ext (Blk.new w _ _) hx1);go_wp2_with (refine qAi rfl 105 (.tmp 4) (.tmp 10) rfl w.heap.size 105 _ _ (by exact rfl) (by exact rfl) hB.out (by exact rfl) (by exact qBw) (by simp [Value.oneCell']) ?_);refine bodyPost_ret (v:=.tuple #[Reg.default.val,.bool true]) ?_ rfl ⟨?_,?_⟩
   · exact find_ret (r:=Reg.default) (hB.out.put _) rfl rfl
   · rw [HF.out];rfl
   · exact (((Ext.refl w).alloc _).trans hx1).put (Nat.le_refl _) _ _
 · have HF:Hid (qFo l nm=l.find? (fun r=>r.name.toList == nm.toList)):=by show qFo l nm=_;unfold qFo;rw [if_neg h0]
   have h0':nm.toList.isEmpty=false:=by cases h:nm.toList with
    | nil=>exact absurd h h0
    | cons a b=>rfl
   clear h0;have HL:=gH hl;clear hl;go_enter Tryz.func127,Tryz.ntmps127;go_wp2_with fail
   go_loopw [13] (fun i wr=>FindRel w A n l nm i wr) (fun i _=>n-(intOf i).toNat)
   case atStart=>exact ⟨0,Nat.zero_le _,rfl,Ext.refl _,rfl⟩
   case round =>
    obtain ⟨k,hk,rfl,hx,hp⟩:=hrel;have HP:=gH hp;clear hp;have hB:=gH (Blk.ext (Blk.new w _ _) hx);have hxw:Ext w wr:=((Ext.refl w).alloc _).trans hx
    by_cases hlt:k<n
    · obtain ⟨b,off,r,rfl,hr,hC⟩:=(HL.out.ext hxw).at_ hlt
      have HR:=gH hr;clear hr;obtain ⟨c0,c1,c2,c3,c4,c5,c6⟩:=hC
      have hdrop:Hid (l.drop k=r :: l.drop (k+1)):=by
       show l.drop k=_
       have hkl:=(List.getElem?_eq_some_iff.1 HR.out).1;rw [List.drop_eq_getElem_cons hkl]
       congr 1
       exact (List.getElem?_eq_some_iff.1 HR.out).2
      by_cases hq:(r.name.toList == nm.toList)=true
      · go_wp2_with (refine qAi rfl 105 (.tmp 4) (.tmp 21) rfl w.heap.size 105 _ _ (by exact rfl) (by exact rfl) (hB.out.alloc _) (by exact rfl) (by exact qBw) (by simp [Value.oneCell']) ?_)
        refine bodyPost_ret (v:=.tuple #[r.val,.bool true]) ?_ rfl ⟨?_,?_⟩
        · exact find_ret (r:=r) ((hB.out.alloc _).put _) rfl rfl
        · rw [HF.out,HP.out,hdrop.out,List.find?_cons,hq];rfl
        · exact (hxw.alloc _).put (Nat.le_refl _) _ _
      · have hq':(r.name.toList == nm.toList)=false:=by simpa using hq
        clear hq;go_wp2_with fail;refine ⟨⟨k+1,by omega,by go_num,hx.alloc _,?_⟩,by simp [intOf];omega⟩;rw [HP.out,hdrop.out,List.find?_cons,hq']
    · have hend:Hid (l.drop k=[]):=List.drop_eq_nil_of_le (by rw [HL.out.len];omega)
      go_wp2_with (refine qAi rfl 105 (.tmp 4) (.tmp 23) rfl w.heap.size 105 _ _ (by exact rfl) (by exact rfl) hB.out (by exact rfl) (by exact qBw) (by simp [Value.oneCell']) ?_);refine bodyPost_ret (v:=.tuple #[Reg.zero.val,.bool false]) ?_ rfl ⟨?_,?_⟩
      · exact find_ret (r:=Reg.zero) (hB.out.put _) rfl rfl
      · rw [HF.out,HP.out,hend.out];rfl
      · exact hxw.put (Nat.le_refl _) _ _
end
section
open Go.RowKit
structure Ev where
 id:Int
 inn:Int
 out:Int
 region:ByteArray
 kind:Int
 speaker:ByteArray
 rows:List Row
 deriving DecidableEq
def Ev.cells (e:Ev) (A:Option Addr) (n c:Nat):Array Value:=#[.int .i64 e.id,.int .i64 e.inn,.int .i64 e.out,.string e.region,.int .u8 e.kind,.string e.speaker,.slice A n c]
def EvAt (w:World) (e:Ev) (A:Option Addr) (n c:Nat):Prop:=qFx w A n e.rows∧n≤c∧n*24≤140737488355328
theorem EvAt.ext {w w1:World} {e:Ev} {A:Option Addr} {n c:Nat} (h:EvAt w e A n c) (k:Ext w w1):EvAt w1 e A n c:=⟨h.1.ext k,h.2⟩
theorem EvAt.len {w:World} {e:Ev} {A:Option Addr} {n c:Nat} (h:EvAt w e A n c):e.rows.length=n:=h.1.len
def qNy (r:Row):Prop:=qAk r<4294967281∧∀ x∈r,x.text.size≤4611686018427387904∧x.ruby.size≤4611686018427387904
def EvSmall (e:Ev):Prop:=e.region.size≤9223372036854775807∧e.speaker.size≤9223372036854775807∧∀ r∈e.rows,qNy r
def LensPost (e:Ev) (w:World) (en:Ending) (w':World):Prop :=
 ∃ A n c,en = .returned (.slice A n c)∧qMw w' A n (e.rows.map qAq)∧n≤c∧Ext w w'
def LensRel (w:World) (bx:Array Value) (n:Nat) (rows:List Row) (v i:Value) (wr:World):Prop :=
 ∃ k:Nat,k≤n∧i = .int .i64 k∧Ext (w.alloc (.cells bx 64)) wr∧wr.ownsRow (w.heap.size+1) 3 1 v k (((rows.take k).map qAq).flatMap fun x=>[Value.int .i64 x])
theorem qLp:(Tryz.prog.info? 3).map (fun i=>(i.zero,i.size,i.bytes))=some (some (.int .i64 0),1,8):=by kernel_rfl
theorem lensPost_ok {e:Ev} {w w':World} {v:Value} {n base:Nat} (hn:e.rows.length=n) (hown:w'.ownsRow base 3 1 v n ((e.rows.map qAq).flatMap fun x=>[Value.int .i64 x])) (hx:Ext w w'):LensPost e w (.returned v) w':=by
 (have hl:(e.rows.map qAq).length=n:=by rw [List.length_map,hn]);obtain ⟨A,c,rfl,hc,_,hsl,_⟩:=qBg (f:=fun x:Int=>[Value.int .i64 x]) (size:=1) (fun _=>rfl) hl hown;exact ⟨A,n,c,rfl,hsl,hc,hx⟩
set_option maxHeartbeats 2000000 in
theorem lens_any (e:Ev) (A:Option Addr) (n c:Nat) (w:World) (hE:Env w) (he:EvAt w e A n c) (hb:∀ r∈e.rows,qNy r) :
 Calls Tryz.prog 132 #[.agg (e.cells A n c)] w (LensPost e w):=by
 (have hn24:n*24≤140737488355328:=by have:=he.2;omega);have HA:=gH he.1;have HLn:=gH he.len;have HEn:=gH hE;have HBd:=gH hb;clear he hE hb;unfold Ev.cells;go_enter Tryz.func132,Tryz.ntmps132;go_wp2_with fail
 go_loopw [3,9] (fun v i wr=>LensRel w #[.int .i64 e.id,.int .i64 e.inn,.int .i64 e.out,.string e.region,.int .u8 e.kind,.string e.speaker,.slice A n c] n e.rows v i wr) (fun _ i _=>n-(intOf i).toNat)
 case atStart=>exact ⟨0,Nat.zero_le _,rfl,Ext.refl _,⟨rfl,.inl ⟨rfl,rfl⟩⟩⟩
 case round =>
  obtain ⟨k,hk,rfl,hx,hown⟩:=hrel;have hxw:Ext w wr:=((Ext.refl w).alloc _).trans hx
  by_cases hlt:k<n
  · obtain ⟨b,off,r,rfl,hr,A',n',c',hcell,hnc,hc40,hruns⟩:=(HA.out.ext hxw).at_ hlt
    simp only [Nat.mul_one] at hcell;have HR:=gH hruns;have hsm:=HBd.out r (List.mem_of_getElem? hr);have HT:=gH (take_snoc' e.rows k r hr);have hrb:qAk r<4294967281:=hsm.1;clear hr hruns hsm;go_wp2_with fail;refine (SLen_any A' n' c' r _ (HEn.out.ext (hxw.alloc _)) (HR.out.ext ((Ext.refl wr).alloc _)) (by omega) (by omega)).mono ?_;rintro en w2 ⟨rfl,hx2⟩;have HO2:=gH (qAh (hown.alloc (.cells #[.slice A' n' c'] 174)) hx2);have hsz2:=hx.size;have hsz3:=hx2.size;simp only [World.size_alloc] at hsz2 hsz3;go_wp2_with (at_builtin;refine qAf rfl (.tmp 13) (.tmp 16) 83 rfl qLp Tryz.underlying83 rfl (by decide) (HO2.out.alloc _) (by exact rfl) w2.heap.size _ (by exact rfl) (by exact Blk.new' rfl) (by exact rfl) (by simp [Value.oneCell']) (by omega) (by simp [maxLen];omega) (by simp;omega) ?_;intro v' w3 hown3 hgr);refine ⟨⟨k+1,by omega,by go_num,((hx.alloc _).trans (hx2.alloc _)).grown hgr (fun q hq=>by have:=qAp hown q hq;simpa using this),?_⟩,by simp [intOf];omega⟩;rw [HT.out,List.map_append,List.flatMap_append];exact hown3
  · have hkn:k=n:=by omega
    subst hkn;have HT:Hid (e.rows.take k=e.rows):=List.take_of_length_le (by rw [HLn.out];omega);have HO:=gH hown;clear hown;go_wp2_with fail;go_ret;exact lensPost_ok HLn.out (by have:=HO.out;rw [HT.out] at this;exact this) hxw
end
end Go.Proofs.YtablhmobekmflaaGreatDoor