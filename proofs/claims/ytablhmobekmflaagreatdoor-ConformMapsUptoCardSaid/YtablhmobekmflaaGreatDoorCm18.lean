/- Texts laid together. -/
import Derived.Test.YtablhmobekmflaaGreatDoorCm02
import Derived.Test.YtablhmobekmflaaGreatDoorCm17
import Derived.Test.YtablhmobekmflaaGreatDoorCm07
import Derived.Test.YtablhmobekmflaaGreatDoorCm08
import Derived.Test.YtablhmobekmflaaGreatDoorCm10
set_option linter.unusedVariables false
set_option linter.unusedSimpArgs false
set_option maxRecDepth 100000
namespace Go.Proofs.YtablhmobekmflaaGreatDoor
section
open Go.RowKit
theorem neq_run (a b:Run) (w:World):(binOp .neq 171 a.val b.val).run Tryz.prog w = .ok (.bool (!decide (a=b))) w:=by
 obtain ⟨t1,c1,i1,u1,r1⟩:=a;obtain ⟨t2,c2,i2,u2,r2⟩:=b;unfold Run.val;dsimp only;go_simp;simp only [toList_inj]
 repeat' split
 all_goals simp_all
theorem neq_run_yes (a b:Run) (h:¬ a=b) (w:World):(binOp .neq 171 a.val b.val).run Tryz.prog w = .ok (.bool true) w:=by rw [neq_run,decide_eq_false h];rfl
theorem neq_run_no (a:Run) (w:World):(binOp .neq 171 a.val a.val).run Tryz.prog w = .ok (.bool false) w:=by rw [neq_run,decide_eq_true rfl];rfl
set_option maxHeartbeats 2000000 in
theorem EqualRuns_any (A:Option Addr) (n c:Nat) (B:Option Addr) (m d:Nat) (l1 l2:Row) (w:World) (h1:qCt w A n l1) (h2:qCt w B m l2) (hn:n≤4611686018427387904) :
 Calls Tryz.prog 245 #[.slice A n c,.slice B m d] w fun e w'=>e = .returned (.bool (decide (l1=l2)))∧Ext w w':=by
 have L1:=gH h1.len;have L2:=gH h2.len;have H1:=gH h1;have H2:=gH h2;clear h1 h2
 by_cases hnm:n=m
 · subst hnm
   go_enter Tryz.func245,Tryz.ntmps245;go_wp2_with fail
   go_loopw [13] (fun i wr=>EqRel w n l1 l2 i wr) (fun i _=>n-(intOf i).toNat)
   case atStart=>exact ⟨0,Nat.zero_le _,rfl,Ext.refl _,rfl⟩
   case round =>
    obtain ⟨k,hk,rfl,hx,hp⟩:=hrel;have HP:=gH hp;clear hp
    by_cases hlt:k<n
    · obtain ⟨b1,o1,r,rfl,hr,c0,c1,c2,c3,c4⟩:=(H1.out.ext hx).at_ hlt
      obtain ⟨b2,o2,s,rfl,hs,d0,d1,d2,d3,d4⟩:=(H2.out.ext hx).at_ hlt;have HR:=gH hr;have HS:=gH hs;clear hr hs;(have hk0:(0:Int)≤(k:Int):=by omega);(have hk1:(k:Int)<(n:Int):=by omega)
      by_cases hq:r=s
      · subst hq
        have HT:=gH (qEe HP.out HR.out HS.out);(have hne:=fun w=>neq_run_no r w);unfold Run.val at hne;go_wp2_with fail;go_quiet (fail);go_wp2_with fail;exact ⟨⟨k+1,by omega,by go_num,hx.drewN _,HT.out⟩,by simp [intOf];omega⟩
      · have hne:=fun w=>neq_run_yes r s hq w
        have HN:=gH (ne_at HR.out HS.out hq);unfold Run.val at hne;clear hq;go_wp2_with fail;go_quiet (fail);go_wp2_with fail;go_ret;exact ⟨qAg (decide_eq_false HN.out).symm,hx.drewN _⟩
    · have hkn:k=n:=by omega
      subst hkn;have HQ:=gH (qFa L1.out L2.out HP.out);go_wp2_with fail;go_ret;exact ⟨qAg (decide_eq_true HQ.out).symm,hx⟩
 · have hb:((n:Int) != (m:Int))=true:=by simp;omega
   have HN:Hid (¬ l1=l2):=by
    show ¬ _
    intro h;apply hnm;rw [← L1.out,← L2.out,h]
   go_enter Tryz.func245,Tryz.ntmps245;go_wp2_with fail;go_ret;exact ⟨qAg (decide_eq_false HN.out).symm,Ext.refl _⟩
set_option maxHeartbeats 1000000 in
theorem SSame_any (A:Option Addr) (n c:Nat) (B:Option Addr) (m d:Nat) (l1 l2:Row) (w:World) (h1:qCt w A n l1) (h2:qCt w B m l2) (hn:n≤4611686018427387904) :
 Calls Tryz.prog 205 #[.agg #[.slice A n c],.agg #[.slice B m d]] w fun e w'=>e = .returned (.bool (decide (l1=l2)))∧Ext w w':=by
 have H1:=gH h1;have H2:=gH h2;clear h1 h2;have hx:=((Ext.refl w).alloc (.cells #[.slice A n c] 174)).alloc (.cells #[.slice B m d] 174);have HX:=gH hx;clear hx;go_enter Tryz.func205,Tryz.ntmps205;go_wp2_with fail;refine (EqualRuns_any A n c B m d l1 l2 _ (H1.out.ext HX.out) (H2.out.ext HX.out) hn).mono ?_;rintro e w1 ⟨rfl,hx1⟩;go_wp2_with fail;go_ret;exact ⟨rfl,HX.out.trans hx1⟩
set_option maxHeartbeats 2000000 in
theorem EqualFunc_any (A:Option Addr) (n c:Nat) (B:Option Addr) (m d:Nat) (l1 l2:List Row) (w:World) (h1:qFx w A n l1) (h2:qFx w B m l2) (hn:n≤4611686018427387904) :
 Calls Tryz.prog 204 #[.slice A n c,.slice B m d,.func (.func 205) #[] #[]] w fun e w'=>e = .returned (.bool (decide (l1=l2)))∧Ext w w':=by
 have L1:=gH h1.len;have L2:=gH h2.len;have H1:=gH h1;have H2:=gH h2;clear h1 h2
 by_cases hnm:n=m
 · subst hnm
   go_enter Tryz.func204,Tryz.ntmps204;go_wp2_with fail
   go_loopw [17] (fun i wr=>EqRel w n l1 l2 i wr) (fun i _=>n-(intOf i).toNat)
   case atStart=>exact ⟨0,Nat.zero_le _,rfl,Ext.refl _,rfl⟩
   case round =>
    obtain ⟨k,hk,rfl,hx,hp⟩:=hrel;have HP:=gH hp;clear hp
    by_cases hlt:k<n
    · obtain ⟨b1,o1,r,rfl,hr,A1,n1,c1,e1,f1,g1,u1⟩:=(H1.out.ext hx).at_ hlt
      obtain ⟨b2,o2,s,rfl,hs,A2,n2,c2,e2,f2,g2,u2⟩:=(H2.out.ext hx).at_ hlt;simp only [Nat.mul_one] at e1 e2;have U1:=gH u1;have U2:=gH u2;have HR:=gH hr;have HS:=gH hs;clear hr hs u1 u2;have hb2:b2<wr.heap.size:=World.block_lt_of_cell? wr _ e2;have hxa:=((Ext.refl wr).alloc (.cells #[.slice A1 n1 c1] 174)).alloc (.cells #[.slice A2 n2 c2] 174);have HX:=gH hxa;clear hxa;go_wp2_with fail;refine (SSame_any A1 n1 c1 A2 n2 c2 r s _ (U1.out.ext HX.out) (U2.out.ext HX.out) (by omega)).mono ?_;rintro e w1 ⟨rfl,hx1⟩;have hxw1:Ext w w1:=(hx.trans HX.out).trans hx1
      by_cases hq:r=s
      · subst hq
        have HT:=gH (qEe HP.out HR.out HS.out);rw [decide_eq_true rfl];go_wp2_with fail;exact ⟨⟨k+1,by omega,by go_num,hxw1,HT.out⟩,by simp [intOf];omega⟩
      · have HN:=gH (ne_at HR.out HS.out hq)
        rw [decide_eq_false hq];clear hq;go_wp2_with fail;go_ret;exact ⟨qAg (decide_eq_false HN.out).symm,hxw1⟩
    · have hkn:k=n:=by omega
      subst hkn;have HQ:=gH (qFa L1.out L2.out HP.out);go_wp2_with fail;go_ret;exact ⟨qAg (decide_eq_true HQ.out).symm,hx⟩
 · have hb:((n:Int) != (m:Int))=true:=by simp;omega
   have HN:Hid (¬ l1=l2):=by
    show ¬ _
    intro h;apply hnm;rw [← L1.out,← L2.out,h]
   go_enter Tryz.func204,Tryz.ntmps204;go_wp2_with fail;go_ret;exact ⟨qAg (decide_eq_false HN.out).symm,Ext.refl _⟩
theorem SameRows_any (A:Option Addr) (n c:Nat) (B:Option Addr) (m d:Nat) (l1 l2:List Row) (w:World) (h1:qFx w A n l1) (h2:qFx w B m l2) (hn:n≤4611686018427387904) :
 Calls Tryz.prog 143 #[.slice A n c,.slice B m d] w fun e w'=>e = .returned (.bool (decide (l1=l2)))∧Ext w w':=by
 have H1:=gH h1;have H2:=gH h2;clear h1 h2;go_enter Tryz.func143,Tryz.ntmps143;go_wp2_with fail;refine (EqualFunc_any A n c B m d l1 l2 _ H1.out H2.out hn).mono ?_;rintro e w1 ⟨rfl,hx1⟩;go_wp2_with fail;go_ret;exact ⟨rfl,hx1⟩
end
section
open Go.RowKit
theorem neq_reg (a b:Reg) (w:World):(binOp .neq 105 a.val b.val).run Tryz.prog w = .ok (.bool (!decide (a=b))) w:=by
 obtain ⟨nm,top,hgt,lft,wid,al,bot⟩:=a;obtain ⟨nm',top',hgt',lft',wid',al',bot'⟩:=b;unfold Reg.val;dsimp only;go_simp;simp only [toList_inj]
 repeat' split
 all_goals simp_all
theorem neq_reg_yes (a b:Reg) (h:¬ a=b) (w:World):(binOp .neq 105 a.val b.val).run Tryz.prog w = .ok (.bool true) w:=by rw [neq_reg,decide_eq_false h];rfl
theorem neq_reg_no (a:Reg) (w:World):(binOp .neq 105 a.val a.val).run Tryz.prog w = .ok (.bool false) w:=by rw [neq_reg,decide_eq_true rfl];rfl
set_option maxHeartbeats 2000000 in
theorem EqualRegs_any (A:Option Addr) (n c:Nat) (B:Option Addr) (m d:Nat) (l1 l2:List Reg) (w:World) (h1:qDs w A n l1) (h2:qDs w B m l2) (hn:n≤4611686018427387904) :
 Calls Tryz.prog 82 #[.slice A n c,.slice B m d] w fun e w'=>e = .returned (.bool (decide (l1=l2)))∧Ext w w':=by
 have L1:=gH h1.len;have L2:=gH h2.len;have H1:=gH h1;have H2:=gH h2;clear h1 h2
 by_cases hnm:n=m
 · subst hnm
   go_enter Tryz.func82,Tryz.ntmps82;go_wp2_with fail
   go_loopw [13] (fun i wr=>EqRel w n l1 l2 i wr) (fun i _=>n-(intOf i).toNat)
   case atStart=>exact ⟨0,Nat.zero_le _,rfl,Ext.refl _,rfl⟩
   case round =>
    obtain ⟨k,hk,rfl,hx,hp⟩:=hrel;have HP:=gH hp;clear hp
    by_cases hlt:k<n
    · obtain ⟨b1,o1,r,rfl,hr,c0,c1,c2,c3,c4,c5,c6⟩:=(H1.out.ext hx).at_ hlt
      obtain ⟨b2,o2,s,rfl,hs,d0,d1,d2,d3,d4,d5,d6⟩:=(H2.out.ext hx).at_ hlt;have HR:=gH hr;have HS:=gH hs;clear hr hs;(have hk0:(0:Int)≤(k:Int):=by omega);(have hk1:(k:Int)<(n:Int):=by omega)
      by_cases hq:r=s
      · subst hq
        have HT:=gH (qEe HP.out HR.out HS.out);(have hne:=fun w=>neq_reg_no r w);unfold Reg.val at hne;go_wp2_with fail;go_quiet (fail);go_wp2_with fail;exact ⟨⟨k+1,by omega,by go_num,hx.drewN _,HT.out⟩,by simp [intOf];omega⟩
      · have hne:=fun w=>neq_reg_yes r s hq w
        have HN:=gH (ne_at HR.out HS.out hq);unfold Reg.val at hne;clear hq;go_wp2_with fail;go_quiet (fail);go_wp2_with fail;go_ret;exact ⟨qAg (decide_eq_false HN.out).symm,hx.drewN _⟩
    · have hkn:k=n:=by omega
      subst hkn;have HQ:=gH (qFa L1.out L2.out HP.out);go_wp2_with fail;go_ret;exact ⟨qAg (decide_eq_true HQ.out).symm,hx⟩
 · have hb:((n:Int) != (m:Int))=true:=by simp;omega
   have HN:Hid (¬ l1=l2):=by
    show ¬ _
    intro h;apply hnm;rw [← L1.out,← L2.out,h]
   go_enter Tryz.func82,Tryz.ntmps82;go_wp2_with fail;go_ret;exact ⟨qAg (decide_eq_false HN.out).symm,Ext.refl _⟩
end
section
open Go.RowKit Go.Shelf
theorem insAtR_le (o:List Reg) (r:Reg):qDa o r≤o.length:=by unfold qDa;exact (List.takeWhile_sublist _).length_le
theorem insAtR_go:∀ {l:List Reg} {s:Reg} {k:Nat} {x:Reg},k≤qDa l s→l[k]?=some x→(nmR x<nmR s→k+1≤qDa l s)∧(¬ nmR x<nmR s→qDa l s=k)
 | [],s,k,x,_,h=>by simp at h
 | a :: l,s,0,x,_,h=>by
  (simp at h;subst h);unfold qDa;rw [List.takeWhile_cons]
  by_cases ha:nmR a<nmR s
  · rw [if_pos (by simpa using ha)];exact ⟨fun _=>by simp,fun h=>absurd ha h⟩
  · rw [if_neg (by simpa using ha)];exact ⟨fun h=>absurd h ha,fun _=>rfl⟩
 | a :: l,s,k+1,x,hk,h=>by
  unfold qDa at hk ⊢;rw [List.takeWhile_cons] at hk ⊢
  by_cases ha:nmR a<nmR s
  · rw [if_pos (by simpa using ha)] at hk ⊢
    simp only [List.length_cons] at hk ⊢;have:=insAtR_go (l:=l) (s:=s) (k:=k) (x:=x) (by unfold qDa;omega) (by simpa using h);unfold qDa at this;exact ⟨fun h=>by have:=this.1 h;omega,fun h=>by have:=this.2 h;omega⟩
  · rw [if_neg (by simpa using ha)] at hk
    simp at hk
theorem insRg_end {o:List Reg} {r:Reg} {k:Nat} (hk:qDa o r=k) (hl:k=o.length):qJd o r=some (o.take k++r :: o.drop k):=by
 unfold qJd;rw [hk,List.getElem?_eq_none (by omega)]
theorem insRg_mid {o:List Reg} {r x:Reg} {k:Nat} (hk:qDa o r=k) (hx:o[k]?=some x) (hn:¬ nmR x=nmR r):qJd o r=some (o.take k++r :: o.drop k):=by
 unfold qJd;rw [hk,hx]
 show (if nmR x=nmR r then _ else _)=_
 rw [if_neg hn]
theorem insRg_eq {o:List Reg} {r:Reg} {k:Nat} (hk:qDa o r=k) (hx:o[k]?=some r):qJd o r=some o:=by
 unfold qJd;rw [hk,hx]
 show (if nmR r=nmR r then (if r=r then _ else _) else _)=_
 rw [if_pos rfl,if_pos rfl]
theorem insRg_bad {o:List Reg} {r x:Reg} {k:Nat} (hk:qDa o r=k) (hx:o[k]?=some x) (hn:nmR x=nmR r) (hq:¬ x=r):qJd o r=none:=by
 unfold qJd;rw [hk,hx]
 show (if nmR x=nmR r then (if x=r then _ else _) else _)=_
 rw [if_pos hn,if_neg hq]
theorem refR_snoc (l:List Reg) (r:Reg):refR (l++[r])=qGu (refR l) r:=by unfold refR;rw [List.foldl_append];rfl
theorem qPh:∀ (l:List Reg),l.foldl qGu none=none
 | []=>rfl
 | _ :: l=>qPh l
theorem refR_pre {a:List Reg} (b:List Reg) (h:refR a=none):refR (a++b)=none:=by
 have h':a.foldl qGu (some [])=none:=h;unfold refR;rw [List.foldl_append,h'];exact qPh b
theorem insRg_len {o q:List Reg} {r:Reg} (h:qJd o r=some q):q.length≤o.length+1:=by
 have hle:=insAtR_le o r;unfold qJd at h
 split at h
 · split at h
   · split at h
     · cases h;omega
     · cases h
   · cases h;simp [List.length_take];omega
 · cases h;simp [List.length_take];omega
theorem refR_len0:∀ (l:List Reg) {o q:List Reg},l.foldl qGu (some o)=some q→q.length≤o.length+l.length
 | [],o,q,h=>by cases h;simp
 | r :: l,o,q,h=>by
  rw [List.foldl_cons] at h;have hs:qGu (some o) r=qJd o r:=rfl;rw [hs] at h
  cases hi:qJd o r with
  | none=>rw [hi,qPh] at h;cases h
  | some p=>rw [hi] at h;have h1:=refR_len0 l h;have h2:=insRg_len hi;simp;omega
theorem refR_len {l q:List Reg} (h:refR l=some q):q.length≤l.length:=by have:=refR_len0 l h;simpa using this
theorem allR_split (l:List RDoc) (k:Nat):allR l=allR (l.take k)++allR (l.drop k):=by
 unfold allR;rw [← List.flatMap_append,List.take_append_drop]
theorem own_two {w:World} {L g cap:Nat} {o:List Reg} (h:w.ownsRow L 105 7 (.slice (some ⟨g,0,none⟩) o.length cap) o.length (o.flatMap Reg.vals)):Sl w 7 (Cells Reg.vals) (some ⟨g,0,none⟩) o.length o∧qDs w (some ⟨g,0,none⟩) o.length o∧o.length≤cap:=by
 obtain ⟨A,c,hv,hc,-,hS,-⟩:=qBg (f:=Reg.vals) (size:=7) (fun _=>rfl) rfl h
 cases hv
 exact ⟨hS,Sl.change (D:=RegC) hS fun b o r hm=>regC_cells hm,hc⟩
def Rr1 (w:World) (n:Nat) (l:List RDoc) (v i:Value) (wr:World):Prop :=
 ∃ k:Nat,k≤n∧i = .int .i64 k∧Ext w wr∧∃ o,refR (allR (l.take k))=some o∧wr.ownsRow w.heap.size 105 7 v o.length (o.flatMap Reg.vals)
def Rr2 (w:World) (m:Nat) (P rs:List Reg) (v i:Value) (wr:World):Prop :=
 ∃ j:Nat,j≤m∧i = .int .i64 j∧Ext w wr∧∃ o,refR (P++rs.take j)=some o∧wr.ownsRow w.heap.size 105 7 v o.length (o.flatMap Reg.vals)
def Rr3 (w0:World) (o:List Reg) (r:Reg) (i:Value) (wr:World):Prop:=∃ k:Nat,k≤qDa o r∧i = .int .i64 k∧Ext w0 wr
def RrPost (L:List Reg) (w:World) (e:Ending) (w':World):Prop:=Ext w w'∧((refR L=none∧e = .returned (.tuple #[.slice none 0 0,.bool false])) ∨
 ∃ v m,refR L=some m∧e = .returned (.tuple #[v,.bool true])∧w'.ownsRow w.heap.size 105 7 v m.length (m.flatMap Reg.vals))
set_option maxHeartbeats 32000000 in
theorem qMz (A:Option Addr) (n c:Nat) (l:List RDoc) (w:World) (hl:qCw w A n l) (hn:n≤16) (hr16:∀ d∈l,d.doc.regs.length≤16) :
 Calls Tryz.prog 52 #[.slice A n c] w (RrPost (allR l) w):=by
 have HL:=gH hl;have HLn:=gH hl.len;have HR16:=gH hr16;clear hl hr16;go_enter Tryz.func52,Tryz.ntmps52;go_wp2_with fail
 go_loopw [4,13] (fun v i wr=>Rr1 w n l v i wr) (fun _ i _=>n-(intOf i).toNat)
 case atStart=>exact ⟨0,Nat.zero_le _,rfl,Ext.refl _,[],by simp [allR,refR],⟨rfl,.inl ⟨rfl,rfl⟩⟩⟩
 case round =>
  obtain ⟨k,hk,rfl,hx,o0,ho0,hown⟩:=hrel;have HX:=gH hx;have HO:=gH hown;have HR0:=gH ho0;have hzr:=hx.size;clear hx hown ho0
  by_cases hlt:k<n
  · obtain ⟨b,off,d,h,rfl,hdk,hat,hsz,c0,c1,c2,c3,c4,c5,c6,c7,c8⟩:=HL.out.at9 hlt
    replace c0:=HX.out.cell c0;replace c1:=HX.out.cell c1;replace c2:=HX.out.cell c2;replace c3:=HX.out.cell c3;replace c4:=HX.out.cell c4;replace c5:=HX.out.cell c5;replace c6:=HX.out.cell c6;replace c7:=HX.out.cell c7;replace c8:=HX.out.cell c8;obtain ⟨ra,rn,rc,ea,en,ec,ca,cn,cc⟩:=h;have HRg:=gH hat.regs;have HDk:=gH (allR_take hdk);have hr1:=HR16.out d (List.mem_of_getElem? hdk)
    have hP:(allR (l.take k)).length≤256:=by
     have h1:=qIy (l:=l.take k) (fun x hx=>HR16.out x (List.mem_of_mem_take hx));rw [List.length_take] at h1;omega
    have HPre:Hid (∀ j,refR (allR (l.take k)++d.doc.regs.take j)=none→refR (allR l)=none):=by
     show ∀ j,refR (allR (l.take k)++d.doc.regs.take j)=none→refR (allR l)=none
     intro j hj;rw [allR_split l (k+1),HDk.out];have:=refR_pre (d.doc.regs.drop j++allR (l.drop (k+1))) hj;rw [List.append_assoc,← List.append_assoc (d.doc.regs.take j),List.take_append_drop,← List.append_assoc] at this;exact this
    have hrl:=hat.regs.len;dsimp only at HRg hrl;(have hrn:rn≤16:=by omega);clear hdk hat hsz;generalize allR (l.take k)=P at *;have HBd:=gH (Blk.new wr 58 (d.cells ⟨ra,rn,rc,ea,en,ec,ca,cn,cc⟩));have HX1:=gH (HX.out.alloc (.cells (d.cells ⟨ra,rn,rc,ea,en,ec,ca,cn,cc⟩) 58));have HO1:=gH (HO.out.alloc (.cells (d.cells ⟨ra,rn,rc,ea,en,ec,ca,cn,cc⟩) 58));unfold RDoc.cells at HBd HX1 HO1;dsimp only at HBd HX1 HO1;go_upto_region 5 with fail;obtain ⟨gx,hgx⟩:∃ gx,gx=wr.heap.size:=⟨_,rfl⟩;rw [← hgx] at HBd ⊢;obtain ⟨w1,hw1⟩:∃ w1,w1=wr.alloc (.cells #[.string d.reel,.string d.doc.title,.string d.doc.lang,.int .u8 d.doc.rate,.bool d.doc.drop,.int .i64 d.doc.last,.slice ra rn rc,.slice ea en ec,.slice ca cn cc] 58):=⟨_,rfl⟩;rw [← hw1] at HBd HX1 HO1 ⊢;clear hw1 hgx c0 c1 c2 c3 c4 c5 c6 c7 c8 HO;have b6:=HBd.out.cell 6;simp only [gA,gB,gC] at b6;go_wp2_with fail;clear b6
    go_loopw [4,21] (fun v i wq=>Rr2 w rn P d.doc.regs v i wq) (fun _ i _=>rn-(intOf i).toNat)
    case atStart=>exact ⟨0,Nat.zero_le _,rfl,HX1.out,o0,by simpa using HR0.out,HO1.out⟩
    case round =>
     obtain ⟨j,hj,rfl,hxq,o,hro,hown⟩:=hrel;have HXq:=gH hxq;have HOq:=gH hown;have HRo:=gH hro;have hzq:=hxq.size;(have hql:o.length≤300:=by have:=refR_len hro;rw [List.length_append,List.length_take] at this;omega);clear hxq hown hro
     by_cases hjt:j<rn
     · obtain ⟨b2,off2,r,rfl,hrk,d0,d1,d2,d3,d4,d5,d6⟩:=(HRg.out.ext HXq.out).at_ hjt
       (have HSt:Hid (refR (P++d.doc.regs.take (j+1))=qJd o r):=by show _=_;rw [take_snoc' _ _ _ hrk,← List.append_assoc,refR_snoc,HRo.out];rfl);clear hrk;have HBr:=gH (Blk.new wr 105 #[.string r.name,.int .i64 r.top,.int .i64 r.height,.int .i64 r.left,.int .i64 r.width,.int .u8 r.align,.bool r.bottom]);have HXr:=gH (HXq.out.alloc (.cells #[.string r.name,.int .i64 r.top,.int .i64 r.height,.int .i64 r.left,.int .i64 r.width,.int .u8 r.align,.bool r.bottom] 105));have HOr:=gH (HOq.out.alloc (.cells #[.string r.name,.int .i64 r.top,.int .i64 r.height,.int .i64 r.left,.int .i64 r.width,.int .u8 r.align,.bool r.bottom] 105));go_upto_region 8 with fail;obtain ⟨gr,hgr0⟩:∃ gr,gr=wr.heap.size:=⟨_,rfl⟩;rw [← hgr0] at HBr ⊢;obtain ⟨w1q,hw1q⟩:∃ w1q,w1q=wr.alloc (.cells #[.string r.name,.int .i64 r.top,.int .i64 r.height,.int .i64 r.left,.int .i64 r.width,.int .u8 r.align,.bool r.bottom] 105):=⟨_,rfl⟩;rw [← hw1q] at HBr HXr HOr ⊢;clear hw1q hgr0 d0 d1 d2 d3 d4 d5 d6 HOq HXq;have hzr1:=HXr.out.size
       rcases HOr.out.2 with ⟨hv,h0⟩ | ⟨g,cap,cur,hv,-⟩
       · have HNil:=gH (List.length_eq_zero_iff.1 h0)
         subst hv;(have HSt2:Hid (refR (P++d.doc.regs.take (j+1))=some [r]):=by show _=_;rw [HSt.out,HNil.out];rfl);clear HSt h0;go_wp2_with fail
         go_loopw [9] (fun i wr=>Rr3 w1q [] r i wr) (fun i _=>0-(intOf i).toNat)
         case atStart=>exact ⟨0,Nat.zero_le _,rfl,Ext.refl _⟩
         case round =>
          obtain ⟨k',hk',rfl,hx⟩:=hrel;have HX3:=gH hx;(have hk0:k'=0:=by simp [qDa] at hk';exact hk');subst hk0;(have hcg:=fun o=>(HBr.out.ext hx).cell o);clear hx hk';go_wp2_with fail;go_quiet (fail);clear hcg;go_upto_region 11 with fail;refine qBs ?_;intro w3 hx3 hs3;have HX30:=gH (HX3.out.trans hx3);(have hcg:=fun o=>(HBr.out.ext HX30.out).cell o);clear hx3 hs3;go_wp2_with fail;go_quiet (fail);clear hcg;go_upto_region 14 with fail;refine qBs ?_;intro w4 hx4 hs4;have HX4:=gH (HXr.out.trans (HX30.out.trans hx4));have HB4:=gH (HBr.out.ext (HX30.out.trans hx4));have HT1:Hid (Sl w4 7 (Cells Reg.vals) none 0 []):=Sl.nil;(have HT2:Hid (∀ A,Sl w4 7 (Cells Reg.vals) A 0 []):=fun A=>Sl.nil);have hsz4:=HX4.out.size;clear hx4 hs4
          go_wp2_with (first | (refine qAc rfl 105 (.tmp 8) rfl gr 105 _ _ (by exact rfl) (by exact HB5.out) Tryz.underlying105 rfl (by exact qBw) ?_) | (at_builtin;refine qAl rfl (.tmp 61) (.tmp 64) 48 rfl qDp Tryz.underlying48 rfl (by decide) (by exact own_nil0' (base:=w4.heap.size) rfl (Nat.le_refl _)) (by exact rfl) (by exact rfl) (by exact Sl.ext (Cells.stays _) HT1.out ((Ext.refl w4).alloc _)) (fun _=>rfl) qGm (by omega) (by simp [maxLen]<;>omega) (by first | omega | (simp;omega) | simp) ?_;intro v1 w5 hown1 hgr1 hnil1;have hx5:Ext w4 w5:=Ext.grown ((Ext.refl w4).alloc _) hgr1 (fun q hq=>by simp [Value.ownBlock] at hq;omega);have hs5:=hx5.size;have HB5:=gH (HB4.out.ext hx5);have HO1:=gH hown1;clear hown1 hgr1) | (at_builtin;refine qAf rfl (.tmp 66) (.tmp 68) 48 rfl qDp Tryz.underlying48 rfl (by decide) (HO1.out.alloc _) (by exact rfl) w5.heap.size _ (by exact rfl) (by exact Blk.new' rfl) (by exact rfl) (by simp [Value.oneCell']) (by omega) (by simp [maxLen]<;>omega) (by first | omega | (simp;omega) | simp) ?_;intro v2 w6 hown2 hgr2;have hx6:Ext w4 w6:=Ext.grown (hx5.alloc _) hgr2 (fun q hq=>by have:=qAp HO1.out q hq;omega);have hs6:=hx6.size;have HO2:=gH hown2;have HX6:=gH hx6;have HT6:=gH (fun A=>Sl.ext (Cells.stays _) (HT2.out A) hx6);clear hown2 hgr2) | (at_builtin;refine qAl rfl (.tmp 70) (.tmp 73) 48 rfl qDp Tryz.underlying48 rfl (by decide) (by exact HO2.out) (by exact rfl) (by exact rfl) (by first | exact HT6.out | exact HT6.out _) (fun _=>rfl) qGm (by omega) (by simp [maxLen]<;>omega) (by first | omega | (simp;omega) | simp) ?_;intro v3 w7 hown3 hgr3 hnil3;have hx7:Ext w4 w7:=Ext.grown HX6.out hgr3 (fun q hq=>by have:=qAp HO2.out q hq;omega);have HO3:=gH hown3;clear hown3 hgr3))
          exact ⟨⟨j+1,by omega,by go_num,HX4.out.trans hx7,[r],HSt2.out,own_le' HO3.out hsz4⟩,by simp [intOf];omega⟩
       · subst hv
         have HOw:=gH (own_two HOr.out);have hcap:=HOw.out.2.2;have HRA:=gH HOw.out.2.1;have HSl:=gH HOw.out.1;clear HOw;have hpl:=insAtR_le o r;go_wp2_with fail
         go_loopw [9] (fun i wr=>Rr3 w1q o r i wr) (fun i _=>o.length-(intOf i).toNat)
         case atStart=>exact ⟨0,Nat.zero_le _,rfl,Ext.refl _⟩
         case round =>
          obtain ⟨k,hk,rfl,hx⟩:=hrel;have HX3:=gH hx;have hcg:=(HBr.out.ext hx).cell 0;simp only [gA,gB,gC] at hcg;clear hx
          by_cases hlo:k<o.length
          · have hji:(k:Int)<(o.length:Int):=by omega
            obtain ⟨b3,off3,x,hA',hxk,c0,c1,c2,c3,c4,c5,c6⟩:=(HRA.out.ext HX3.out).at_ hlo
            cases hA'
            simp only [Nat.zero_add,Nat.add_zero] at c0 c1 c2 c3 c4 c5 c6;have HGo:=gH (insAtR_go hk hxk);have HXk:=gH hxk;have HC6:=gH (And.intro c0 (And.intro c1 (And.intro c2 (And.intro c3 (And.intro c4 (And.intro c5 c6))))));clear hxk c1 c2 c3 c4 c5 c6
            by_cases ht:nmR x<nmR r
            · have hk1:k+1≤qDa o r:=HGo.out.1 ht
              (have hd:Op.bytesLess x.name.toList r.name.toList=true:=by rw [bytesLess_eq];simpa [nmR] using ht);clear ht;go_wp2_with fail;go_quiet (fail);go_wp2_with fail;exact ⟨⟨k+1,hk1,by go_num,HX3.out.drewN _⟩,by simp [intOf];omega⟩
            · have HK:=gH (HGo.out.2 ht)
              (have hd:Op.bytesLess x.name.toList r.name.toList=false:=by rw [bytesLess_eq];simpa [nmR] using ht);clear HGo ht;go_wp2_with fail;go_quiet (fail);clear c0 hcg hd;go_upto_region 11 with fail;refine qBs ?_;intro w3 hx3 hs3;have HX30:=gH (HX3.out.trans hx3);have hcg:=(HBr.out.ext HX30.out).cell 0;simp only [gA,gB,gC] at hcg;have c0:=hx3.cell HC6.out.1;have HC3:=gH (And.intro (hx3.cell HC6.out.2.1) (And.intro (hx3.cell HC6.out.2.2.1) (And.intro (hx3.cell HC6.out.2.2.2.1) (And.intro (hx3.cell HC6.out.2.2.2.2.1) (And.intro (hx3.cell HC6.out.2.2.2.2.2.1) (hx3.cell HC6.out.2.2.2.2.2.2))))));have HC0:=gH c0;clear hx3 hs3
              by_cases hn:nmR x=nmR r
              · have hd:(x.name.toList == r.name.toList)=true:=by simpa [nmR] using hn
                by_cases hq:x=r
                · subst hq
                  have HI:=gH (insRg_eq HK.out HXk.out);(have hne:=fun w=>neq_reg_no x w);unfold Reg.val at hne;clear hn;go_wp2_with fail;go_quiet (fail);clear hcg hd c0;go_upto_region 12 with fail;refine qBs ?_;intro w4 hx4 hs4;have HX4:=gH (HX30.out.trans hx4);have HB4:=gH (HBr.out.ext HX4.out);have e0:=hx4.cell HC0.out;have e1:=hx4.cell HC3.out.1;have e2:=hx4.cell HC3.out.2.1;have e3:=hx4.cell HC3.out.2.2.1;have e4:=hx4.cell HC3.out.2.2.2.1;have e5:=hx4.cell HC3.out.2.2.2.2.1;have e6:=hx4.cell HC3.out.2.2.2.2.2;have f0:=HB4.out.cell 0;have f1:=HB4.out.cell 1;have f2:=HB4.out.cell 2;have f3:=HB4.out.cell 3;have f4:=HB4.out.cell 4;have f5:=HB4.out.cell 5;have f6:=HB4.out.cell 6;simp only [gA,gB,gC] at f0 f1 f2 f3 f4 f5 f6;clear hx4 hs4;go_wp2_with fail;go_quiet (fail);go_wp2_with fail;exact ⟨⟨j+1,by omega,by go_num,HXr.out.trans (HX4.out.drewN _),o,by rw [HSt.out,HI.out],qAh HOr.out (HX4.out.drewN _)⟩,by simp [intOf];omega⟩
                · have HI:=gH (insRg_bad HK.out HXk.out hn hq)
                  (have hne:=fun w=>neq_reg_yes x r hq w);unfold Reg.val at hne;clear hn hq;go_wp2_with fail;go_quiet (fail);clear hcg hd c0;go_upto_region 12 with fail;refine qBs ?_;intro w4 hx4 hs4;have HX4:=gH (HX30.out.trans hx4);have HB4:=gH (HBr.out.ext HX4.out);have e0:=hx4.cell HC0.out;have e1:=hx4.cell HC3.out.1;have e2:=hx4.cell HC3.out.2.1;have e3:=hx4.cell HC3.out.2.2.1;have e4:=hx4.cell HC3.out.2.2.2.1;have e5:=hx4.cell HC3.out.2.2.2.2.1;have e6:=hx4.cell HC3.out.2.2.2.2.2;have f0:=HB4.out.cell 0;have f1:=HB4.out.cell 1;have f2:=HB4.out.cell 2;have f3:=HB4.out.cell 3;have f4:=HB4.out.cell 4;have f5:=HB4.out.cell 5;have f6:=HB4.out.cell 6;simp only [gA,gB,gC] at f0 f1 f2 f3 f4 f5 f6;clear hx4 hs4;go_wp2_with fail;go_quiet (fail);go_wp2_with fail;go_ret2;exact ⟨HXr.out.trans (HX4.out.drewN _),.inl ⟨HPre.out (j+1) (by rw [HSt.out,HI.out]),rfl⟩⟩
              · have hd:(x.name.toList == r.name.toList)=false:=beq_eq_false_iff_ne.2 hn
                have HI:=gH (insRg_mid HK.out HXk.out hn);clear hn;go_wp2_with fail;go_quiet (fail);clear hcg hd c0;go_upto_region 14 with fail;refine qBs ?_;intro w4 hx4 hs4;have HX40:=gH (HX30.out.trans hx4);have HX4:=gH (HXr.out.trans HX40.out);have HB4:=gH (HBr.out.ext HX40.out);have HT1:=gH ((Sl.ext (Cells.stays _) HSl.out HX40.out).take (by omega:k≤o.length));(have HT2:Hid (Sl w4 7 (Cells Reg.vals) (some ⟨g,k*7,none⟩) (o.length-k) (o.drop k)):=by have h:=(Sl.ext (Cells.stays _) HSl.out HX40.out).drop k;rw [Nat.zero_add] at h;exact h);have hsz4:=HX4.out.size;clear hx4 hs4
                go_wp2_with (first | (refine qAc rfl 105 (.tmp 8) rfl gr 105 _ _ (by exact rfl) (by exact HB5.out) Tryz.underlying105 rfl (by exact qBw) ?_) | (at_builtin;refine qAl rfl (.tmp 61) (.tmp 64) 48 rfl qDp Tryz.underlying48 rfl (by decide) (by exact own_nil0' (base:=w4.heap.size) rfl (Nat.le_refl _)) (by exact rfl) (by exact rfl) (by exact Sl.ext (Cells.stays _) HT1.out ((Ext.refl w4).alloc _)) (fun _=>rfl) qGm (by omega) (by simp [maxLen]<;>omega) (by first | omega | (simp;omega) | simp) ?_;intro v1 w5 hown1 hgr1 hnil1;have hx5:Ext w4 w5:=Ext.grown ((Ext.refl w4).alloc _) hgr1 (fun q hq=>by simp [Value.ownBlock] at hq;omega);have hs5:=hx5.size;have HB5:=gH (HB4.out.ext hx5);have HO1:=gH hown1;clear hown1 hgr1) | (at_builtin;refine qAf rfl (.tmp 66) (.tmp 68) 48 rfl qDp Tryz.underlying48 rfl (by decide) (HO1.out.alloc _) (by exact rfl) w5.heap.size _ (by exact rfl) (by exact Blk.new' rfl) (by exact rfl) (by simp [Value.oneCell']) (by omega) (by simp [maxLen]<;>omega) (by first | omega | (simp;omega) | simp) ?_;intro v2 w6 hown2 hgr2;have hx6:Ext w4 w6:=Ext.grown (hx5.alloc _) hgr2 (fun q hq=>by have:=qAp HO1.out q hq;omega);have hs6:=hx6.size;have HO2:=gH hown2;have HX6:=gH hx6;have HT6:=gH (Sl.ext (Cells.stays _) HT2.out hx6);clear hown2 hgr2) | (at_builtin;refine qAl rfl (.tmp 70) (.tmp 73) 48 rfl qDp Tryz.underlying48 rfl (by decide) (by exact HO2.out) (by exact rfl) (by exact rfl) (by first | exact HT6.out | exact HT6.out _) (fun _=>rfl) qGm (by omega) (by simp [maxLen]<;>omega) (by first | omega | (simp;omega) | simp) ?_;intro v3 w7 hown3 hgr3 hnil3;have hx7:Ext w4 w7:=Ext.grown HX6.out hgr3 (fun q hq=>by have:=qAp HO2.out q hq;omega);have HO3:=gH hown3;clear hown3 hgr3))
                exact ⟨⟨j+1,by omega,by go_num,HX4.out.trans hx7,o.take k++r :: o.drop k,by rw [HSt.out,HI.out],by have h1:=own_le' HO3.out hsz4;have hl2:(o.take k++r :: o.drop k).length=k+1+(o.length-k):=(by simp [List.length_take];omega);have hl3:o.take k++r :: o.drop k=o.take k++[r]++o.drop k:=(by simp);rw [hl2,hl3,List.flatMap_append,List.flatMap_append];rw [Nat.zero_add] at h1;exact h1⟩,by simp [intOf];omega⟩
          · have hkl:k=o.length:=by omega
            (have HK:Hid (qDa o r=k):=by show _=_;omega);have HI:=gH (insRg_end HK.out hkl);(have hji:decide ((k:Int)<(o.length:Int))=false:=by simp;omega);(have hk1:k≤o.length:=by omega);clear hkl;go_wp2_with fail;go_quiet (fail);clear hcg;go_upto_region 11 with fail;refine qBs ?_;intro w3 hx3 hs3;have HX30:=gH (HX3.out.trans hx3);clear hx3 hs3;go_wp2_with fail;go_quiet (fail);go_upto_region 14 with fail;refine qBs ?_;intro w4 hx4 hs4;have HX40:=gH (HX30.out.trans hx4);have HX4:=gH (HXr.out.trans HX40.out);have HB4:=gH (HBr.out.ext HX40.out);have HT1:=gH ((Sl.ext (Cells.stays _) HSl.out HX40.out).take (by omega:k≤o.length));(have HT2:Hid (∀ A,Sl w4 7 (Cells Reg.vals) A (o.length-k) (o.drop k)):=fun A=>⟨by simp,fun h=>absurd h (by omega)⟩);have hsz4:=HX4.out.size;clear hx4 hs4
            go_wp2_with (first | (refine qAc rfl 105 (.tmp 8) rfl gr 105 _ _ (by exact rfl) (by exact HB5.out) Tryz.underlying105 rfl (by exact qBw) ?_) | (at_builtin;refine qAl rfl (.tmp 61) (.tmp 64) 48 rfl qDp Tryz.underlying48 rfl (by decide) (by exact own_nil0' (base:=w4.heap.size) rfl (Nat.le_refl _)) (by exact rfl) (by exact rfl) (by exact Sl.ext (Cells.stays _) HT1.out ((Ext.refl w4).alloc _)) (fun _=>rfl) qGm (by omega) (by simp [maxLen]<;>omega) (by first | omega | (simp;omega) | simp) ?_;intro v1 w5 hown1 hgr1 hnil1;have hx5:Ext w4 w5:=Ext.grown ((Ext.refl w4).alloc _) hgr1 (fun q hq=>by simp [Value.ownBlock] at hq;omega);have hs5:=hx5.size;have HB5:=gH (HB4.out.ext hx5);have HO1:=gH hown1;clear hown1 hgr1) | (at_builtin;refine qAf rfl (.tmp 66) (.tmp 68) 48 rfl qDp Tryz.underlying48 rfl (by decide) (HO1.out.alloc _) (by exact rfl) w5.heap.size _ (by exact rfl) (by exact Blk.new' rfl) (by exact rfl) (by simp [Value.oneCell']) (by omega) (by simp [maxLen]<;>omega) (by first | omega | (simp;omega) | simp) ?_;intro v2 w6 hown2 hgr2;have hx6:Ext w4 w6:=Ext.grown (hx5.alloc _) hgr2 (fun q hq=>by have:=qAp HO1.out q hq;omega);have hs6:=hx6.size;have HO2:=gH hown2;have HX6:=gH hx6;have HT6:=gH (fun A=>Sl.ext (Cells.stays _) (HT2.out A) hx6);clear hown2 hgr2) | (at_builtin;refine qAl rfl (.tmp 70) (.tmp 73) 48 rfl qDp Tryz.underlying48 rfl (by decide) (by exact HO2.out) (by exact rfl) (by exact rfl) (by first | exact HT6.out | exact HT6.out _) (fun _=>rfl) qGm (by omega) (by simp [maxLen]<;>omega) (by first | omega | (simp;omega) | simp) ?_;intro v3 w7 hown3 hgr3 hnil3;have hx7:Ext w4 w7:=Ext.grown HX6.out hgr3 (fun q hq=>by have:=qAp HO2.out q hq;omega);have HO3:=gH hown3;clear hown3 hgr3))
            exact ⟨⟨j+1,by omega,by go_num,HX4.out.trans hx7,o.take k++r :: o.drop k,by rw [HSt.out,HI.out],by have h1:=own_le' HO3.out hsz4;have hl2:(o.take k++r :: o.drop k).length=k+1+(o.length-k):=(by simp [List.length_take];omega);have hl3:o.take k++r :: o.drop k=o.take k++[r]++o.drop k:=(by simp);rw [hl2,hl3,List.flatMap_append,List.flatMap_append];rw [Nat.zero_add] at h1;exact h1⟩,by simp [intOf];omega⟩
     · have hjm:j=rn:=by omega
       subst hjm;(have HT:Hid (refR (allR (l.take (k+1)))=some o):=by show _=_;rw [HDk.out,← HRo.out,List.take_of_length_le (by omega)]);go_wp2_with fail;exact ⟨⟨k+1,by omega,by go_num,HXq.out,o,HT.out,HOq.out⟩,by simp [intOf];omega⟩
  · have hkn:k=n:=by omega
    subst hkn;(have HT:Hid (refR (allR l)=some o0):=by show _=_;rw [← HR0.out,List.take_of_length_le (by have:=HLn.out;omega)]);go_wp2_with fail;go_ret2;exact ⟨HX.out,.inr ⟨_,o0,HT.out,rfl,HO.out⟩⟩
end
section
open Go.RowKit
set_option maxHeartbeats 400000 in
theorem qGy (w:World):Calls Tryz.prog 226 #[] w fun e w'=>e = .returned Reg.default.val∧Ext w w':=by
 go_enter Tryz.func226,Tryz.ntmps226;go_wp2;exact bodyPost_ret (v:=Reg.default.val) (by simp [results,Tryz.results226,go_sem,Reg.val,Reg.default];rfl) rfl ⟨rfl,(Ext.refl w).alloc _⟩
set_option maxHeartbeats 4000000 in
theorem qNe (r:Reg) (w:World) (hs:r.name.size≤9223372036854775807):Calls Tryz.prog 170 #[r.val] w fun e w'=>e = .returned (.int .i64 r.check)∧Ext w w':=by
 obtain ⟨nm,top,hgt,lft,wid,al,bot⟩:=r;unfold Reg.val;dsimp only
 cases hn:qBm nm
 · have HN:=gH hn
   (have HF:Hid (Reg.check ⟨nm,top,hgt,lft,wid,al,bot⟩=5):=by show Reg.check _=5;unfold Reg.check;rw [if_pos hn]);clear hn;go_enter Tryz.func170,Tryz.ntmps170;go_wp2_with fail;refine (qBt nm _ hs).mono ?_;rintro e w1 ⟨rfl,hx1⟩;rw [HN.out];go_wp2_with fail;go_ret;exact ⟨qAa HF.out.symm,((Ext.refl w).alloc _).trans hx1⟩
 have HN:=gH hn
 have HC:Hid (Reg.check ⟨nm,top,hgt,lft,wid,al,bot⟩=if ¬ Reg.inGrid ⟨nm,top,hgt,lft,wid,al,bot⟩ then 2 else if al<1∨3<al then 3 else 0):=by
  show Reg.check _=_
  unfold Reg.check;rw [if_neg (by rw [hn];simp)]
 have HI:Hid (Reg.inGrid ⟨nm,top,hgt,lft,wid,al,bot⟩↔((0≤top∧top≤14)∧(1≤hgt∧hgt≤15-top)∧(0≤lft∧lft≤31)∧(1≤wid∧wid≤32-lft))):=Iff.rfl;clear hn
 by_cases h0:top<0
 · go_enter Tryz.func170,Tryz.ntmps170
   go_wp2_with fail;refine (qBt nm _ hs).mono ?_;rintro e w1 ⟨rfl,hx1⟩;rw [HN.out];(have hc:=fun o u=>hx1.cell (p:=⟨w.heap.size,o,none⟩) (u:=u));simp at hc;have hx1':=gH hx1;clear hx1;go_wp2_with fail;go_ret;exact ⟨qAa (by rw [HC.out,if_pos (by rw [HI.out];omega)]),((Ext.refl w).alloc _).trans hx1'.out⟩
 by_cases h1:14<top
 · go_enter Tryz.func170,Tryz.ntmps170
   go_wp2_with fail;refine (qBt nm _ hs).mono ?_;rintro e w1 ⟨rfl,hx1⟩;rw [HN.out];(have hc:=fun o u=>hx1.cell (p:=⟨w.heap.size,o,none⟩) (u:=u));simp at hc;have hx1':=gH hx1;clear hx1;go_wp2_with fail;go_ret;exact ⟨qAa (by rw [HC.out,if_pos (by rw [HI.out];omega)]),((Ext.refl w).alloc _).trans hx1'.out⟩
 by_cases h2:hgt<1
 · go_enter Tryz.func170,Tryz.ntmps170
   go_wp2_with fail;refine (qBt nm _ hs).mono ?_;rintro e w1 ⟨rfl,hx1⟩;rw [HN.out];(have hc:=fun o u=>hx1.cell (p:=⟨w.heap.size,o,none⟩) (u:=u));simp at hc;have hx1':=gH hx1;clear hx1;go_wp2_with fail;go_ret;exact ⟨qAa (by rw [HC.out,if_pos (by rw [HI.out];omega)]),((Ext.refl w).alloc _).trans hx1'.out⟩
 by_cases h3:15-top<hgt
 · go_enter Tryz.func170,Tryz.ntmps170
   go_wp2_with fail;refine (qBt nm _ hs).mono ?_;rintro e w1 ⟨rfl,hx1⟩;rw [HN.out];(have hc:=fun o u=>hx1.cell (p:=⟨w.heap.size,o,none⟩) (u:=u));simp at hc;have hx1':=gH hx1;clear hx1;go_wp2_with fail;go_ret;exact ⟨qAa (by rw [HC.out,if_pos (by rw [HI.out];omega)]),((Ext.refl w).alloc _).trans hx1'.out⟩
 by_cases h4:lft<0
 · go_enter Tryz.func170,Tryz.ntmps170
   go_wp2_with fail;refine (qBt nm _ hs).mono ?_;rintro e w1 ⟨rfl,hx1⟩;rw [HN.out];(have hc:=fun o u=>hx1.cell (p:=⟨w.heap.size,o,none⟩) (u:=u));simp at hc;have hx1':=gH hx1;clear hx1;go_wp2_with fail;go_ret;exact ⟨qAa (by rw [HC.out,if_pos (by rw [HI.out];omega)]),((Ext.refl w).alloc _).trans hx1'.out⟩
 by_cases h5:31<lft
 · go_enter Tryz.func170,Tryz.ntmps170
   go_wp2_with fail;refine (qBt nm _ hs).mono ?_;rintro e w1 ⟨rfl,hx1⟩;rw [HN.out];(have hc:=fun o u=>hx1.cell (p:=⟨w.heap.size,o,none⟩) (u:=u));simp at hc;have hx1':=gH hx1;clear hx1;go_wp2_with fail;go_ret;exact ⟨qAa (by rw [HC.out,if_pos (by rw [HI.out];omega)]),((Ext.refl w).alloc _).trans hx1'.out⟩
 by_cases h6:wid<1
 · go_enter Tryz.func170,Tryz.ntmps170
   go_wp2_with fail;refine (qBt nm _ hs).mono ?_;rintro e w1 ⟨rfl,hx1⟩;rw [HN.out];(have hc:=fun o u=>hx1.cell (p:=⟨w.heap.size,o,none⟩) (u:=u));simp at hc;have hx1':=gH hx1;clear hx1;go_wp2_with fail;go_ret;exact ⟨qAa (by rw [HC.out,if_pos (by rw [HI.out];omega)]),((Ext.refl w).alloc _).trans hx1'.out⟩
 by_cases h7:32-lft<wid
 · go_enter Tryz.func170,Tryz.ntmps170
   go_wp2_with fail;refine (qBt nm _ hs).mono ?_;rintro e w1 ⟨rfl,hx1⟩;rw [HN.out];(have hc:=fun o u=>hx1.cell (p:=⟨w.heap.size,o,none⟩) (u:=u));simp at hc;have hx1':=gH hx1;clear hx1;go_wp2_with fail;go_ret;exact ⟨qAa (by rw [HC.out,if_pos (by rw [HI.out];omega)]),((Ext.refl w).alloc _).trans hx1'.out⟩
 by_cases e1:al=1
 · subst e1
   go_enter Tryz.func170,Tryz.ntmps170;go_wp2_with fail;refine (qBt nm _ hs).mono ?_;rintro e w1 ⟨rfl,hx1⟩;rw [HN.out];(have hc:=fun o u=>hx1.cell (p:=⟨w.heap.size,o,none⟩) (u:=u));simp at hc;have hx1':=gH hx1;clear hx1;go_wp2_with fail;go_ret;exact ⟨qAa (by rw [HC.out,if_neg (by rw [HI.out];omega),if_neg (by omega)]),((Ext.refl w).alloc _).trans hx1'.out⟩
 have f1:(al != 1)=true:=by simpa using e1
 by_cases e2:al=2
 · subst e2
   go_enter Tryz.func170,Tryz.ntmps170;go_wp2_with fail;refine (qBt nm _ hs).mono ?_;rintro e w1 ⟨rfl,hx1⟩;rw [HN.out];(have hc:=fun o u=>hx1.cell (p:=⟨w.heap.size,o,none⟩) (u:=u));simp at hc;have hx1':=gH hx1;clear hx1;go_wp2_with fail;go_ret;exact ⟨qAa (by rw [HC.out,if_neg (by rw [HI.out];omega),if_neg (by omega)]),((Ext.refl w).alloc _).trans hx1'.out⟩
 have f2:(al != 2)=true:=by simpa using e2
 by_cases e3:al=3
 · subst e3
   go_enter Tryz.func170,Tryz.ntmps170;go_wp2_with fail;refine (qBt nm _ hs).mono ?_;rintro e w1 ⟨rfl,hx1⟩;rw [HN.out];(have hc:=fun o u=>hx1.cell (p:=⟨w.heap.size,o,none⟩) (u:=u));simp at hc;have hx1':=gH hx1;clear hx1;go_wp2_with fail;go_ret;exact ⟨qAa (by rw [HC.out,if_neg (by rw [HI.out];omega),if_neg (by omega)]),((Ext.refl w).alloc _).trans hx1'.out⟩
 (have f3:(al != 3)=true:=by simpa using e3);go_enter Tryz.func170,Tryz.ntmps170;go_wp2_with fail;refine (qBt nm _ hs).mono ?_;rintro e w1 ⟨rfl,hx1⟩;rw [HN.out];(have hc:=fun o u=>hx1.cell (p:=⟨w.heap.size,o,none⟩) (u:=u));simp at hc;have hx1':=gH hx1;clear hx1;go_wp2_with fail;go_ret;exact ⟨qAa (by rw [HC.out,if_neg (by rw [HI.out];omega),if_pos (by omega)]),((Ext.refl w).alloc _).trans hx1'.out⟩
end
end Go.Proofs.YtablhmobekmflaaGreatDoor