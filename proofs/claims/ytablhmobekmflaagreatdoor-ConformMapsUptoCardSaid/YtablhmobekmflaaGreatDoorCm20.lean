/- Texts laid together. -/
import Derived.Test.YtablhmobekmflaaGreatDoorCm19
import Derived.Test.YtablhmobekmflaaGreatDoorCm07
import Derived.Test.YtablhmobekmflaaGreatDoorCm09
import Derived.Test.YtablhmobekmflaaGreatDoorCm04
import Derived.Test.YtablhmobekmflaaGreatDoorCm10
import Derived.Test.YtablhmobekmflaaGreatDoorCm11
set_option linter.unusedVariables false
set_option linter.unusedSimpArgs false
set_option maxRecDepth 100000
namespace Go.Proofs.YtablhmobekmflaaGreatDoor
section
open Go.RowKit
set_option maxHeartbeats 2000000 in
theorem qOf (A:Option Addr) (n c:Nat) (l:Row) (w:World) (hE:Env w) (hl:qCt w A n l) (hb:∀ r∈l,r.text.size≤4611686018427387904∧r.ruby.size≤4611686018427387904) (hn:n≤4611686018427387904) :
 Calls Tryz.prog 173 #[.agg #[.slice A n c]] w fun e w'=>e = .returned (.int .i64 (qCl l))∧Ext w w':=by
 have HL:=gH hl;have HLn:=gH hl.len;have HEn:=gH hE;have HBd:=gH hb;clear hl hE hb
 by_cases h16:16<n
 · have HF:Hid (qCl l=9):=by show qCl l=9;unfold qCl;rw [if_pos (by rw [HLn.out];exact h16)]
   (have h16':(16:Int)<(n:Int):=by omega);go_enter Tryz.func173,Tryz.ntmps173;go_wp2_with fail;go_ret;exact ⟨qAa HF.out.symm,(Ext.refl w).alloc _⟩
 · have HF:Hid (qCl l=qCm none l):=by show qCl l=_;unfold qCl;rw [if_neg (by rw [HLn.out];exact h16)]
   (have h16':(n:Int)≤16:=by omega);clear h16;go_enter Tryz.func173,Tryz.ntmps173;go_wp2_with fail
   go_loopw [12] (fun i wr=>CheckRel w #[.slice A n c] n l i wr) (fun i _=>n-(intOf i).toNat)
   case atStart=>exact ⟨0,Nat.zero_le _,rfl,Ext.refl _,rfl⟩
   case round =>
    obtain ⟨k,hk,rfl,hx,hp⟩:=hrel;have HP:=gH hp;clear hp;have hxw:Ext w wr:=((Ext.refl w).alloc _).trans hx
    by_cases hlt:k<n
    · have HB0:=gH (Blk.ext (Blk.new w _ _) hx)
      obtain ⟨b,off,r,rfl,hr,hC⟩:=(HL.out.ext hxw).at_ hlt;obtain ⟨c0,c1,c2,c3,c4⟩:=hC;have HD:=gH (qDe l k r hr);have HA:=gH (ahead_succ l k r hr);have hbd:=HBd.out r (List.mem_of_getElem? hr);obtain ⟨hb1,hb2⟩:=hbd;have HR:=gH hr;clear hr
      have HPs:Hid (qCm none l=if qDj (ahead l k) r=0 then qCm (ahead l (k+1)) (l.drop (k+1)) else qDj (ahead l k) r):=by
       show _=_
       rw [HP.out,HD.out,HA.out];rfl
      clear HP HD HA;have hblt:w.heap.size<wr.heap.size:=HB0.out.lt;(have hbne:w.heap.size≠wr.heap.size:=by omega);go_wp2_with fail;refine (qEz r.text _ (by omega)).mono ?_;rintro e w2 ⟨rfl,hx2⟩;have HB2:=gH (Blk.ext (Blk.new wr _ _) hx2);have hxw2:Ext w w2:=(hxw.alloc _).trans hx2
      cases hv:vld r.text
      · have HV:=gH hv
        clear hv;go_wp2_with fail;go_ret;refine ⟨qAa ?_,hxw2⟩;rw [HF.out,HPs.out,runErr_text HV.out];rfl
      · have HV:=gH hv
        clear hv;(have hc2:=fun o=>HB2.out.cell o)
        cases he:r.text.toList.isEmpty
        · by_cases hcol:r.color≤6
          · go_wp2_with fail
            refine (qOj _ _ _ _).mono ?_;rintro e w3 ⟨rfl,hx3⟩;have HB3:=gH (HB2.out.ext hx3);clear hc2;(have hc3:=fun o=>HB3.out.cell o);go_wp2_with fail;refine (qEz r.ruby _ (by omega)).mono ?_;rintro e w4 ⟨rfl,hx4⟩;have HB4:=gH (HB3.out.ext hx4);have hxw4:Ext w w4:=(hxw2.trans hx3).trans hx4;clear hc3
            cases hvr:vld r.ruby
            · have HVr:=gH hvr
              clear hvr;go_wp2_with fail;go_ret;refine ⟨qAa ?_,hxw4⟩;rw [HF.out,HPs.out,qOm HV.out he hcol HVr.out];rfl
            · have HVr:=gH hvr
              clear hvr;have HE2:=gH (runErr_last (p:=ahead l k) HV.out he hcol HVr.out)
              by_cases hk0:k=0
              · subst hk0
                (have HAl:Hid (qDj (ahead l 0) r=0):=by show _=_;rw [HE2.out];rfl);(have HPt:Hid (qCm none l=qCm (ahead l (0+1)) (l.drop (0+1))):=by show _=_;rw [HPs.out,if_pos HAl.out]);go_wp2_with fail;go_quiet (fail);go_wp2_with fail;exact ⟨⟨0+1,by omega,by go_num,((hx.alloc _).trans ((hx2.trans hx3).trans hx4)).drewN _,HPt.out⟩,by simp [intOf];omega⟩
              · obtain ⟨m,rfl⟩:∃ m,k=m+1:=⟨k-1,by omega⟩
                obtain ⟨q,hq⟩:∃ q,l[m]?=some q:=by
                 (have:m<l.length:=by rw [HLn.out];omega);exact ⟨_,List.getElem?_eq_getElem this⟩
                (have HAh:Hid (ahead l (m+1)=some q):=by show _=_;unfold ahead;rw [if_neg hk0];exact hq);obtain ⟨b',off',q',hA',hq',hC'⟩:=(HL.out.ext hxw4).at_ (i:=m) (by omega)
                cases hA'
                rw [hq] at hq'
                cases hq'
                obtain ⟨d0,d1,d2,d3,d4⟩:=hC';have HQ:=gH hq;clear hq hk0;(have hm0:(0:Int)≤(m:Int):=by omega);(have hm1:(m:Int)<(n:Int):=by omega);(have hm2:(0:Int)<(m:Int)+1:=by omega);(have hm3:m<n:=by omega);have e1:IntKind.i64.wrap (m:Int)=(m:Int):=IntWalk.i64_in _ (by omega);(have hc4:=fun o=>HB4.out.cell o);have HB04:=gH (HB0.out.ext (((Ext.refl wr).alloc _).trans ((hx2.trans hx3).trans hx4)));(have hc0:=fun o=>HB04.out.cell o);have z0:w4.cell? ⟨w.heap.size,0,none⟩=some (.slice (some ⟨b,off,none⟩) n c):=hc0 0;have z1:w4.cell? ⟨wr.heap.size,0,none⟩=some (.string r.text):=hc4 0;have z2:w4.cell? ⟨wr.heap.size,1,none⟩=some (.int .u8 r.color):=hc4 1;have z3:w4.cell? ⟨wr.heap.size,2,none⟩=some (.bool r.italic):=hc4 2;have z4:w4.cell? ⟨wr.heap.size,3,none⟩=some (.bool r.under):=hc4 3;have z5:w4.cell? ⟨wr.heap.size,4,none⟩=some (.string r.ruby):=hc4 4;clear hc0 hc4 c0 c1 c2 c3 c4;have hxa:Ext (w.alloc (.cells #[.slice (some ⟨b,off,none⟩) n c] 174)) w4:=(hx.alloc _).trans ((hx2.trans hx3).trans hx4);have hxw5:Ext w w4:=((Ext.refl w).alloc _).trans hxa;(have hq9:=fun w=>qOn q.color r.color q.italic r.italic q.under r.under w)
                by_cases hs:q.color=r.color∧q.italic=r.italic∧q.under=r.under
                · rw [decide_eq_true hs] at hq9
                  have HSs:=gH hs;clear hs
                  cases hqr:q.ruby.toList.isEmpty
                  · have HAk:Hid (qDk q r=false):=by show _=_;unfold qDk;rw [decide_eq_false (p:=q.ruby.toList=[]) (fun h=>by rw [h] at hqr;exact absurd hqr (by decide))];simp
                    (have HAl:Hid (qDj (ahead l (m+1)) r=0):=by show _=_;rw [HE2.out,HAh.out,Option.any_some,HAk.out];rfl);(have HPt:Hid (qCm none l=qCm (ahead l (m+1+1)) (l.drop (m+1+1))):=by show _=_;rw [HPs.out,if_pos HAl.out]);go_wp2_with fail;go_quiet (fail);go_wp2_with fail;exact ⟨⟨m+1+1,by omega,by go_num,hxa.drewN _,HPt.out⟩,by simp [intOf];omega⟩
                  · cases hrr:r.ruby.toList.isEmpty
                    · have HAk:Hid (qDk q r=false):=by show _=_;unfold qDk;rw [decide_eq_false (p:=r.ruby.toList=[]) (fun h=>by rw [h] at hrr;exact absurd hrr (by decide))];simp
                      (have HAl:Hid (qDj (ahead l (m+1)) r=0):=by show _=_;rw [HE2.out,HAh.out,Option.any_some,HAk.out];rfl);(have HPt:Hid (qCm none l=qCm (ahead l (m+1+1)) (l.drop (m+1+1))):=by show _=_;rw [HPs.out,if_pos HAl.out]);go_wp2_with fail;go_quiet (fail);go_wp2_with fail;exact ⟨⟨m+1+1,by omega,by go_num,hxa.drewN _,HPt.out⟩,by simp [intOf];omega⟩
                    · have HAk:Hid (qDk q r=true):=by show _=_;unfold qDk Run.plainStyle;rw [decide_eq_true (p:=r.ruby.toList=[]) ((qOp _).1 hrr),decide_eq_true (p:=q.ruby.toList=[]) ((qOp _).1 hqr),decide_eq_true HSs.out];rfl
                      (have HAl:Hid (qDj (ahead l (m+1)) r=8):=by show _=_;rw [HE2.out,HAh.out,Option.any_some,HAk.out];rfl);go_wp2_with fail;go_quiet (fail);go_wp2_with fail;go_ret;exact ⟨qAa (by rw [HF.out,HPs.out,HAl.out];rfl),hxw5.drewN _⟩
                · rw [decide_eq_false hs] at hq9
                  (have HAk:Hid (qDk q r=false):=by show _=_;unfold qDk Run.plainStyle;rw [decide_eq_false hs];simp);clear hs;(have HAl:Hid (qDj (ahead l (m+1)) r=0):=by show _=_;rw [HE2.out,HAh.out,Option.any_some,HAk.out];rfl);(have HPt:Hid (qCm none l=qCm (ahead l (m+1+1)) (l.drop (m+1+1))):=by show _=_;rw [HPs.out,if_pos HAl.out]);go_wp2_with fail;go_quiet (fail);go_wp2_with fail;exact ⟨⟨m+1+1,by omega,by go_num,hxa.drewN _,HPt.out⟩,by simp [intOf];omega⟩
          · have HC:=gH hcol
            have hd:decide (r.color≤6)=false:=decide_eq_false hcol;clear hcol;go_wp2_with fail;refine (qOj _ _ _ _).mono ?_;rintro e w3 ⟨rfl,hx3⟩;go_wp2_with fail;go_ret;refine ⟨qAa ?_,hxw2.trans hx3⟩;rw [HF.out,HPs.out,qNi HV.out he (by have:=HC.out;omega)];rfl
        · go_wp2_with fail
          go_ret;refine ⟨qAa ?_,hxw2⟩;rw [HF.out,HPs.out,qMx HV.out he];rfl
    · have HD:Hid (l.drop k=[]):=List.drop_eq_nil_of_le (by rw [HLn.out];omega)
      go_wp2_with fail;go_ret;exact ⟨qAa (by rw [HF.out,HP.out,HD.out];rfl),hxw⟩
end
section
open Go.RowKit
def qEy (l:List Ev) (id:Int):Int:=match qBu l id with | none=>-1 | some k=>(k:Int)
theorem qMe {l:List Ev} {id:Int} {k:Nat} {x:Ev} (h:qBu (l.take k) id=none) (hx:l[k]?=some x) (he:x.id=id):qBu l id=some k:=by
 obtain ⟨hk,hxk⟩:=List.getElem?_eq_some_iff.1 hx;unfold qBu at h ⊢;rw [List.findIdx?_eq_some_iff_getElem];refine ⟨hk,by rw [hxk];simpa using he,fun j hj=>?_⟩;have h2:=List.findIdx?_eq_none_iff.1 h (l[j]'(by omega)) (List.mem_of_getElem? (i:=j) (by rw [List.getElem?_take,if_pos hj];exact List.getElem?_eq_getElem _));simpa using h2
theorem findE_on {l:List Ev} {id:Int} {k:Nat} {x:Ev} (h:qBu (l.take k) id=none) (hx:l[k]?=some x) (he:x.id≠id):qBu (l.take (k+1)) id=none:=by
 rw [take_snoc' l k x hx,qLu,h];simp [he]
def FndRel (w1:World) (n:Nat) (id:Int) (l:List Ev) (i:Value) (wr:World):Prop:=∃ k:Nat,k≤n∧i = .int .i64 k∧qBu (l.take k) id=none∧Ext w1 wr
set_option maxHeartbeats 1000000 in
theorem qOt (d:Doc) (h:DocH) (id:Int) (w:World) (hat:qKw w h.ea h.en d.evs) (hn:h.en≤1000000) :
 Calls Tryz.prog 111 #[.agg (d.cells h),.int .i64 id] w fun e w'=>e = .returned (.int .i64 (qEy d.evs id))∧Ext w w':=by
 have HX:=gH ((Ext.refl w).alloc (.cells (d.cells h) 52));have HE:=gH hat;have HLn:=gH hat.len;(have hb:=fun o=>(Blk.new w 52 (d.cells h)).cell o);clear hat;obtain ⟨ra,rn,rc,ea,n,ec,ca,cn,cc⟩:=h;unfold Doc.cells at *;dsimp only at *;go_enter Tryz.func111,Tryz.ntmps111;go_wp2_with fail;clear hb
 go_loopw [10] (fun i wr=>FndRel w n id d.evs i wr) (fun i _=>n-(intOf i).toNat)
 case atStart=>exact ⟨0,Nat.zero_le _,rfl,rfl,HX.out⟩
 case round =>
  obtain ⟨k,hk,rfl,hF,hx⟩:=hrel;have HF:=gH hF;clear hF
  by_cases hlt:k<n
  · obtain ⟨b,off,x,A',n',c',rfl,hxx,-,c0,c1,c2,c3,c4,c5,c6⟩:=(HE.out.ext hx).at_ev hlt
    have HXx:=gH hxx;clear hxx
    by_cases he:x.id=id
    · have hb:(x.id == id)=true:=by simpa using he
      have HV:=gH (qMe HF.out HXx.out he);clear he;go_wp2_with fail;go_ret;exact ⟨qAa (by unfold qEy;rw [HV.out]),hx.alloc _⟩
    · have hb:(x.id == id)=false:=by simpa using he
      have HV:=gH (findE_on HF.out HXx.out he);clear he;go_wp2_with fail;exact ⟨⟨k+1,by omega,by go_num,HV.out,hx.alloc _⟩,by simp [intOf];omega⟩
  · have hkn:k=n:=by omega
    have HV:Hid (qBu d.evs id=none):=by
     show _=_
     have h1:=HF.out
     rwa [List.take_of_length_le (by rw [HLn.out];omega)] at h1
    subst hkn;go_wp2_with fail;go_ret;exact ⟨qAa (by unfold qEy;rw [HV.out]),hx⟩
set_option maxHeartbeats 400000 in
theorem R11spanned_any (i o:Int) (w:World):Calls Tryz.prog 171 #[.agg #[.int .i64 i,.int .i64 o]] w fun e w'=>e = .returned (.bool (qFh i o))∧Ext w w':=by
 have HX:=gH ((Ext.refl w).alloc (.cells #[.int .i64 i,.int .i64 o] 60))
 by_cases h1:0≤i
 · by_cases h2:i<o
   · go_enter Tryz.func171,Tryz.ntmps171
     go_wp2_with fail;go_ret;refine ⟨qAg ?_,HX.out⟩;unfold qFh
     by_cases h3:o≤5184000
     · rw [decide_eq_true h3,decide_eq_true ⟨h1,h2,h3⟩]
     · rw [decide_eq_false h3,decide_eq_false (fun h=>h3 h.2.2)]
   · go_enter Tryz.func171,Tryz.ntmps171
     go_wp2_with fail;go_ret;exact ⟨qAg (by unfold qFh;rw [decide_eq_false (by omega)]),HX.out⟩
 · go_enter Tryz.func171,Tryz.ntmps171
   go_wp2_with fail;go_ret;exact ⟨qAg (by unfold qFh;rw [decide_eq_false (by omega)]),HX.out⟩
end
section
open Go.RowKit
theorem le_sumN:∀ {l:List Nat} {x:Nat},x∈l→x≤l.sum
 | [],_,h=>by cases h
 | y :: l,x,h=>by
  simp only [List.sum_cons]
  cases List.mem_cons.1 h with
  | inl e=>subst e;omega
  | inr e=>have:=le_sumN e;omega
def ChkRR (w:World) (n:Nat) (rows:List Row) (i v:Value) (wr:World):Prop :=
 ∃ k:Nat,k≤n∧i = .int .i64 k∧Ext w wr∧qAo rows=qAo (rows.drop k)∧wr.ownsRow w.heap.size 3 1 v k (((rows.take k).map qAq).flatMap fun x=>[.int .i64 x])
set_option maxHeartbeats 8000000 in
theorem R11Check_any (e:Ev) (A:Option Addr) (n c:Nat) (A2:Option Addr) (n2 c2:Nat) (regs:List Reg) (w:World) (hE:Env w) (he:EvAt w e A n c) (hb:EvSmall e) (hby:e.bytes≤1099511627776) (hr:qDs w A2 n2 regs) (hr2:n2≤9223372036854775807) (hrs:qGg regs) :
 Calls Tryz.prog 109 #[.agg (e.cells A n c),.slice A2 n2 c2] w fun en w'=>en = .returned (.int .i64 (e.err regs))∧Ext w w':=by
 (have hn24:n*24≤140737488355328:=by have:=he.2;omega);have HR:=gH hr;have HEn:=gH hE;have HLn:=gH he.len;have HSm:=gH hb.2.2;have hspk:=hb.2.1;have hsm:=findR_small (nm:=e.region) hrs;have HA:=gH he
 have HBy:Hid (∀ r∈e.rows,qAk r≤1099511627776):=fun r hr=>by
  have:=le_sumN (l:=e.rows.map qAk) (List.mem_map_of_mem hr);unfold Ev.bytes at hby;omega
 have HX:=gH ((Ext.refl w).alloc (.cells (e.cells A n c) 64));have HB:=gH (Blk.new w 64 (e.cells A n c));have HPl:=gH (fun A n c lens w hl hn=>R10Place_any ((qFo regs e.region).getD Reg.zero) A n c lens w hsm hl hn);clear he hE hr hb hby;unfold Ev.cells at *;go_enter Tryz.func109,Tryz.ntmps109
 by_cases h1:e.id<1
 · have hne:=HB.out.lt
   (have hc_1:=fun o=>HB.out.cell o);go_wp2_with fail;clear hc_1;go_ret;exact ⟨qAa (by unfold Ev.err;rw [if_pos (by omega)]),HX.out⟩
 by_cases h2:1099511627776<e.id
 · have hne:=HB.out.lt
   (have hc_2:=fun o=>HB.out.cell o);go_wp2_with fail;clear hc_2;go_ret;exact ⟨qAa (by unfold Ev.err;rw [if_pos (by omega)]),HX.out⟩
 (have hc_3:=fun o=>HB.out.cell o);go_wp2_with fail;clear hc_3;refine (R11spanned_any _ _ _).mono ?_;rintro en w_4 ⟨rfl,hx_5⟩;have HX_6:=gH (HX.out.trans hx_5);have HB_7:=gH (HB.out.ext hx_5);clear hx_5 HX HB
 cases hs:qFh e.inn e.out
 · have HSp:=gH hs
   clear hs;(have hc_8:=fun o=>HB_7.out.cell o);go_wp2_with fail;clear hc_8;go_ret;exact ⟨qAa (by unfold Ev.err;rw [if_pos (by exact .inr (.inr HSp.out))]),HX_6.out⟩
 (have HE1:Hid (¬ (e.id<1∨1099511627776<e.id∨qFh e.inn e.out=false)):=by show ¬ _;rw [hs];simp;omega);clear hs h1 h2;(have hc_9:=fun o=>HB_7.out.cell o);go_wp2_with fail;clear hc_9;refine (R10Find_any A2 n2 c2 regs e.region _ (HR.out.ext HX_6.out) hr2).mono ?_;rintro en w_10 ⟨rfl,hx_11⟩;have HX_12:=gH (HX_6.out.trans hx_11);have HB_13:=gH (HB_7.out.ext hx_11);clear hx_11 HX_6 HB_7
 cases hf:qFo regs e.region with
 | none =>
  (have HF:Hid (e.err regs=6):=by show _=_;unfold Ev.err;rw [if_neg HE1.out,hf]);clear hf;simp only [Option.isSome_none,Option.getD_none];unfold Reg.val;(have hc_14:=fun o=>HB_13.out.cell o);go_wp2_with fail;clear hc_14;go_ret;exact ⟨qAa HF.out.symm,HX_12.out.alloc _⟩
 | some r =>
  have HF:Hid (e.err regs=if qIa e.kind=true then 3 else if e.speaker.toList.isEmpty=false∧qBm e.speaker=false then 5 else if e.rows.length=0∨4<e.rows.length then 9 else if qAo e.rows≠0 then qAo e.rows else r.place (e.rows.map qAq)):=by
   show _=_;unfold Ev.err;rw [if_neg HE1.out,hf]
  rw [hf] at HPl;simp only [Option.getD_some] at HPl;clear hf HE1 hsm;simp only [Option.isSome_some,Option.getD_some];unfold Reg.val at HPl ⊢;have HB_15:=gH (Blk.new w_10 105 #[.string r.name,.int .i64 r.top,.int .i64 r.height,.int .i64 r.left,.int .i64 r.width,.int .u8 r.align,.bool r.bottom]);have ha_16:=(Ext.refl w_10).alloc (.cells #[.string r.name,.int .i64 r.top,.int .i64 r.height,.int .i64 r.left,.int .i64 r.width,.int .u8 r.align,.bool r.bottom] 105);have HX_17:=gH (HX_12.out.trans ha_16);have HB_18:=gH (HB_13.out.ext ha_16);clear ha_16 HX_12 HB_13
  by_cases k1:e.kind<1
  · have HNk:Hid (qIa e.kind=true):=decide_eq_true (by omega)
    (have hc_19:=fun o=>HB_18.out.cell o);go_wp2_with fail;clear hc_19;go_ret;exact ⟨qAa (by rw [HF.out,if_pos HNk.out]),HX_17.out⟩
  by_cases k2:4<e.kind
  · have HNk:Hid (qIa e.kind=true):=decide_eq_true (by omega)
    (have hc_20:=fun o=>HB_18.out.cell o);go_wp2_with fail;clear hc_20;go_ret;exact ⟨qAa (by rw [HF.out,if_pos HNk.out]),HX_17.out⟩
  have HNk:Hid (qIa e.kind=false):=decide_eq_false (by omega)
  cases hse:e.speaker.toList.isEmpty
  · have hc_21:=fun o=>HB_18.out.cell o
    go_wp2_with fail;clear hc_21;refine (qBt _ _ hspk).mono ?_;rintro en w_22 ⟨rfl,hx_23⟩;have HX_24:=gH (HX_17.out.trans hx_23);have HB_25:=gH (HB_18.out.ext hx_23);have HB_26:=gH (HB_15.out.ext hx_23);clear hx_23 HX_17 HB_18 HB_15
    cases hnm:qBm e.speaker
    · have HNm:=gH hnm
      clear hnm;(have hc_27:=fun o=>HB_25.out.cell o);go_wp2_with fail;clear hc_27;go_ret;exact ⟨qAa (by rw [HF.out,if_neg (by rw [HNk.out];simp),if_pos ⟨hse,HNm.out⟩]),HX_24.out⟩
    (have HF2:Hid (e.err regs=if e.rows.length=0∨4<e.rows.length then 9 else if qAo e.rows≠0 then qAo e.rows else r.place (e.rows.map qAq)):=by show _=_;rw [HF.out,if_neg (by rw [HNk.out];simp),if_neg (by rw [hnm];simp)]);clear hnm
    by_cases h5:n=0
    · subst h5
      (have hc_28:=fun o=>HB_25.out.cell o);go_wp2_with fail;clear hc_28;go_ret;exact ⟨qAa (by rw [HF2.out,if_pos (.inl HLn.out)]),HX_24.out⟩
    have h5':((n:Int) == 0)=false:=by simp;omega
    by_cases h6:4<n
    · have h6':(4:Int)<(n:Int):=by omega
      clear h5;(have hc_29:=fun o=>HB_25.out.cell o);go_wp2_with fail;clear hc_29;go_ret;exact ⟨qAa (by rw [HF2.out,if_pos (.inr (by rw [HLn.out];exact h6))]),HX_24.out⟩
    (have h6':(n:Int)≤4:=by omega);(have hn4:n≤4:=by omega);(have HF3:Hid (e.err regs=if qAo e.rows≠0 then qAo e.rows else r.place (e.rows.map qAq)):=by show _=_;rw [HF2.out,if_neg (by rw [HLn.out];omega)]);clear HF2 h5 h6;(have hc_30:=fun o=>HB_25.out.cell o);go_wp2_with fail;clear hc_30
    go_loopw [7,70] (fun v i wr=>ChkRR w_22 n e.rows i v wr) (fun _ i _=>n-(intOf i).toNat)
    case atStart=>exact ⟨0,Nat.zero_le _,rfl,Ext.refl _,rfl,by simp,.inl ⟨rfl,rfl⟩⟩
    case round =>
     obtain ⟨k,hk,rfl,hx,hp,hown⟩:=hrel;have HP:=gH hp;have HO:=gH hown;clear hp hown;have HXr:=gH hx;have hxw:Ext w wr:=HX_24.out.trans hx;have HXw:=gH hxw
     by_cases hlt:k<n
     · obtain ⟨b,off,rw_,rfl,hrw,A',n',c',hcell,hnc,hc40,hruns⟩:=(HA.out.ext hxw).1.at_ hlt
       simp only [Nat.mul_one] at hcell;have HRu:=gH hruns;have HD:=gH (qDe e.rows k rw_ hrw);have HTk:=gH (take_snoc' e.rows k rw_ hrw);(have HTl:Hid ((e.rows.take k).length=k):=by show _=_;rw [List.length_take,HLn.out];omega);have hsmr:=HSm.out rw_ (List.mem_of_getElem? hrw);have hby:=HBy.out rw_ (List.mem_of_getElem? hrw);have HSr:=gH hsmr;have hE':=HEn.out.ext hxw;have hlm:rw_.length≤16∨True:=.inr trivial;clear hrw hruns hsmr hlm;have HCk:=gH (fun w' (hx:Ext wr w')=>qOf A' n' c' rw_ w' (hE'.ext hx) (HRu.out.ext hx) HSr.out.2 (by omega));have HPn:=gH (fun w' (hx:Ext wr w')=>R9Plain_any A' n' c' rw_ w' (HRu.out.ext hx) (by omega) (by omega));have HLe:=gH (fun w' (hx:Ext wr w')=>qOz A' n' c' rw_ w' (hE'.ext hx) (HRu.out.ext hx) (by omega) (by omega));(have HTs:Hid ((qFy rw_).size=qAk rw_):=by show _=_;rw [← qFu];rfl);have HNt:=gH (fun w'=>qOe (qFy rw_) w' (by have:=HTs.out;omega));clear hE' hx hxw;have HX0:=gH (Ext.refl wr);have HB_31:=gH (Blk.new wr 174 #[.slice A' n' c']);have ha_32:=(Ext.refl wr).alloc (.cells #[.slice A' n' c'] 174);have HX_33:=gH (HX0.out.trans ha_32);clear ha_32 HX0;have hsz0:=HXw.out.size;(have hc_34:=fun o=>HB_31.out.cell o);go_wp2_with fail;clear hc_34;refine (HCk.out _ HX_33.out).mono ?_;rintro en w_35 ⟨rfl,hx_36⟩;have HX_37:=gH (HX_33.out.trans hx_36);have HB_38:=gH (HB_31.out.ext hx_36);clear hx_36 HX_33 HB_31
       by_cases hre:qCl rw_=0
       case neg =>
        (have hre':(qCl rw_ != 0)=true:=by simp [hre]);(have HNe:Hid (qBp rw_=qCl rw_):=by show _=_;unfold qBp;rw [if_pos hre]);(have HN1:Hid (qAo e.rows=qCl rw_):=by show _=_;rw [HP.out,HD.out,qAo,if_neg (by rw [HNe.out];exact hre),HNe.out]);have HN0:=gH hre;clear hre;(have hc_39:=fun o=>HB_38.out.cell o);go_wp2_with fail;clear hc_39;go_ret;exact ⟨qAa (by rw [HF3.out,HN1.out,if_pos HN0.out]),HXw.out.trans HX_37.out⟩
       (have hre':(qCl rw_ != 0)=false:=by simp [hre]);(have HE0:Hid (qBp rw_=if badS (qFy rw_)=true then 4 else if 32<qAq rw_ then 11 else 0):=by show _=_;unfold qBp;rw [if_neg (by simp [hre])]);rw [hre];clear hre;(have hc_40:=fun o=>HB_38.out.cell o);go_wp2_with fail;clear hc_40;refine (HPn.out _ HX_37.out).mono ?_;rintro en w_41 ⟨rfl,hx_42⟩;have HX_43:=gH (HX_37.out.trans hx_42);have HB_44:=gH (HB_38.out.ext hx_42);clear hx_42 HX_37 HB_38;rw [show (⟨(qDt rw_).toArray⟩:ByteArray)=qFy rw_ from rfl];go_wp2_with fail;refine (HNt.out _).mono ?_;rintro en w_45 ⟨rfl,hx_46⟩;have HX_47:=gH (HX_43.out.trans hx_46);have HB_48:=gH (HB_44.out.ext hx_46);clear hx_46 HX_43 HB_44
       cases hb:badS (qFy rw_)
       case true =>
        (have HE1:Hid (qBp rw_=4):=by show _=_;rw [HE0.out,if_pos hb]);clear hb;(have hc_49:=fun o=>HB_48.out.cell o);go_wp2_with fail;clear hc_49;go_ret;exact ⟨qAa (by rw [HF3.out,HP.out,HD.out,qAo,HE1.out];rfl),HXw.out.trans HX_47.out⟩
       (have HE1:Hid (qBp rw_=if 32<qAq rw_ then 11 else 0):=by show _=_;rw [HE0.out,if_neg (by rw [hb];decide)]);clear hb HE0;(have hc_50:=fun o=>HB_48.out.cell o);go_wp2_with fail;clear hc_50;refine (HLe.out _ HX_47.out).mono ?_;rintro en w_51 ⟨rfl,hx_52⟩;have HX_53:=gH (HX_47.out.trans hx_52);have HB_54:=gH (HB_48.out.ext hx_52);clear hx_52 HX_47 HB_48
       by_cases hl:32<qAq rw_
       case pos =>
        (have HE2:Hid (qBp rw_=11):=by show _=_;rw [HE1.out,if_pos hl]);(have hc_55:=fun o=>HB_54.out.cell o);go_wp2_with fail;clear hc_55;go_ret;exact ⟨qAa (by rw [HF3.out,HP.out,HD.out,qAo,HE2.out];rfl),HXw.out.trans HX_53.out⟩
       (have HP2:Hid (qAo e.rows=qAo (e.rows.drop (k+1))):=by show _=_;rw [HP.out,HD.out,qAo,if_pos (by rw [HE1.out,if_neg hl])]);(have hc_56:=fun o=>HB_54.out.cell o);go_wp2_with fail;clear hc_56;refine (HLe.out _ HX_53.out).mono ?_;rintro en w_57 ⟨rfl,hx_58⟩;have HX_59:=gH (HX_53.out.trans hx_58);have HB_60:=gH (HB_54.out.ext hx_58);clear hx_58 HX_53 HB_54;have hbase:=HXr.out.size;have hown:=qAh HO.out HX_59.out;obtain ⟨i0,hi0,hz0,hz1,hz2⟩:=info_parts qLp;go_wp2_with (at_builtin;refine qAf rfl (.tmp 86) (.tmp 89) 83 rfl qLp Tryz.underlying83 rfl (by decide) (hown.alloc _) (by exact rfl) w_57.heap.size _ (by exact rfl) (by exact Blk.new' (by simp)) (by exact rfl) (by simp [Value.oneCell']) (by omega) (by simp [maxLen];omega) (by have:=HX_59.out.size;simp;omega) ?_;intro v' w' hown' hgr);refine ⟨⟨k+1,by omega,by go_num,(HXr.out.trans (HX_59.out.alloc _)).grown hgr (fun q hq=>qAp hown q hq),HP2.out,?_⟩,by simp [intOf];omega⟩;rw [HTk.out,List.map_append,List.flatMap_append];exact hown'
     (have hkn:k=n:=by omega);subst hkn;have HTk:Hid (e.rows.take k=e.rows):=List.take_of_length_le (by rw [HLn.out];omega);(have HF4:Hid (e.err regs=r.place (e.rows.map qAq)):=by show _=_;rw [HF3.out,HP.out,List.drop_eq_nil_of_le (by rw [HLn.out];omega),if_neg (by simp [qAo])]);rw [HTk.out] at HO;obtain ⟨A3,c3,rfl,hc3,hm3,hints,-⟩:=qBg (f:=fun x:Int=>[.int .i64 x]) (size:=1) (fun _=>rfl) (by rw [List.length_map];exact HLn.out) HO.out;have HI:=gH hints;have HBr:=gH (HB_26.out.ext hx);(have hcr:=fun o=>HBr.out.cell o);clear hints HO hx hxw;go_wp2_with fail;refine (HPl.out A3 k c3 _ _ HI.out (by simp [maxLen] at hm3;omega)).mono ?_;rintro en w9 ⟨A4,n4,c4,rfl,-,-,hx9⟩;clear hcr;go_wp2_with fail;go_ret;exact ⟨qAa HF4.out.symm,HXw.out.trans hx9⟩
  · have HF2:Hid (e.err regs=if e.rows.length=0∨4<e.rows.length then 9 else if qAo e.rows≠0 then qAo e.rows else r.place (e.rows.map qAq)):=by show _=_;rw [HF.out,if_neg (by rw [HNk.out];simp),if_neg (by rw [hse];simp)]
    by_cases h5:n=0
    · subst h5
      (have hc_61:=fun o=>HB_18.out.cell o);go_wp2_with fail;clear hc_61;go_ret;exact ⟨qAa (by rw [HF2.out,if_pos (.inl HLn.out)]),HX_17.out⟩
    have h5':((n:Int) == 0)=false:=by simp;omega
    by_cases h6:4<n
    · have h6':(4:Int)<(n:Int):=by omega
      clear h5;(have hc_62:=fun o=>HB_18.out.cell o);go_wp2_with fail;clear hc_62;go_ret;exact ⟨qAa (by rw [HF2.out,if_pos (.inr (by rw [HLn.out];exact h6))]),HX_17.out⟩
    (have h6':(n:Int)≤4:=by omega);(have hn4:n≤4:=by omega);(have HF3:Hid (e.err regs=if qAo e.rows≠0 then qAo e.rows else r.place (e.rows.map qAq)):=by show _=_;rw [HF2.out,if_neg (by rw [HLn.out];omega)]);clear HF2 h5 h6;(have hc_63:=fun o=>HB_18.out.cell o);go_wp2_with fail;clear hc_63;generalize hW:(w_10.alloc (.cells #[.string r.name,.int .i64 r.top,.int .i64 r.height,.int .i64 r.left,.int .i64 r.width,.int .u8 r.align,.bool r.bottom] 105))=W at *;clear hW
    go_loopw [7,70] (fun v i wr=>ChkRR W n e.rows i v wr) (fun _ i _=>n-(intOf i).toNat)
    case atStart=>exact ⟨0,Nat.zero_le _,rfl,Ext.refl _,rfl,by simp,.inl ⟨rfl,rfl⟩⟩
    case round =>
     obtain ⟨k,hk,rfl,hx,hp,hown⟩:=hrel;have HP:=gH hp;have HO:=gH hown;clear hp hown;have HXr:=gH hx;have hxw:Ext w wr:=HX_17.out.trans hx;have HXw:=gH hxw
     by_cases hlt:k<n
     · obtain ⟨b,off,rw_,rfl,hrw,A',n',c',hcell,hnc,hc40,hruns⟩:=(HA.out.ext hxw).1.at_ hlt
       simp only [Nat.mul_one] at hcell;have HRu:=gH hruns;have HD:=gH (qDe e.rows k rw_ hrw);have HTk:=gH (take_snoc' e.rows k rw_ hrw);(have HTl:Hid ((e.rows.take k).length=k):=by show _=_;rw [List.length_take,HLn.out];omega);have hsmr:=HSm.out rw_ (List.mem_of_getElem? hrw);have hby:=HBy.out rw_ (List.mem_of_getElem? hrw);have HSr:=gH hsmr;have hE':=HEn.out.ext hxw;have hlm:rw_.length≤16∨True:=.inr trivial;clear hrw hruns hsmr hlm;have HCk:=gH (fun w' (hx:Ext wr w')=>qOf A' n' c' rw_ w' (hE'.ext hx) (HRu.out.ext hx) HSr.out.2 (by omega));have HPn:=gH (fun w' (hx:Ext wr w')=>R9Plain_any A' n' c' rw_ w' (HRu.out.ext hx) (by omega) (by omega));have HLe:=gH (fun w' (hx:Ext wr w')=>qOz A' n' c' rw_ w' (hE'.ext hx) (HRu.out.ext hx) (by omega) (by omega));(have HTs:Hid ((qFy rw_).size=qAk rw_):=by show _=_;rw [← qFu];rfl);have HNt:=gH (fun w'=>qOe (qFy rw_) w' (by have:=HTs.out;omega));clear hE' hx hxw;have HX0:=gH (Ext.refl wr);have HB_64:=gH (Blk.new wr 174 #[.slice A' n' c']);have ha_65:=(Ext.refl wr).alloc (.cells #[.slice A' n' c'] 174);have HX_66:=gH (HX0.out.trans ha_65);clear ha_65 HX0;have hsz0:=HXw.out.size;(have hc_67:=fun o=>HB_64.out.cell o);go_wp2_with fail;clear hc_67;refine (HCk.out _ HX_66.out).mono ?_;rintro en w_68 ⟨rfl,hx_69⟩;have HX_70:=gH (HX_66.out.trans hx_69);have HB_71:=gH (HB_64.out.ext hx_69);clear hx_69 HX_66 HB_64
       by_cases hre:qCl rw_=0
       case neg =>
        (have hre':(qCl rw_ != 0)=true:=by simp [hre]);(have HNe:Hid (qBp rw_=qCl rw_):=by show _=_;unfold qBp;rw [if_pos hre]);(have HN1:Hid (qAo e.rows=qCl rw_):=by show _=_;rw [HP.out,HD.out,qAo,if_neg (by rw [HNe.out];exact hre),HNe.out]);have HN0:=gH hre;clear hre;(have hc_72:=fun o=>HB_71.out.cell o);go_wp2_with fail;clear hc_72;go_ret;exact ⟨qAa (by rw [HF3.out,HN1.out,if_pos HN0.out]),HXw.out.trans HX_70.out⟩
       (have hre':(qCl rw_ != 0)=false:=by simp [hre]);(have HE0:Hid (qBp rw_=if badS (qFy rw_)=true then 4 else if 32<qAq rw_ then 11 else 0):=by show _=_;unfold qBp;rw [if_neg (by simp [hre])]);rw [hre];clear hre;(have hc_73:=fun o=>HB_71.out.cell o);go_wp2_with fail;clear hc_73;refine (HPn.out _ HX_70.out).mono ?_;rintro en w_74 ⟨rfl,hx_75⟩;have HX_76:=gH (HX_70.out.trans hx_75);have HB_77:=gH (HB_71.out.ext hx_75);clear hx_75 HX_70 HB_71;rw [show (⟨(qDt rw_).toArray⟩:ByteArray)=qFy rw_ from rfl];go_wp2_with fail;refine (HNt.out _).mono ?_;rintro en w_78 ⟨rfl,hx_79⟩;have HX_80:=gH (HX_76.out.trans hx_79);have HB_81:=gH (HB_77.out.ext hx_79);clear hx_79 HX_76 HB_77
       cases hb:badS (qFy rw_)
       case true =>
        (have HE1:Hid (qBp rw_=4):=by show _=_;rw [HE0.out,if_pos hb]);clear hb;(have hc_82:=fun o=>HB_81.out.cell o);go_wp2_with fail;clear hc_82;go_ret;exact ⟨qAa (by rw [HF3.out,HP.out,HD.out,qAo,HE1.out];rfl),HXw.out.trans HX_80.out⟩
       (have HE1:Hid (qBp rw_=if 32<qAq rw_ then 11 else 0):=by show _=_;rw [HE0.out,if_neg (by rw [hb];decide)]);clear hb HE0;(have hc_83:=fun o=>HB_81.out.cell o);go_wp2_with fail;clear hc_83;refine (HLe.out _ HX_80.out).mono ?_;rintro en w_84 ⟨rfl,hx_85⟩;have HX_86:=gH (HX_80.out.trans hx_85);have HB_87:=gH (HB_81.out.ext hx_85);clear hx_85 HX_80 HB_81
       by_cases hl:32<qAq rw_
       case pos =>
        (have HE2:Hid (qBp rw_=11):=by show _=_;rw [HE1.out,if_pos hl]);(have hc_88:=fun o=>HB_87.out.cell o);go_wp2_with fail;clear hc_88;go_ret;exact ⟨qAa (by rw [HF3.out,HP.out,HD.out,qAo,HE2.out];rfl),HXw.out.trans HX_86.out⟩
       (have HP2:Hid (qAo e.rows=qAo (e.rows.drop (k+1))):=by show _=_;rw [HP.out,HD.out,qAo,if_pos (by rw [HE1.out,if_neg hl])]);(have hc_89:=fun o=>HB_87.out.cell o);go_wp2_with fail;clear hc_89;refine (HLe.out _ HX_86.out).mono ?_;rintro en w_90 ⟨rfl,hx_91⟩;have HX_92:=gH (HX_86.out.trans hx_91);have HB_93:=gH (HB_87.out.ext hx_91);clear hx_91 HX_86 HB_87;have hbase:=HXr.out.size;have hown:=qAh HO.out HX_92.out;obtain ⟨i0,hi0,hz0,hz1,hz2⟩:=info_parts qLp;go_wp2_with (at_builtin;refine qAf rfl (.tmp 86) (.tmp 89) 83 rfl qLp Tryz.underlying83 rfl (by decide) (hown.alloc _) (by exact rfl) w_90.heap.size _ (by exact rfl) (by exact Blk.new' (by simp)) (by exact rfl) (by simp [Value.oneCell']) (by omega) (by simp [maxLen];omega) (by have:=HX_92.out.size;simp;omega) ?_;intro v' w' hown' hgr);refine ⟨⟨k+1,by omega,by go_num,(HXr.out.trans (HX_92.out.alloc _)).grown hgr (fun q hq=>qAp hown q hq),HP2.out,?_⟩,by simp [intOf];omega⟩;rw [HTk.out,List.map_append,List.flatMap_append];exact hown'
     (have hkn:k=n:=by omega);subst hkn;have HTk:Hid (e.rows.take k=e.rows):=List.take_of_length_le (by rw [HLn.out];omega);(have HF4:Hid (e.err regs=r.place (e.rows.map qAq)):=by show _=_;rw [HF3.out,HP.out,List.drop_eq_nil_of_le (by rw [HLn.out];omega),if_neg (by simp [qAo])]);rw [HTk.out] at HO;obtain ⟨A3,c3,rfl,hc3,hm3,hints,-⟩:=qBg (f:=fun x:Int=>[.int .i64 x]) (size:=1) (fun _=>rfl) (by rw [List.length_map];exact HLn.out) HO.out;have HI:=gH hints;have HBr:=gH (HB_15.out.ext hx);(have hcr:=fun o=>HBr.out.cell o);clear hints HO hx hxw;go_wp2_with fail;refine (HPl.out A3 k c3 _ _ HI.out (by simp [maxLen] at hm3;omega)).mono ?_;rintro en w9 ⟨A4,n4,c4,rfl,-,-,hx9⟩;clear hcr;go_wp2_with fail;go_ret;exact ⟨qAa HF4.out.symm,HXw.out.trans hx9⟩
end
section
open Go.RowKit
set_option maxHeartbeats 4000000 in
theorem R12head_any (d:Doc) (h:DocH) (w:World) (hok:DocOk d):Calls Tryz.prog 107 #[.agg (d.cells h)] w fun e w'=>e = .returned (.int .i64 d.headErr)∧Ext w w':=by
 have HX:=gH ((Ext.refl w).alloc (.cells (d.cells h) 52));have HB:=gH (Blk.new w 52 (d.cells h));have HV:=gH (fun w'=>qEz d.title w' hok.title);have HN:=gH (fun w'=>qBt d.lang w' hok.lang);have H1:=gH (@head_char d);have H2:=gH (@head_title d);have H3:=gH (@head_lang d);have H4:=gH (@head_rate d);have H5:=gH (@head_last d);have H6:=gH (@head_ok d);clear hok;unfold Doc.cells at *;go_enter Tryz.func107,Tryz.ntmps107;(have hc0:=fun o=>HB.out.cell o);go_wp2_with fail;refine (HV.out _).mono ?_;rintro en w1 ⟨rfl,hx1⟩;have HX1:=gH (HX.out.trans hx1);have HB1:=gH (HB.out.ext hx1);clear hx1 HX HB hc0;(have hc:=fun o=>HB1.out.cell o)
 cases hv:vld d.title
 · have HA:=gH hv
   clear hv;go_wp2_with fail;go_ret;exact ⟨qAa (H1.out HA.out).symm,HX1.out⟩
 have HA:=gH hv;clear hv
 by_cases h4:400<d.title.size
 · have h4i:(400:Int)<(d.title.size:Int):=by omega
   go_wp2_with fail;go_ret;exact ⟨qAa (H2.out HA.out h4).symm,HX1.out⟩
 (have h4i:¬ (400:Int)<(d.title.size:Int):=by omega);have HT:=gH h4;clear h4
 cases hl:d.lang.toList.isEmpty
 · have HLg:=gH hl
   go_wp2_with fail;refine (HN.out _).mono ?_;rintro en w2 ⟨rfl,hx2⟩;have HX2:=gH (HX1.out.trans hx2);have HB2:=gH (HB1.out.ext hx2);clear hx2 hc HX1 HB1;(have hc:=fun o=>HB2.out.cell o);have HX1:=HX2;clear HX2
   cases hn:qBm d.lang
   · have HNm:=gH hn
     clear hn;go_wp2_with fail;go_ret;exact ⟨qAa (H3.out HA.out HT.out ⟨HLg.out,HNm.out⟩).symm,HX1.out⟩
   (have HNm:Hid (¬ (d.lang.toList.isEmpty=false∧qBm d.lang=false)):=by show ¬ _;rw [hn];simp);clear hn;go_wp2_with fail;refine (qEc d.rate _).mono ?_;rintro en w3 ⟨rfl,rfl⟩
   cases hr1:rOk d.rate
   · have HRt:Hid (qAr d.rate d.drop=false):=by show _=_;unfold qAr;rw [hr1];rfl
     clear hr1;go_wp2_with fail;go_ret;exact ⟨qAa (H4.out HA.out HT.out HNm.out HRt.out).symm,HX1.out⟩
   cases hdr:d.drop
   · have HRt:Hid (qAr d.rate d.drop=true):=by show _=_;unfold qAr;rw [hr1,hdr];rfl
     clear hr1
     by_cases hl1:d.last<0∨1099511627776<d.last
     · have HLt:=gH hl1
       by_cases hl2:d.last<0
       · clear hl1
         go_wp2_with fail;go_ret;exact ⟨qAa (H5.out HA.out HT.out HNm.out HRt.out HLt.out).symm,HX1.out⟩
       · have hl3:1099511627776<d.last:=by omega
         clear hl1;go_wp2_with fail;go_ret;exact ⟨qAa (H5.out HA.out HT.out HNm.out HRt.out HLt.out).symm,HX1.out⟩
     have HLt:=gH hl1;(have hl2:¬ d.last<0:=by omega);(have hl3:¬ 1099511627776<d.last:=by omega);clear hl1;go_wp2_with fail;go_ret;exact ⟨qAa (H6.out HA.out HT.out HNm.out HRt.out HLt.out).symm,HX1.out⟩
   go_wp2_with fail;refine (qHm d.rate _).mono ?_;rintro en w4 ⟨rfl,rfl⟩
   cases hr2:qFw d.rate
   · have HRt:Hid (qAr d.rate d.drop=false):=by show _=_;unfold qAr;rw [hr1,hdr,hr2];rfl
     clear hr1 hr2;go_wp2_with fail;go_ret;exact ⟨qAa (H4.out HA.out HT.out HNm.out HRt.out).symm,HX1.out⟩
   (have HRt:Hid (qAr d.rate d.drop=true):=by show _=_;unfold qAr;rw [hr1,hdr,hr2];rfl);clear hr1 hr2
   by_cases hl1:d.last<0∨1099511627776<d.last
   · have HLt:=gH hl1
     by_cases hl2:d.last<0
     · clear hl1
       go_wp2_with fail;go_ret;exact ⟨qAa (H5.out HA.out HT.out HNm.out HRt.out HLt.out).symm,HX1.out⟩
     · have hl3:1099511627776<d.last:=by omega
       clear hl1;go_wp2_with fail;go_ret;exact ⟨qAa (H5.out HA.out HT.out HNm.out HRt.out HLt.out).symm,HX1.out⟩
   have HLt:=gH hl1;(have hl2:¬ d.last<0:=by omega);(have hl3:¬ 1099511627776<d.last:=by omega);clear hl1;go_wp2_with fail;go_ret;exact ⟨qAa (H6.out HA.out HT.out HNm.out HRt.out HLt.out).symm,HX1.out⟩
 · have HNm:Hid (¬ (d.lang.toList.isEmpty=false∧qBm d.lang=false)):=by show ¬ _;rw [hl];simp
   go_wp2_with fail;refine (qEc d.rate _).mono ?_;rintro en w3 ⟨rfl,rfl⟩
   cases hr1:rOk d.rate
   · have HRt:Hid (qAr d.rate d.drop=false):=by show _=_;unfold qAr;rw [hr1];rfl
     clear hr1;go_wp2_with fail;go_ret;exact ⟨qAa (H4.out HA.out HT.out HNm.out HRt.out).symm,HX1.out⟩
   cases hdr:d.drop
   · have HRt:Hid (qAr d.rate d.drop=true):=by show _=_;unfold qAr;rw [hr1,hdr];rfl
     clear hr1
     by_cases hl1:d.last<0∨1099511627776<d.last
     · have HLt:=gH hl1
       by_cases hl2:d.last<0
       · clear hl1
         go_wp2_with fail;go_ret;exact ⟨qAa (H5.out HA.out HT.out HNm.out HRt.out HLt.out).symm,HX1.out⟩
       · have hl3:1099511627776<d.last:=by omega
         clear hl1;go_wp2_with fail;go_ret;exact ⟨qAa (H5.out HA.out HT.out HNm.out HRt.out HLt.out).symm,HX1.out⟩
     have HLt:=gH hl1;(have hl2:¬ d.last<0:=by omega);(have hl3:¬ 1099511627776<d.last:=by omega);clear hl1;go_wp2_with fail;go_ret;exact ⟨qAa (H6.out HA.out HT.out HNm.out HRt.out HLt.out).symm,HX1.out⟩
   go_wp2_with fail;refine (qHm d.rate _).mono ?_;rintro en w4 ⟨rfl,rfl⟩
   cases hr2:qFw d.rate
   · have HRt:Hid (qAr d.rate d.drop=false):=by show _=_;unfold qAr;rw [hr1,hdr,hr2];rfl
     clear hr1 hr2;go_wp2_with fail;go_ret;exact ⟨qAa (H4.out HA.out HT.out HNm.out HRt.out).symm,HX1.out⟩
   (have HRt:Hid (qAr d.rate d.drop=true):=by show _=_;unfold qAr;rw [hr1,hdr,hr2];rfl);clear hr1 hr2
   by_cases hl1:d.last<0∨1099511627776<d.last
   · have HLt:=gH hl1
     by_cases hl2:d.last<0
     · clear hl1
       go_wp2_with fail;go_ret;exact ⟨qAa (H5.out HA.out HT.out HNm.out HRt.out HLt.out).symm,HX1.out⟩
     · have hl3:1099511627776<d.last:=by omega
       clear hl1;go_wp2_with fail;go_ret;exact ⟨qAa (H5.out HA.out HT.out HNm.out HRt.out HLt.out).symm,HX1.out⟩
   have HLt:=gH hl1;(have hl2:¬ d.last<0:=by omega);(have hl3:¬ 1099511627776<d.last:=by omega);clear hl1;go_wp2_with fail;go_ret;exact ⟨qAa (H6.out HA.out HT.out HNm.out HRt.out HLt.out).symm,HX1.out⟩
end
section
open Go.RowKit
def RELenRel (w1:World) (n:Nat) (e:Ev) (v i:Value) (wr:World):Prop:=∃ (k:Nat) (s:Int),k≤n∧i = .int .i64 k∧v = .int .i64 s∧0≤s∧s≤k+((e.rows.take k).map qAk).sum∧Ext w1 wr ∧
 e.len=qJj (s+(max ((n:Int)-1) 0-max ((k:Int)-1) 0)) ((e.rows.map qAq).drop k)
set_option maxHeartbeats 1000000 in
theorem R11Len_any (e:Ev) (A:Option Addr) (n c:Nat) (w:World) (hE:Env w) (he:EvAt w e A n c) (hby:e.bytes≤1099511627776) (hrn:∀ r∈e.rows,r.length≤4611686018427387904) :
 Calls Tryz.prog 178 #[.agg (e.cells A n c)] w fun en w'=>en = .returned (.int .i64 e.len)∧Ext w w':=by
 (have hn24:n * 24≤140737488355328:=by have:=he.2;omega);have HA:=gH he.1;have HLn:=gH he.len;have HRn:=gH hrn;have HEn:=gH hE;have HX:=gH ((Ext.refl w).alloc (.cells (e.cells A n c) 64));clear he hrn hE;unfold Ev.cells at *;go_enter Tryz.func178,Tryz.ntmps178;go_wp2_with fail
 go_loopw [3,10] (fun v i wr=>RELenRel w n e v i wr) (fun _ i _=>n-(intOf i).toNat)
 case atStart=>exact ⟨0,0,Nat.zero_le _,rfl,rfl,by omega,by simp,HX.out,by unfold Ev.len;rw [HLn.out];simp only [List.drop_zero];congr 1;omega⟩
 case round =>
  obtain ⟨k,s,hk,rfl,rfl,hs0,hs1,hx,hp⟩:=hrel;have HP:=gH hp;clear hp
  by_cases hlt:k<n
  · obtain ⟨b,off,r,rfl,hr,A',n',c',hcell,hnc,hc40,hruns⟩:=(HA.out.ext hx).at_ hlt
    simp only [Nat.mul_one] at hcell;have HR:=gH hruns;have HD:Hid ((e.rows.map qAq).drop k=qAq r :: (e.rows.map qAq).drop (k+1)):=gH (qDe _ k _ (by rw [List.getElem?_map,hr];rfl));have h1:=qPe e.rows k r hr;have h2:=qOl r
    have h3:((e.rows.take (k+1)).map qAk).sum=((e.rows.take k).map qAk).sum+qAk r:=by
     rw [take_snoc' e.rows k r hr,List.map_append,List.sum_append];simp
    have H3:=gH h3;have hby':(e.rows.map qAk).sum≤1099511627776:=hby;(have hrb:qAk r≤1099511627776:=by omega);(have hs2:s+qAq r≤4611686018427387904:=by omega);(have hs3:s≤4611686018427387903:=by omega);(have hs4:s+1+qAq r≤4611686018427387904:=by omega);(have hnr:n'≤4611686018427387904:=by have h5:=hruns.len;have h6:=HRn.out r (List.mem_of_getElem? hr);omega);have hge:=qLk r;have hk1:s≤k+((e.rows.take k).map qAk).sum:=hs1;have HK:=gH hk1;clear hr hruns h1 h3 hby' hk1 hs1;go_wp2_with fail;refine (qOz A' n' c' r _ (HEn.out.ext (hx.alloc _)) (HR.out.ext ((Ext.refl wr).alloc _)) (by omega) hnr).mono ?_;rintro en w2 ⟨rfl,hx2⟩
    by_cases hneg:qAq r<0
    · go_wp2_with fail
      go_ret;exact ⟨qAa (by rw [HP.out,HD.out,qJj,if_pos (by omega)]),(hx.alloc _).trans hx2⟩
    · by_cases hk0:k=0
      · subst hk0
        go_wp2_with fail;refine ⟨⟨0+1,s+qAq r,by omega,by go_num,rfl,by omega,?_,(hx.alloc _).trans hx2,?_⟩,by simp [intOf];omega⟩
        · have:=HK.out;have:=H3.out;omega
        · rw [HP.out,HD.out,qJj,if_neg (by omega)];congr 1;omega
      · have hkp:(0:Int)<(k:Int):=by omega
        go_wp2_with fail;refine ⟨⟨k+1,s+1+qAq r,by omega,by go_num,rfl,by omega,?_,(hx.alloc _).trans hx2,?_⟩,by simp [intOf];omega⟩
        · have:=HK.out;have:=H3.out;omega
        · rw [HP.out,HD.out,qJj,if_neg (by omega)];congr 1;omega
  · have hkn:k=n:=by omega
    have HD:Hid ((e.rows.map qAq).drop k=[]):=List.drop_eq_nil_of_le (by rw [List.length_map,HLn.out];omega);subst hkn;go_wp2_with fail;go_ret;exact ⟨qAa (by rw [HP.out,HD.out,qJj];omega),hx⟩
end
end Go.Proofs.YtablhmobekmflaaGreatDoor