/- Texts laid together. -/
import Derived.Test.YtablhmobekmflaaGreatDoorCm07
import Derived.Test.YtablhmobekmflaaGreatDoorCm18
import Derived.Test.YtablhmobekmflaaGreatDoorCm03
import Derived.Test.YtablhmobekmflaaGreatDoorCm12
import Derived.Test.YtablhmobekmflaaGreatDoorCm16
import Derived.Test.YtablhmobekmflaaGreatDoorCm22
import Derived.Test.YtablhmobekmflaaGreatDoorCm28
import Derived.Test.YtablhmobekmflaaGreatDoorCm31
import Derived.Test.YtablhmobekmflaaGreatDoorCm30
set_option linter.unusedVariables false
set_option linter.unusedSimpArgs false
set_option maxRecDepth 100000
namespace Go.Proofs.YtablhmobekmflaaGreatDoor
section
open Go.RowKit
def Doc.head (d:Doc):Value:=.agg #[.string d.title,.string d.lang,.int .u8 d.rate,.bool d.drop,.int .i64 d.last]
set_option maxHeartbeats 1000000 in
theorem DHead_any (d:Doc) (h:DocH) (w:World):Calls Tryz.prog 81 #[.agg (d.cells h)] w fun e w'=>e = .returned d.head∧Ext w w':=by
 have HX:=gH (((Ext.refl w).alloc (.cells (d.cells h) 52)));unfold Doc.cells at *;go_enter Tryz.func81,Tryz.ntmps81;go_wp2;exact bodyPost_ret (v:=d.head) (by simp [results,Tryz.results81,go_sem,Doc.head]) rfl ⟨rfl,HX.out.alloc _⟩
end
section
open Go.RowKit
def Com.aggV (c:Com):Value:=.agg #[.int .i64 c.id,.int .i64 c.ev,.int .i64 c.fr,.int .i64 c.til,.string c.author,.string c.text,.bool c.done,.bool c.lost]
theorem neq_com (a b:Com) (w:World):(binOp .neq 152 a.aggV b.aggV).run Tryz.prog w = .ok (.bool (!decide (a=b))) w:=by
 obtain ⟨id,ev,fr,tl,au,tx,dn,lo⟩:=a;obtain ⟨id',ev',fr',tl',au',tx',dn',lo'⟩:=b;unfold Com.aggV;dsimp only;go_simp;simp only [toList_inj]
 repeat' split
 all_goals simp_all
theorem neq_com_yes (a b:Com) (h:¬ a=b) (w:World):(binOp .neq 152 a.aggV b.aggV).run Tryz.prog w = .ok (.bool true) w:=by rw [neq_com,decide_eq_false h];rfl
theorem neq_com_no (a:Com) (w:World):(binOp .neq 152 a.aggV a.aggV).run Tryz.prog w = .ok (.bool false) w:=by rw [neq_com,decide_eq_true rfl];rfl
set_option maxHeartbeats 2000000 in
theorem EqualComs_any (A:Option Addr) (n c:Nat) (B:Option Addr) (m d:Nat) (l1 l2:List Com) (w:World) (h1:qJk w A n l1) (h2:qJk w B m l2) (hn:n≤4611686018427387904) :
 Calls Tryz.prog 85 #[.slice A n c,.slice B m d] w fun e w'=>e = .returned (.bool (decide (l1=l2)))∧Ext w w':=by
 have L1:=gH h1.len;have L2:=gH h2.len;have H1:=gH h1;have H2:=gH h2;clear h1 h2
 by_cases hnm:n=m
 · subst hnm
   go_enter Tryz.func85,Tryz.ntmps85;go_wp2_with fail
   go_loopw [13] (fun i wr=>EqRel w n l1 l2 i wr) (fun i _=>n-(intOf i).toNat)
   case atStart=>exact ⟨0,Nat.zero_le _,rfl,Ext.refl _,rfl⟩
   case round =>
    obtain ⟨k,hk,rfl,hx,hp⟩:=hrel;have HP:=gH hp;clear hp
    by_cases hlt:k<n
    · obtain ⟨b1,o1,r,rfl,hr,c0,c1,c2,c3,c4,c5,c6,c7⟩:=(H1.out.ext hx).at8 hlt
      obtain ⟨b2,o2,s,rfl,hs,d0,d1,d2,d3,d4,d5,d6,d7⟩:=(H2.out.ext hx).at8 hlt;have HR:=gH hr;have HS:=gH hs;clear hr hs;(have hk0:(0:Int)≤(k:Int):=by omega);(have hk1:(k:Int)<(n:Int):=by omega)
      by_cases hq:r=s
      · subst hq
        have HT:=gH (qEe HP.out HR.out HS.out);(have hne:=fun w=>neq_com_no r w);unfold Com.aggV at hne;go_wp2_with fail;go_quiet (fail);go_wp2_with fail;exact ⟨⟨k+1,by omega,by go_num,hx.drewN _,HT.out⟩,by simp [intOf];omega⟩
      · have hne:=fun w=>neq_com_yes r s hq w
        have HN:=gH (ne_at HR.out HS.out hq);unfold Com.aggV at hne;clear hq;go_wp2_with fail;go_quiet (fail);go_wp2_with fail;go_ret;exact ⟨qAg (decide_eq_false HN.out).symm,hx.drewN _⟩
    · have hkn:k=n:=by omega
      subst hkn;have HQ:=gH (qFa L1.out L2.out HP.out);go_wp2_with fail;go_ret;exact ⟨qAg (decide_eq_true HQ.out).symm,hx⟩
 · have hb:((n:Int) != (m:Int))=true:=by simp;omega
   have HN:Hid (¬ l1=l2):=by
    show ¬ _
    intro h;apply hnm;rw [← L1.out,← L2.out,h]
   go_enter Tryz.func85,Tryz.ntmps85;go_wp2_with fail;go_ret;exact ⟨qAg (decide_eq_false HN.out).symm,Ext.refl _⟩
end
section
open Go.RowKit
theorem eql_span (a b a' b':Int) (w:World):(binOp .eql 60 (.agg #[.int .i64 a,.int .i64 b]) (.agg #[.int .i64 a',.int .i64 b'])).run Tryz.prog w = .ok (.bool (decide (a=a'∧b=b'))) w:=by
 go_simp
 repeat' split
 all_goals simp_all
theorem ev_ne {x y:Ev} (h:¬ (x.id=y.id∧(x.inn=y.inn∧x.out=y.out)∧x.region.toList=y.region.toList∧x.kind=y.kind∧x.speaker.toList=y.speaker.toList∧x.rows=y.rows)):decide (x=y)=false :=
 decide_eq_false (by rintro rfl;exact h ⟨rfl,⟨rfl,rfl⟩,rfl,rfl,rfl,rfl⟩)
theorem ev_eq {x y:Ev} (h1:x.id=y.id) (h2:x.inn=y.inn∧x.out=y.out) (h3:x.region.toList=y.region.toList) (h4:x.kind=y.kind) (h5:x.speaker.toList=y.speaker.toList):decide (x=y)=decide (x.rows=y.rows):=by
 obtain ⟨a1,a2,a3,a4,a5,a6,a7⟩:=x;obtain ⟨b1,b2,b3,b4,b5,b6,b7⟩:=y;rw [toList_inj] at h3 h5
 simp_all
set_option maxHeartbeats 4000000 in
theorem ESame_any (x y:Ev) (A:Option Addr) (n c:Nat) (B:Option Addr) (m d:Nat) (w:World) (h1:EvAt w x A n c) (h2:EvAt w y B m d) :
 Calls Tryz.prog 84 #[.agg (x.cells A n c),.agg (y.cells B m d)] w fun e w'=>e = .returned (.bool (decide (x=y)))∧Ext w w':=by
 have hn24:n*24≤140737488355328:=h1.2.2;have H1:=gH h1;have H2:=gH h2;clear h1 h2;have hx:=((Ext.refl w).alloc (.cells (x.cells A n c) 64)).alloc (.cells (y.cells B m d) 64);have HX:=gH hx;clear hx;unfold Ev.cells at HX ⊢
 by_cases h0:x.id=y.id
 · have b0:(x.id == y.id)=true:=by simpa using h0
   have E0:=gH h0;clear h0
   by_cases h1:x.inn=y.inn∧x.out=y.out
   · have b1:=fun w=>(eql_span x.inn x.out y.inn y.out w).trans (by rw [decide_eq_true h1])
     have E1:=gH h1;clear h1
     by_cases h2:x.region.toList=y.region.toList
     · have b2:(x.region.toList == y.region.toList)=true:=by simpa using h2
       have E2:=gH h2;clear h2
       by_cases h3:x.kind=y.kind
       · have b3:(x.kind == y.kind)=true:=by simpa using h3
         have E3:=gH h3;clear h3
         by_cases h4:x.speaker.toList=y.speaker.toList
         · have b4:(x.speaker.toList == y.speaker.toList)=true:=by simpa using h4
           have E4:=gH h4;clear h4;have HF:Hid (decide (x=y)=decide (x.rows=y.rows)):=ev_eq E0.out E1.out E2.out E3.out E4.out;go_enter Tryz.func84,Tryz.ntmps84;go_wp2_with fail;refine (SameRows_any A n c B m d x.rows y.rows _ (H1.out.1.ext HX.out) (H2.out.1.ext HX.out) (by omega)).mono ?_;rintro en w1 ⟨rfl,hx1⟩;go_wp2_with fail;go_ret;exact ⟨qAg HF.out.symm,HX.out.trans hx1⟩
         · have b4:(x.speaker.toList == y.speaker.toList)=false:=by simpa using h4
           have HF:Hid (decide (x=y)=false):=ev_ne (fun h=>h4 h.2.2.2.2.1);clear h4;go_enter Tryz.func84,Tryz.ntmps84;go_wp2_with fail;go_ret;exact ⟨qAg HF.out.symm,HX.out⟩
       · have b3:(x.kind == y.kind)=false:=by simpa using h3
         have HF:Hid (decide (x=y)=false):=ev_ne (fun h=>h3 h.2.2.2.1);clear h3;go_enter Tryz.func84,Tryz.ntmps84;go_wp2_with fail;go_ret;exact ⟨qAg HF.out.symm,HX.out⟩
     · have b2:(x.region.toList == y.region.toList)=false:=by simpa using h2
       have HF:Hid (decide (x=y)=false):=ev_ne (fun h=>h2 h.2.2.1);clear h2;go_enter Tryz.func84,Tryz.ntmps84;go_wp2_with fail;go_ret;exact ⟨qAg HF.out.symm,HX.out⟩
   · have b1:=fun w=>(eql_span x.inn x.out y.inn y.out w).trans (by rw [decide_eq_false h1])
     have HF:Hid (decide (x=y)=false):=ev_ne (fun h=>h1 h.2.1);clear h1;go_enter Tryz.func84,Tryz.ntmps84;go_wp2_with fail;go_ret;exact ⟨qAg HF.out.symm,HX.out⟩
 · have b0:(x.id == y.id)=false:=by simpa using h0
   have HF:Hid (decide (x=y)=false):=ev_ne (fun h=>h0 h.1);clear h0;go_enter Tryz.func84,Tryz.ntmps84;go_wp2_with fail;go_ret;exact ⟨qAg HF.out.symm,HX.out⟩
end
section
open Go.RowKit
set_option maxHeartbeats 2000000 in
theorem EqualEvs_any (A:Option Addr) (n c:Nat) (B:Option Addr) (m d:Nat) (l1 l2:List Ev) (w:World) (h1:qKw w A n l1) (h2:qKw w B m l2) (hn:n≤4611686018427387904) :
 Calls Tryz.prog 83 #[.slice A n c,.slice B m d,.func (.func 84) #[] #[]] w fun e w'=>e = .returned (.bool (decide (l1=l2)))∧Ext w w':=by
 have L1:=gH h1.len;have L2:=gH h2.len;have H1:=gH h1;have H2:=gH h2;clear h1 h2
 by_cases hnm:n=m
 · subst hnm
   go_enter Tryz.func83,Tryz.ntmps83;go_wp2_with fail
   go_loopw [17] (fun i wr=>EqRel w n l1 l2 i wr) (fun i _=>n-(intOf i).toNat)
   case atStart=>exact ⟨0,Nat.zero_le _,rfl,Ext.refl _,rfl⟩
   case round =>
    obtain ⟨k,hk,rfl,hx,hp⟩:=hrel;have HP:=gH hp;clear hp
    by_cases hlt:k<n
    · obtain ⟨b1,o1,r,A1,n1,c1,rfl,hr,u1,p0,p1,p2,p3,p4,p5,p6⟩:=(H1.out.ext hx).at_ev hlt
      obtain ⟨b2,o2,s,A2,n2,c2,rfl,hs,u2,q0,q1,q2,q3,q4,q5,q6⟩:=(H2.out.ext hx).at_ev hlt;have U1:=gH u1;have U2:=gH u2;have HR:=gH hr;have HS:=gH hs;clear hr hs u1 u2;have hb2:b2<wr.heap.size:=World.block_lt_of_cell? wr _ q0;have hxa:=((Ext.refl wr).alloc (.cells (r.cells A1 n1 c1) 64)).alloc (.cells (s.cells A2 n2 c2) 64);have HX:=gH hxa;clear hxa;have HSame:=gH (fun w a b=>ESame_any r s A1 n1 c1 A2 n2 c2 w a b);unfold Ev.cells at HX HSame;go_wp2_with fail;refine (HSame.out _ (U1.out.ext HX.out) (U2.out.ext HX.out)).mono ?_;rintro e w1 ⟨rfl,hx1⟩;have hxw1:Ext w w1:=(hx.trans HX.out).trans hx1
      by_cases hq:r=s
      · subst hq
        have HT:=gH (qEe HP.out HR.out HS.out);rw [decide_eq_true rfl];go_wp2_with fail;exact ⟨⟨k+1,by omega,by go_num,hxw1,HT.out⟩,by simp [intOf];omega⟩
      · have HN:=gH (ne_at HR.out HS.out hq)
        rw [decide_eq_false hq];clear hq;go_wp2_with fail;go_ret;exact ⟨qAg (decide_eq_false HN.out).symm,hxw1⟩
    · have hkn:k=n:=by omega
      subst hkn;have HQ:=gH (qFa L1.out L2.out HP.out);go_wp2_with fail;go_ret;exact ⟨qAg (decide_eq_true HQ.out).symm,hx⟩
 · have hb:((n:Int) != (m:Int))=true:=by simp;omega
   have HN:Hid (¬ l1=l2):=by
    show ¬ _
    intro h;apply hnm;rw [← L1.out,← L2.out,h]
   go_enter Tryz.func83,Tryz.ntmps83;go_wp2_with fail;go_ret;exact ⟨qAg (decide_eq_false HN.out).symm,Ext.refl _⟩
end
section
open Go.RowKit
def Doc.hd (d:Doc):ByteArray × ByteArray × Int × Bool × Int:=(d.title,d.lang,d.rate,d.drop,d.last)
def sameDoc (a b:Doc):Bool:=decide (a.hd=b.hd) && (decide (a.regs=b.regs) && (decide (a.evs=b.evs) && decide (a.coms=b.coms)))
theorem sameDoc_self (a:Doc):sameDoc a a=true:=by simp [sameDoc]
theorem eql_head (a b:Doc) (w:World):(binOp .eql 146 a.head b.head).run Tryz.prog w = .ok (.bool (decide (a.hd=b.hd))) w:=by
 obtain ⟨a1,a2,a3,a4,a5,a6,a7,a8⟩:=a;obtain ⟨b1,b2,b3,b4,b5,b6,b7,b8⟩:=b;unfold Doc.head Doc.hd;dsimp only;go_simp;simp only [toList_inj]
 repeat' split
 all_goals simp_all
set_option maxHeartbeats 4000000 in
theorem DSame_big (a b:Doc) (h k:DocH) (w:World) (hA:qHy w a h) (hB:qHy w b k) (h1:h.rn≤4611686018427387904∧h.en≤4611686018427387904∧h.cn≤4611686018427387904) :
 Calls Tryz.prog 38 #[.agg (a.cells h),.agg (b.cells k)] w fun en w'=>en = .returned (.bool (sameDoc a b))∧Ext w w':=by
 have HX:Hid (Ext w ((w.alloc (.cells (a.cells h) 52)).alloc (.cells (b.cells k) 52))):=((Ext.refl w).alloc _).alloc _;have HBa:Hid (Blk ((w.alloc (.cells (a.cells h) 52)).alloc (.cells (b.cells k) 52)) w.heap.size 52 (a.cells h)):=(Blk.new w 52 (a.cells h)).alloc _;have HBb:Hid (Blk ((w.alloc (.cells (a.cells h) 52)).alloc (.cells (b.cells k) 52)) (w.heap.size+1) 52 (b.cells k)):=Blk.new' (by simp);have HHa:=gH (fun (y:EW ((w.alloc (.cells (a.cells h) 52)).alloc (.cells (b.cells k) 52)))=>DHead_any a h y.w);have HHb:=gH (fun (y:EW ((w.alloc (.cells (a.cells h) 52)).alloc (.cells (b.cells k) 52)))=>DHead_any b k y.w);have HR:=gH (fun (y:EW ((w.alloc (.cells (a.cells h) 52)).alloc (.cells (b.cells k) 52)))=>EqualRegs_any h.ra h.rn h.rc k.ra k.rn k.rc a.regs b.regs y.w (hA.regs.ext (HX.out.trans y.ext)) (hB.regs.ext (HX.out.trans y.ext)) (by omega));have HE:=gH (fun (y:EW ((w.alloc (.cells (a.cells h) 52)).alloc (.cells (b.cells k) 52)))=>EqualEvs_any h.ea h.en h.ec k.ea k.en k.ec a.evs b.evs y.w (hA.evs.ext (HX.out.trans y.ext)) (hB.evs.ext (HX.out.trans y.ext)) (by omega));have HC:=gH (fun (y:EW ((w.alloc (.cells (a.cells h) 52)).alloc (.cells (b.cells k) 52)))=>EqualComs_any h.ca h.cn h.cc k.ca k.cn k.cc a.coms b.coms y.w (hA.coms.ext (HX.out.trans y.ext)) (hB.coms.ext (HX.out.trans y.ext)) (by omega));(have hq0:=fun w=>eql_head a b w);clear hA hB;unfold Doc.head at HHa HHb hq0;unfold Doc.cells at *
 obtain ⟨hra,hrn,hrc,hea,hen,hec,hca,hcn,hcc⟩:=h;obtain ⟨kra,krn,krc,kea,ken,kec,kca,kcn,kcc⟩:=k;dsimp only at *;have HS:Hid (sameDoc a b=(decide (a.hd=b.hd) && (decide (a.regs=b.regs) && (decide (a.evs=b.evs) && decide (a.coms=b.coms))))):=rfl;generalize decide (a.regs=b.regs)=vr at *;generalize decide (a.evs=b.evs)=ve at *;generalize decide (a.coms=b.coms)=vc at *;generalize decide (a.hd=b.hd)=vh at *;have HQ:=gH hq0;clear hq0
 cases vh
 · have hq:=fun w=>HQ.out w
   go_enter Tryz.func38,Tryz.ntmps38;go_wp2_with fail;(have hr_1:=fun (x:EW ((w.alloc (.cells #[.string a.title,.string a.lang,.int .u8 a.rate,.bool a.drop,.int .i64 a.last,.slice hra hrn hrc,.slice hea hen hec,.slice hca hcn hcc] 52)).alloc (.cells #[.string b.title,.string b.lang,.int .u8 b.rate,.bool b.drop,.int .i64 b.last,.slice kra krn krc,.slice kea ken kec,.slice kca kcn kcc] 52))) (o:Nat)=>(HBa.out.ext x.ext).cell o);(have hr_2:=fun (x:EW ((w.alloc (.cells #[.string a.title,.string a.lang,.int .u8 a.rate,.bool a.drop,.int .i64 a.last,.slice hra hrn hrc,.slice hea hen hec,.slice hca hcn hcc] 52)).alloc (.cells #[.string b.title,.string b.lang,.int .u8 b.rate,.bool b.drop,.int .i64 b.last,.slice kra krn krc,.slice kea ken kec,.slice kca kcn kcc] 52))) (o:Nat)=>(HBb.out.ext x.ext).cell o);refine qAz ((w.alloc (.cells #[.string a.title,.string a.lang,.int .u8 a.rate,.bool a.drop,.int .i64 a.last,.slice hra hrn hrc,.slice hea hen hec,.slice hca hcn hcc] 52)).alloc (.cells #[.string b.title,.string b.lang,.int .u8 b.rate,.bool b.drop,.int .i64 b.last,.slice kra krn krc,.slice kea ken kec,.slice kca kcn kcc] 52)) (Ext.refl _) (by kernel_rfl) (by kernel_rfl) ?_
   repeat (go_big_quiet_step ((first | (go_at_call 81;first | with_reducible exact EW.calls _ (HHa.out _) | with_reducible exact EW.calls _ (HHb.out _)) | (go_at_call 82;exact EW.calls _ (HR.out _)) | (go_at_call 83;exact EW.calls _ (HE.out _)) | (go_at_call 85;exact EW.calls _ (HC.out _)))))
   refine wpQuiet_nil ?_;rintro w_3 ⟨⟨_,hx_4⟩,rfl⟩
   try dsimp only
   clear hr_1 hr_2;have HX_5:=gH (HX.out.trans hx_4);have HB_6:=gH (HBa.out.ext hx_4);have HB_7:=gH (HBb.out.ext hx_4);clear hx_4 HX HBa HBb;go_wp2_with fail;go_ret;exact ⟨by rw [HS.out];rfl,HX_5.out⟩
 cases vr
 · have hq:=fun w=>HQ.out w
   go_enter Tryz.func38,Tryz.ntmps38;go_wp2_with fail;(have hr_8:=fun (x:EW ((w.alloc (.cells #[.string a.title,.string a.lang,.int .u8 a.rate,.bool a.drop,.int .i64 a.last,.slice hra hrn hrc,.slice hea hen hec,.slice hca hcn hcc] 52)).alloc (.cells #[.string b.title,.string b.lang,.int .u8 b.rate,.bool b.drop,.int .i64 b.last,.slice kra krn krc,.slice kea ken kec,.slice kca kcn kcc] 52))) (o:Nat)=>(HBa.out.ext x.ext).cell o);(have hr_9:=fun (x:EW ((w.alloc (.cells #[.string a.title,.string a.lang,.int .u8 a.rate,.bool a.drop,.int .i64 a.last,.slice hra hrn hrc,.slice hea hen hec,.slice hca hcn hcc] 52)).alloc (.cells #[.string b.title,.string b.lang,.int .u8 b.rate,.bool b.drop,.int .i64 b.last,.slice kra krn krc,.slice kea ken kec,.slice kca kcn kcc] 52))) (o:Nat)=>(HBb.out.ext x.ext).cell o);refine qAz ((w.alloc (.cells #[.string a.title,.string a.lang,.int .u8 a.rate,.bool a.drop,.int .i64 a.last,.slice hra hrn hrc,.slice hea hen hec,.slice hca hcn hcc] 52)).alloc (.cells #[.string b.title,.string b.lang,.int .u8 b.rate,.bool b.drop,.int .i64 b.last,.slice kra krn krc,.slice kea ken kec,.slice kca kcn kcc] 52)) (Ext.refl _) (by kernel_rfl) (by kernel_rfl) ?_
   repeat (go_big_quiet_step ((first | (go_at_call 81;first | with_reducible exact EW.calls _ (HHa.out _) | with_reducible exact EW.calls _ (HHb.out _)) | (go_at_call 82;exact EW.calls _ (HR.out _)) | (go_at_call 83;exact EW.calls _ (HE.out _)) | (go_at_call 85;exact EW.calls _ (HC.out _)))))
   refine wpQuiet_nil ?_;rintro w_10 ⟨⟨_,hx_11⟩,rfl⟩
   try dsimp only
   clear hr_8 hr_9;have HX_12:=gH (HX.out.trans hx_11);have HB_13:=gH (HBa.out.ext hx_11);have HB_14:=gH (HBb.out.ext hx_11);clear hx_11 HX HBa HBb;go_wp2_with fail;go_ret;exact ⟨by rw [HS.out];rfl,HX_12.out⟩
 cases ve
 · have hq:=fun w=>HQ.out w
   go_enter Tryz.func38,Tryz.ntmps38;go_wp2_with fail;(have hr_15:=fun (x:EW ((w.alloc (.cells #[.string a.title,.string a.lang,.int .u8 a.rate,.bool a.drop,.int .i64 a.last,.slice hra hrn hrc,.slice hea hen hec,.slice hca hcn hcc] 52)).alloc (.cells #[.string b.title,.string b.lang,.int .u8 b.rate,.bool b.drop,.int .i64 b.last,.slice kra krn krc,.slice kea ken kec,.slice kca kcn kcc] 52))) (o:Nat)=>(HBa.out.ext x.ext).cell o);(have hr_16:=fun (x:EW ((w.alloc (.cells #[.string a.title,.string a.lang,.int .u8 a.rate,.bool a.drop,.int .i64 a.last,.slice hra hrn hrc,.slice hea hen hec,.slice hca hcn hcc] 52)).alloc (.cells #[.string b.title,.string b.lang,.int .u8 b.rate,.bool b.drop,.int .i64 b.last,.slice kra krn krc,.slice kea ken kec,.slice kca kcn kcc] 52))) (o:Nat)=>(HBb.out.ext x.ext).cell o);refine qAz ((w.alloc (.cells #[.string a.title,.string a.lang,.int .u8 a.rate,.bool a.drop,.int .i64 a.last,.slice hra hrn hrc,.slice hea hen hec,.slice hca hcn hcc] 52)).alloc (.cells #[.string b.title,.string b.lang,.int .u8 b.rate,.bool b.drop,.int .i64 b.last,.slice kra krn krc,.slice kea ken kec,.slice kca kcn kcc] 52)) (Ext.refl _) (by kernel_rfl) (by kernel_rfl) ?_
   repeat (go_big_quiet_step ((first | (go_at_call 81;first | with_reducible exact EW.calls _ (HHa.out _) | with_reducible exact EW.calls _ (HHb.out _)) | (go_at_call 82;exact EW.calls _ (HR.out _)) | (go_at_call 83;exact EW.calls _ (HE.out _)) | (go_at_call 85;exact EW.calls _ (HC.out _)))))
   refine wpQuiet_nil ?_;rintro w_17 ⟨⟨_,hx_18⟩,rfl⟩
   try dsimp only
   clear hr_15 hr_16;have HX_19:=gH (HX.out.trans hx_18);have HB_20:=gH (HBa.out.ext hx_18);have HB_21:=gH (HBb.out.ext hx_18);clear hx_18 HX HBa HBb;go_wp2_with fail;go_ret;exact ⟨by rw [HS.out];rfl,HX_19.out⟩
 (have hq:=fun w=>HQ.out w);go_enter Tryz.func38,Tryz.ntmps38;go_wp2_with fail;(have hr_22:=fun (x:EW ((w.alloc (.cells #[.string a.title,.string a.lang,.int .u8 a.rate,.bool a.drop,.int .i64 a.last,.slice hra hrn hrc,.slice hea hen hec,.slice hca hcn hcc] 52)).alloc (.cells #[.string b.title,.string b.lang,.int .u8 b.rate,.bool b.drop,.int .i64 b.last,.slice kra krn krc,.slice kea ken kec,.slice kca kcn kcc] 52))) (o:Nat)=>(HBa.out.ext x.ext).cell o);(have hr_23:=fun (x:EW ((w.alloc (.cells #[.string a.title,.string a.lang,.int .u8 a.rate,.bool a.drop,.int .i64 a.last,.slice hra hrn hrc,.slice hea hen hec,.slice hca hcn hcc] 52)).alloc (.cells #[.string b.title,.string b.lang,.int .u8 b.rate,.bool b.drop,.int .i64 b.last,.slice kra krn krc,.slice kea ken kec,.slice kca kcn kcc] 52))) (o:Nat)=>(HBb.out.ext x.ext).cell o);refine qAz ((w.alloc (.cells #[.string a.title,.string a.lang,.int .u8 a.rate,.bool a.drop,.int .i64 a.last,.slice hra hrn hrc,.slice hea hen hec,.slice hca hcn hcc] 52)).alloc (.cells #[.string b.title,.string b.lang,.int .u8 b.rate,.bool b.drop,.int .i64 b.last,.slice kra krn krc,.slice kea ken kec,.slice kca kcn kcc] 52)) (Ext.refl _) (by kernel_rfl) (by kernel_rfl) ?_
 repeat (go_big_quiet_step ((first | (go_at_call 81;first | with_reducible exact EW.calls _ (HHa.out _) | with_reducible exact EW.calls _ (HHb.out _)) | (go_at_call 82;exact EW.calls _ (HR.out _)) | (go_at_call 83;exact EW.calls _ (HE.out _)) | (go_at_call 85;exact EW.calls _ (HC.out _)))))
 refine wpQuiet_nil ?_;rintro w_24 ⟨⟨_,hx_25⟩,rfl⟩
 try dsimp only
 clear hr_22 hr_23;have HX_26:=gH (HX.out.trans hx_25);have HB_27:=gH (HBa.out.ext hx_25);have HB_28:=gH (HBb.out.ext hx_25);clear hx_25 HX HBa HBb;go_wp2_with fail;go_ret;exact ⟨by rw [HS.out];rfl,HX_26.out⟩
end
section
open Go.RowKit
set_option maxHeartbeats 4000000 in
theorem ROrigin_any (A:Option Addr) (n c:Nat) (l:List Fat) (id:Int) (w:World) (hl:qGi w A n l) (hn:n≤1000000) (hf:qIh l) :
 Calls Tryz.prog 28 #[.slice A n c,.int .i64 id] w fun e w'=>e = .returned (.tuple #[.string (orig l id).1,.int .i64 (orig l id).2.1,.bool (orig l id).2.2])∧Ext w w':=by
 have HL:=gH hl;have HLn:=gH hl.len;have HF:=gH hf;clear hl hf;go_enter Tryz.func28,Tryz.ntmps28;go_wp2_with fail
 go_loopw [13] (fun i wr=>OrRel w n l id i wr) (fun i _=>n-(intOf i).toNat)
 case atStart=>exact ⟨0,Nat.zero_le _,rfl,Ext.refl _,by simp⟩
 case round =>
  obtain ⟨k,hk,rfl,hx,hp⟩:=hrel;have HX:=gH hx;have HP:=gH hp;clear hx hp
  by_cases hlt:k<n
  · obtain ⟨b,off,f,pA,pc,sA,sc,rfl,hfk,hP1,-,c0,c1,c2,c3,c4⟩:=(HL.out.ext HX.out).at5 hlt
    have HD:=gH (orig_drop (id:=id) hfk);have HBf:=gH (Blk.new wr 67 #[.string f.reel,.int .i64 f.id,.slice pA f.parts.length pc,.int .i64 f.lost,.slice sA f.short.length sc]);have HXf:=gH ((Ext.refl wr).alloc (.cells #[.string f.reel,.int .i64 f.id,.slice pA f.parts.length pc,.int .i64 f.lost,.slice sA f.short.length sc] 67));have HPa:=gH (hP1.ext HXf.out);have hnb:=HF.out.parts f (List.mem_of_getElem? hfk);clear hfk hP1;obtain ⟨np,hnp⟩:∃ np,np=f.parts.length:=⟨_,rfl⟩;have HNp:=gH hnp;rw [← hnp] at HBf HXf HPa c2 hnb;clear hnp;go_upto_region 4 with fail;obtain ⟨gx,hgx⟩:∃ gx,gx=wr.heap.size:=⟨_,rfl⟩;obtain ⟨w2,hw2⟩:∃ w2,w2=wr.alloc (.cells #[.string f.reel,.int .i64 f.id,.slice pA np pc,.int .i64 f.lost,.slice sA f.short.length sc] 67):=⟨_,rfl⟩;rw [← hgx] at HBf;rw [← hw2] at HBf HXf HPa ⊢;rw [← hgx];clear hw2 hgx c0 c1 c2 c3 c4;have b2:=HBf.out.cell 2;simp only [gA,gB,gC] at b2;go_wp2_with fail;clear b2
    go_loopw [20] (fun i wq=>NiRel w2 np f.parts id i wq) (fun i _=>np-(intOf i).toNat)
    case atStart=>exact ⟨0,Nat.zero_le _,rfl,Ext.refl _,by simp⟩
    case round =>
     obtain ⟨j,hj,rfl,hxq,hpq⟩:=hrel;have HXq:=gH hxq;have HPq:=gH hpq;clear hxq hpq
     by_cases hjt:j<np
     · obtain ⟨b3,off3,y,hA3,hy,d0⟩:=(HPa.out.ext HXq.out).at1 hjt
       subst hA3;have HS:=gH (nIx_step hy HPq.out);have HMem:=gH (List.mem_of_getElem? hy);clear hy
       by_cases hq:y=id
       · have g1:(y == id)=true:=by simpa using hq
         (have HR:Hid (orig l id=(f.reel,f.id,true)):=by show _=_;rw [HP.out,HD.out,if_pos (by rw [← hq];exact HMem.out)]);(have hcl:=fun o=>(HBf.out.ext HXq.out).cell o);clear hq;go_wp2_with fail;go_quiet (fail);go_wp2_with fail;go_ret3;exact ⟨by rw [HR.out];rfl,(HX.out.trans (HXf.out.trans HXq.out)).drewN _⟩
       · have g1:(y == id)=false:=by simpa using hq
         have HT:=gH (HS.out.2 hq);clear hq;go_wp2_with fail;exact ⟨⟨j+1,by omega,by go_num,HXq.out,HT.out⟩,by simp [intOf];omega⟩
     · have hjn:j=np:=by omega
       have HR:Hid (orig l id=orig (l.drop (k+1)) id):=by
        show _=_
        rw [HP.out,HD.out,if_neg];intro hm;exact HPq.out id (by rwa [List.take_of_length_le (by have:=HNp.out;omega)]) rfl
       subst hjn;go_wp2_with fail;exact ⟨⟨k+1,by omega,by go_num,HX.out.trans (HXf.out.trans HXq.out),HR.out⟩,by simp [intOf];omega⟩
  · have hkn:k=n:=by omega
    subst hkn;(have HR:Hid (orig l id=(⟨#[]⟩,0,false)):=by show _=_;rw [HP.out,List.drop_eq_nil_of_le (by have:=HLn.out;omega)];rfl);go_wp2_with fail;go_ret3;exact ⟨by rw [HR.out];rfl,HX.out⟩
def NumRel (w:World) (n:Nat) (a b:List Int) (i:Value) (wr:World):Prop:=∃ k:Nat,k≤n∧i = .int .i64 k∧Ext w wr∧a.take k=b.take k
set_option maxHeartbeats 4000000 in
theorem qNn (A B:Option Addr) (n c m d:Nat) (l1 l2:List Int) (w:World) (h1:IntA w A n l1) (h2:IntA w B m l2) (hn:n≤4611686018427387904) (hm:m≤4611686018427387904) :
 Calls Tryz.prog 86 #[.slice A n c,.slice B m d] w fun e w'=>e = .returned (.bool (decide (l1=l2)))∧Ext w w':=by
 have H1:=gH h1;have H2:=gH h2;have L1:=gH h1.len;have L2:=gH h2.len;clear h1 h2;go_enter Tryz.func86,Tryz.ntmps86
 by_cases hnm:n=m
 case neg =>
  have hb:((n:Int) != (m:Int))=true:=by simp;omega
  have HN:Hid (¬ l1=l2):=by
   show ¬ _
   intro h;apply hnm;rw [← L1.out,← L2.out,h]
  clear hnm;go_wp2_with fail;go_ret;exact ⟨qAg (decide_eq_false HN.out).symm,Ext.refl _⟩
 subst hnm;(have hb:((n:Int) != (n:Int))=false:=by simp);go_wp2_with fail
 go_loopw [13] (fun i wr=>NumRel w n l1 l2 i wr) (fun i _=>n-(intOf i).toNat)
 case atStart=>exact ⟨0,Nat.zero_le _,rfl,Ext.refl _,by simp⟩
 case round =>
  obtain ⟨k,hk,rfl,hx,hp⟩:=hrel;have HX:=gH hx;have HP:=gH hp;clear hx hp
  by_cases hlt:k<n
  · obtain ⟨b1,o1,x,rfl,hx1,c0⟩:=(H1.out.ext HX.out).at1 hlt
    obtain ⟨b2,o2,y,rfl,hy1,d0⟩:=(H2.out.ext HX.out).at1 hlt;have HR:=gH hx1;have HS:=gH hy1;clear hx1 hy1;(have hk0:(0:Int)≤(k:Int):=by omega);(have hk1:(k:Int)<(n:Int):=by omega)
    by_cases hq:x=y
    · subst hq
      have HT:=gH (qEe HP.out HR.out HS.out);(have g1:(x != x)=false:=by simp);go_wp2_with fail;go_quiet (fail);go_wp2_with fail;exact ⟨⟨k+1,by omega,by go_num,HX.out.drewN _,HT.out⟩,by simp [intOf];omega⟩
    · have HN:=gH (ne_at HR.out HS.out hq)
      (have g1:(x != y)=true:=by simpa using hq);clear hq;go_wp2_with fail;go_quiet (fail);go_wp2_with fail;go_ret;exact ⟨qAg (decide_eq_false HN.out).symm,HX.out.drewN _⟩
  · have hkn:k=n:=by omega
    subst hkn;have HQ:=gH (qFa L1.out L2.out HP.out);go_wp2_with fail;go_ret;exact ⟨qAg (decide_eq_true HQ.out).symm,HX.out⟩
end
section
open Go.RowKit
theorem fat_eq {f g:Fat} (h1:f.reel=g.reel) (h2:f.id=g.id) (h3:f.parts=g.parts) (h4:f.lost=g.lost) (h5:f.short=g.short):f=g:=by
 cases f;cases g;simp only at h1 h2 h3 h4 h5;subst h1 h2 h3 h4 h5;rfl
instance:DecidableEq Fat:=fun f g=>decidable_of_iff (f.reel=g.reel∧f.id=g.id∧f.parts=g.parts∧f.lost=g.lost∧f.short=g.short) ⟨fun h=>fat_eq h.1 h.2.1 h.2.2.1 h.2.2.2.1 h.2.2.2.2,fun h=>by subst h;exact ⟨rfl,rfl,rfl,rfl,rfl⟩⟩
def SmRel (w:World) (n:Nat) (a b:List Fat) (i:Value) (wr:World):Prop:=∃ k:Nat,k≤n∧i = .int .i64 k∧Ext w wr∧a.take k=b.take k
theorem wp_alloc_fate {o:Oper} {a:Act} {w:World} {K:Act→World→Prop} {Q:Exit→Act→World→Prop} (ho:o.op = .alloc 67) (h:K (a.put o.dst (.pointer (some ⟨w.heap.size,0,none⟩))) (w.alloc (.cells #[.string ⟨#[]⟩,.int .i64 0,.slice none 0 0,.int .i64 0,.slice none 0 0] 67))):o.wp Tryz.prog a w K Q:=by
 obtain ⟨dst,op,ty,pos,after,guard⟩:=o;simp only at ho;subst ho;go_simp;exact h
set_option maxHeartbeats 8000000 in
theorem RFatSame_any (A B:Option Addr) (n c m d:Nat) (l1 l2:List Fat) (w:World) (h1:qGi w A n l1) (h2:qGi w B m l2) (hf1:qIh l1) (hf2:qIh l2) (hn:n≤1000000) (hm:m≤1000000) :
 Calls Tryz.prog 39 #[.slice A n c,.slice B m d] w fun e w'=>e = .returned (.bool (decide (l1=l2)))∧Ext w w':=by
 have H1:=gH h1;have H2:=gH h2;have L1:=gH h1.len;have L2:=gH h2.len;have F1:=gH hf1;have F2:=gH hf2;clear h1 h2 hf1 hf2;go_enter Tryz.func39,Tryz.ntmps39
 by_cases hnm:n=m
 case neg =>
  have hb:((n:Int) != (m:Int))=true:=by simp;omega
  have HN:Hid (¬ l1=l2):=by
   show ¬ _
   intro h;apply hnm;rw [← L1.out,← L2.out,h]
  clear hnm;go_wp2_with fail;go_ret;exact ⟨qAg (decide_eq_false HN.out).symm,Ext.refl _⟩
 subst hnm;(have hb:((n:Int) != (n:Int))=false:=by simp);go_wp2_with fail
 go_loopw [15] (fun i wr=>SmRel w n l1 l2 i wr) (fun i _=>n-(intOf i).toNat)
 case atStart=>exact ⟨0,Nat.zero_le _,rfl,Ext.refl _,by simp⟩
 case round =>
  obtain ⟨k,hk,rfl,hx,hp⟩:=hrel;have HX:=gH hx;have HP:=gH hp;clear hx hp
  by_cases hlt:k<n
  · obtain ⟨b1,o1,f,p1,q1,r1,t1,rfl,hfk,hp1,hs1,c0,c1,c2,c3,c4⟩:=(H1.out.ext HX.out).at5 hlt
    obtain ⟨b2,o2,g,p2,q2,r2,t2,rfl,hgk,hp2,hs2,d0,d1,d2,d3,d4⟩:=(H2.out.ext HX.out).at5 hlt;have HFk:=gH hfk;have HGk:=gH hgk;have HPs:=gH (And.intro hp1 (And.intro hs1 (And.intro hp2 hs2)));clear hfk hgk hp1 hs1 hp2 hs2;go_upto_region 6 with fail;refine qFe [some 18,some 19,some 20,some 21,some 22,some 23,some 24,some 25,some 6,some 7,none,none] [[],[],[0,1],[2],[],[],[4,5],[6],[],[],[8,3,0,1,2,3,8,9],[9,7,10,0,1,2,3,4,5,6,7,8,9,10]] [10,11] [8,9] [.slice (some ⟨b1,o1,none⟩) n c,.int .i64 k,.pointer (some ⟨b1,o1+k*5,none⟩),.agg #[.string f.reel,.int .i64 f.id,.slice p1 f.parts.length q1,.int .i64 f.lost,.slice r1 f.short.length t1],.slice (some ⟨b2,o2,none⟩) n d,.int .i64 k,.pointer (some ⟨b2,o2+k*5,none⟩),.agg #[.string g.reel,.int .i64 g.id,.slice p2 g.parts.length q2,.int .i64 g.lost,.slice r2 g.short.length t2],undef,undef,undef,undef] (fun _=>.cells #[.string ⟨#[]⟩,.int .i64 0,.slice none 0 0,.int .i64 0,.slice none 0 0] 67) (TwoJ 67 8 9 5 #[.string f.reel,.int .i64 f.id,.slice p1 f.parts.length q1,.int .i64 f.lost,.slice r1 f.short.length t1] #[.string g.reel,.int .i64 g.id,.slice p2 g.parts.length q2,.int .i64 g.lost,.slice r2 g.short.length t2] wr) (by kernel_rfl) (by kernel_rfl) (by kernel_rfl) (by kernel_rfl) (by kernel_rfl) (by kernel_rfl) (by kernel_rfl) (by decide) (by kernel_rfl) ?_ ?_ ?_ ?_ ?_ ?_
    · exact twoJ_start wr
    · intro i o ho ha a w' K' hk
      match i,ho with
      | 0,ho | 1,ho | 2,ho | 3,ho | 4,ho | 5,ho | 6,ho | 7,ho=>simp at ha
      | 8,ho | 9,ho =>
       simp only [gA,gB,gC,gD] at ho;subst ho;exact wp_alloc_fate rfl hk
      | 10,ho | 11,ho=>simp at ha
      | i+12,ho=>simp at ho
    · intro i ha us gs w' hJ hn hlim
      match i,ha with
      | 0,ha | 1,ha | 2,ha | 3,ha | 4,ha | 5,ha | 6,ha | 7,ha=>simp at ha
      | 8,ha=>exact twoJ_p hJ (by decide) rfl (hlim 0 10 rfl rfl)
      | 9,ha=>exact twoJ_q hJ (by decide) rfl (by have:=hlim 0 10 rfl rfl;omega)
      | 10,ha | 11,ha=>simp at ha
      | i+12,ha=>simp at ha
    · intro i o ho hc ha a w' us gs K' hJ hF hlim hk
      match i,ho with
      | 0,ho =>
       simp only [gA,gB,gC,gD] at ho;subst ho;have e0:=hF.old 0 (.slice (some ⟨b1,o1,none⟩) n c) rfl rfl;simp only [Act.eval] at e0;clear hF hlim hJ;go_simp;exact hk
      | 1,ho =>
       simp only [gA,gB,gC,gD] at ho;subst ho;have e5:=hF.old 5 (.int .i64 k) rfl rfl;simp only [Act.eval] at e5;clear hF hlim hJ;go_simp;exact hk
      | 2,ho =>
       simp only [gA,gB,gC,gD] at ho;subst ho;have e18:=hF.pure 0 18 (.slice (some ⟨b1,o1,none⟩) n c) rfl rfl rfl rfl rfl;have e19:=hF.pure 1 19 (.int .i64 k) rfl rfl rfl rfl rfl;have hix:k<n:=hlt;(have hix2:¬ n≤k:=by omega);simp only [Act.eval] at e18 e19;clear hF hlim hJ;go_simp;exact hk
      | 3,ho =>
       simp only [gA,gB,gC,gD] at ho;subst ho;have e20:=hF.pure 2 20 (.pointer (some ⟨b1,o1+k*5,none⟩)) rfl rfl rfl rfl rfl;have h0:=hJ.ext.cell c0;have h1:=hJ.ext.cell c1;have h2:=hJ.ext.cell c2;have h3:=hJ.ext.cell c3;have h4:=hJ.ext.cell c4;clear c0 c1 c2 c3 c4 d0 d1 d2 d3 d4;simp only [Act.eval] at e20;clear hF hlim hJ;go_simp;exact hk
      | 4,ho =>
       simp only [gA,gB,gC,gD] at ho;subst ho;have e1:=hF.old 1 (.slice (some ⟨b2,o2,none⟩) n d) rfl rfl;simp only [Act.eval] at e1;clear hF hlim hJ;go_simp;exact hk
      | 5,ho =>
       simp only [gA,gB,gC,gD] at ho;subst ho;have e5:=hF.old 5 (.int .i64 k) rfl rfl;simp only [Act.eval] at e5;clear hF hlim hJ;go_simp;exact hk
      | 6,ho =>
       simp only [gA,gB,gC,gD] at ho;subst ho;have e22:=hF.pure 4 22 (.slice (some ⟨b2,o2,none⟩) n d) rfl rfl rfl rfl rfl;have e23:=hF.pure 5 23 (.int .i64 k) rfl rfl rfl rfl rfl;have hix:k<n:=hlt;(have hix2:¬ n≤k:=by omega);simp only [Act.eval] at e22 e23;clear hF hlim hJ;go_simp;exact hk
      | 7,ho =>
       simp only [gA,gB,gC,gD] at ho;subst ho;have e24:=hF.pure 6 24 (.pointer (some ⟨b2,o2+k*5,none⟩)) rfl rfl rfl rfl rfl;have h0:=hJ.ext.cell d0;have h1:=hJ.ext.cell d1;have h2:=hJ.ext.cell d2;have h3:=hJ.ext.cell d3;have h4:=hJ.ext.cell d4;clear c0 c1 c2 c3 c4 d0 d1 d2 d3 d4;simp only [Act.eval] at e24;clear hF hlim hJ;go_simp;exact hk
      | 8,ho | 9,ho=>simp at ha
      | 10,ho | 11,ho=>simp at hc
      | i+12,ho=>simp at ho
    · intro p c' o hp ho a w' us gs K' hl hJ hF hk
      match p,hp with
      | 0,hp =>
       (obtain rfl:10=c':=by simpa using hp);simp only [gA,gB,gC,gD] at ho;subst ho;obtain rfl:us=[]:=List.eq_nil_of_length_eq_zero hl;obtain ⟨gg,hgg,eg⟩:=hF.ptr 8 6 rfl rfl rfl rfl;have es:=hF.pure 3 21 (.agg #[.string f.reel,.int .i64 f.id,.slice p1 f.parts.length q1,.int .i64 f.lost,.slice r1 f.short.length t1]) rfl rfl rfl rfl rfl;obtain ⟨_,cs,hcs,hB,_⟩:=hJ.va gg hgg;exact qKf 67 (.tmp 6) (.tmp 21) rfl gg 67 _ _ eg es (by exact qMh) (by simp [Value.oneCell']) hB hcs (hk undef _ (twoJ_a hJ hgg rfl hB))
      | 1,hp =>
       (obtain rfl:11=c':=by simpa using hp);simp only [gA,gB,gC,gD] at ho;subst ho;obtain ⟨u0,rfl⟩:=qEq hl;obtain ⟨gg,hgg,eg⟩:=hF.ptr 9 7 rfl rfl rfl rfl;have es:=hF.pure 7 25 (.agg #[.string g.reel,.int .i64 g.id,.slice p2 g.parts.length q2,.int .i64 g.lost,.slice r2 g.short.length t2]) rfl rfl rfl rfl rfl;obtain ⟨_,cs,hcs,hB,_⟩:=hJ.vb gg hgg;exact qKf 67 (.tmp 7) (.tmp 25) rfl gg 67 _ _ eg es (by exact qMh) (by simp [Value.oneCell']) hB hcs (hk undef _ (twoJ_b hJ hgg rfl hB))
      | p+2,hp=>simp at hp
    intro us gs w4 hl hgs hJ;rename_i hK;obtain ⟨u0,u1,rfl⟩:=qEo hl;obtain ⟨ga,gb,hga,hgb,hga1,hgb1,hgne,hBa,hBb⟩:=hJ.end_ (fun j hj=>hgs j (by rcases hj with rfl | rfl<;>rfl));refine hK _ _ ?_;clear hK;generalize hL:frameA _ _ _ _ _ _=L;obtain rfl:L=[(18,.slice (some ⟨b1,o1,none⟩) n c),(19,.int .i64 k),(20,.pointer (some ⟨b1,o1+k*5,none⟩)),(21,.agg #[.string f.reel,.int .i64 f.id,.slice p1 f.parts.length q1,.int .i64 f.lost,.slice r1 f.short.length t1]),(22,.slice (some ⟨b2,o2,none⟩) n d),(23,.int .i64 k),(24,.pointer (some ⟨b2,o2+k*5,none⟩)),(25,.agg #[.string g.reel,.int .i64 g.id,.slice p2 g.parts.length q2,.int .i64 g.lost,.slice r2 g.short.length t2]),(6,.pointer ((gs 8).map fun g=>⟨g,0,none⟩)),(7,.pointer ((gs 9).map fun g=>⟨g,0,none⟩))]:=hL.symm.trans (by kernel_rfl);rw [hga,hgb];clear hL hl hgs;simp only [Act.put,Option.map_some,List.foldl_cons,List.foldl_nil,List.setIfInBounds_toArray,List.set_cons_zero,List.set_cons_succ];have HXa:=gH (HX.out.trans hJ.ext);have HJx:=gH hJ.ext;have HBa:=gH hBa;have HBb:=gH hBb;have HNp:=gH (fun w' (hx:Ext wr w')=>qNn p1 p2 f.parts.length q1 g.parts.length q2 f.parts g.parts w' (HPs.out.1.ext hx) (HPs.out.2.2.1.ext hx) (F1.out.parts f (List.mem_of_getElem? HFk.out)) (F2.out.parts g (List.mem_of_getElem? HGk.out)))
    have HNs:=gH (fun w' (hx:Ext wr w')=>qNn r1 r2 f.short.length t1 g.short.length t2 f.short g.short w' (HPs.out.2.1.ext hx) (HPs.out.2.2.2.ext hx) (F1.out.short f (List.mem_of_getElem? HFk.out)) (F2.out.short g (List.mem_of_getElem? HGk.out)));(have HNe:Hid (f≠g→¬ l1=l2):=fun hne he=>by have h1:=HFk.out;rw [he,HGk.out] at h1;exact hne (Option.some.inj h1).symm);(have HYe:Hid (f=g→l1.take (k+1)=l2.take (k+1)):=fun he=>by rw [take_snoc' _ _ _ HFk.out,take_snoc' _ _ _ HGk.out,HP.out,he]);clear hJ hBa hBb hga1 hgb1 hgne hga hgb F1 F2 HPs c0 c1 c2 c3 c4 d0 d1 d2 d3 d4;(have hca:=fun o=>HBa.out.cell o);(have hcb:=fun o=>HBb.out.cell o)
    by_cases hne:f.reel=g.reel
    case neg =>
     (have he':(f.reel.toList == g.reel.toList)=false:=by rw [qHu];simpa using hne);have HQ:=gH (HNe.out (fun h=>hne (by rw [h])));clear hne HNe HYe;go_wp2_with fail;go_ret;exact ⟨qAg (decide_eq_false HQ.out).symm,HXa.out⟩
    (have he1:(f.reel.toList == g.reel.toList)=true:=by rw [qHu];simpa using hne);have HR:=gH hne;clear hne
    by_cases hne:f.id=g.id
    case neg =>
     (have he':(f.id != g.id)=true:=by simpa using hne);have HQ:=gH (HNe.out (fun h=>hne (by rw [h])));clear hne HNe HYe;go_wp2_with fail;go_ret;exact ⟨qAg (decide_eq_false HQ.out).symm,HXa.out⟩
    (have he2:(f.id != g.id)=false:=by simpa using hne);have HI:=gH hne;clear hne
    by_cases hne:f.lost=g.lost
    case neg =>
     (have he':(f.lost != g.lost)=true:=by simpa using hne);have HQ:=gH (HNe.out (fun h=>hne (by rw [h])));clear hne HNe HYe;go_wp2_with fail;go_ret;exact ⟨qAg (decide_eq_false HQ.out).symm,HXa.out⟩
    (have he3:(f.lost != g.lost)=false:=by simpa using hne);have HL:=gH hne;clear hne;go_wp2_with fail;refine (HNp.out _ HJx.out).mono ?_;rintro en w5 ⟨rfl,hx5⟩;have HXb:=gH (HXa.out.trans hx5);have HJy:=gH (HJx.out.trans hx5);have HBa5:=gH (HBa.out.ext hx5);have HBb5:=gH (HBb.out.ext hx5);clear hx5 hca hcb HBa HBb HXa HJx HNp;(have hca:=fun o=>HBa5.out.cell o);(have hcb:=fun o=>HBb5.out.cell o)
    by_cases hne:f.parts=g.parts
    case neg =>
     have he':decide (f.parts=g.parts)=false:=decide_eq_false hne;have HQ:=gH (HNe.out (fun h=>hne (by rw [h])));clear hne HNe HYe;go_wp2_with fail;go_ret;exact ⟨qAg (decide_eq_false HQ.out).symm,HXb.out⟩
    have he4:decide (f.parts=g.parts)=true:=decide_eq_true hne;have HPp:=gH hne;clear hne;go_wp2_with fail;refine (HNs.out _ HJy.out).mono ?_;rintro en w6 ⟨rfl,hx6⟩;have HXc:=gH (HXb.out.trans hx6);clear hx6 hca hcb HBa5 HBb5 HXb HJy HNs
    by_cases hne:f.short=g.short
    case neg =>
     have he':decide (f.short=g.short)=false:=decide_eq_false hne;have HQ:=gH (HNe.out (fun h=>hne (by rw [h])));clear hne HNe HYe;go_wp2_with fail;go_ret;exact ⟨qAg (decide_eq_false HQ.out).symm,HXc.out⟩
    have he5:decide (f.short=g.short)=true:=decide_eq_true hne;have HQ:=gH (HYe.out (fat_eq HR.out HI.out HPp.out HL.out hne));clear hne HNe HYe;go_wp2_with fail;exact ⟨⟨k+1,by omega,by go_num,HXc.out,HQ.out⟩,by simp [intOf];omega⟩
  · have hkn:k=n:=by omega
    subst hkn;have HQ:=gH (qFa L1.out L2.out HP.out);go_wp2_with fail;go_ret;exact ⟨qAg (decide_eq_true HQ.out).symm,HX.out⟩
end
section
open Go.RowKit
theorem con_fats0 (docs:List RDoc) (e:Edl) (least:Int):qIh (qCx docs e least)∧(qCx docs e least).length≤1000000:=by
 by_cases h:conE docs e least=0
 · exact con_fats h
 · have:qCx docs e least=[]:=by unfold qCx;rw [if_neg h]
   rw [this];exact ⟨⟨fun f hf=>by simp at hf,fun f hf=>by simp at hf⟩,by simp⟩
set_option maxHeartbeats 8000000 in
theorem qPf (docs:List RDoc) (A:Option Addr) (n c:Nat) (e:Edl) (B:Option Addr) (m d:Nat) (least:Int) (w:World) (hE:Env w) (ht:TabU w) (hl:qEt w A n docs) (hr:∀ d∈docs,d.reel.size≤1048576) (he:qBd w B m e.cuts) (hok:qJr e) :
 Calls Tryz.prog 10 #[.slice A n c,.agg (e.cells B m d),.int .i64 least] w fun en w'=>en = .returned (.bool true)∧Ext w w':=by
 obtain ⟨W1,hW1⟩:∃ W1,W1=w.alloc (.cells (e.cells B m d) 25):=⟨_,rfl⟩;(have HX:Hid (Ext w W1):=by show Ext _ _;rw [hW1];exact (Ext.refl w).alloc _);(have HB:Hid (Blk W1 w.heap.size 25 (e.cells B m d)):=by show Blk _ _ _ _;rw [hW1];exact Blk.new w _ _);have HAw:=gH (fun w' (hx:Ext w w')=>awake46_any w' (hE.ext hx) (ht.ext hx));have HSm:=gH (fun w' (hx:Ext w w')=>small46_any docs A n c e B m d w' (hl.ext hx) (he.ext hx));have HOf:=gH (fun w'=>Of_any e B m d w');have HFt:=gH (fun (h:qEs docs e=true)=>fits46 hl hr he h);have HCo:=gH (fun w' (hx:Ext w w') (h:Fits46 w A n docs m e)=>qOd docs A n c e B m d least w' (hE.ext hx) (h.at_.ext hx) (he.ext hx) h.m hok h.n h.fit);have HRc:=gH (fun w' (hx:Ext w w') (h:Fits46 w A n docs m e)=>RConform_any docs A n c e B m d least w' (hE.ext hx) (h.at_.ext hx) (he.ext hx) h.m hok h.n h.fit);have HFf:Hid (qIh (qCx docs e least)∧(qCx docs e least).length≤1000000):=con_fats0 docs e least;clear hE ht hl hr he hok;unfold qFv at HCo;unfold Edl.cells at *;go_enter Tryz.func10,Tryz.ntmps10;go_upto_region 1 with fail;rw [← hW1];clear hW1;go_wp2_with fail;refine (HAw.out _ HX.out).mono ?_;rintro en w_65 ⟨rfl,hx_66⟩;have HX_67:=gH (HX.out.trans hx_66);have HB_68:=gH (HB.out.ext hx_66);clear hx_66 HX HB;go_wp2_with (refine qAc rfl 25 (.tmp 4) rfl w.heap.size 25 _ _ (by exact rfl) (by exact HB_68.out) Tryz.underlying25 rfl (by exact qBl) ?_)
 refine (HSm.out _ HX_67.out).mono ?_;rintro en w_69 ⟨rfl,hx_70⟩;have HX_71:=gH (HX_67.out.trans hx_70);have HB_72:=gH (HB_68.out.ext hx_70);clear hx_70 HX_67 HB_68
 cases hsm:qEs docs e with
 | false =>
  go_wp2_with fail;go_ret;exact ⟨rfl,HX_71.out⟩
 | true =>
  have HF:=gH (HFt.out hsm);clear hsm HFt;go_wp2_with (refine qAc rfl 25 (.tmp 4) rfl w.heap.size 25 _ _ (by exact rfl) (by exact HB_72.out) Tryz.underlying25 rfl (by exact qBl) ?_);refine (HOf.out _).mono ?_;rintro en w_73 ⟨rfl,hx_74⟩;have HX_75:=gH (HX_71.out.trans hx_74);have HB_76:=gH (HB_72.out.ext hx_74);clear hx_74 HX_71 HB_72;unfold qFv at HRc;go_wp2_with fail;refine (HCo.out _ HX_75.out HF.out).mono ?_;rintro en w_77 ⟨⟨hra,nr,hrc,hea,ne,hec,hca,nc,hcc⟩,AF,fc,rfl,hat,hsz,hft,hx_78⟩;have HAt_0:=gH hat;have HFa_0:=gH hft;have hsr:=hsz.r;have hse:=hsz.e;have hsc:=hsz.c;clear hat hft hsz;have HX_79:=gH (HX_75.out.trans hx_78);have HB_80:=gH (HB_76.out.ext hx_78);clear hx_78 HX_75 HB_76;unfold Doc.cells;dsimp only;generalize qLt docs e least=D at *;generalize qCx docs e least=F at *;generalize conE docs e least=E at *;go_upto_region 6 with fail;have HB_81:=gH (Blk.new w_77 52 #[.string D.title,.string D.lang,.int .u8 D.rate,.bool D.drop,.int .i64 D.last,.slice hra nr hrc,.slice hea ne hec,.slice hca nc hcc]);have ha_82:=(Ext.refl w_77).alloc (.cells #[.string D.title,.string D.lang,.int .u8 D.rate,.bool D.drop,.int .i64 D.last,.slice hra nr hrc,.slice hea ne hec,.slice hca nc hcc] 52);have HX_83:=gH (HX_79.out.trans ha_82);have HB_84:=gH (HB_80.out.ext ha_82);have HF_85:=gH (HAt_0.out.ext ha_82);have HF_86:=gH (HFa_0.out.ext ha_82);clear ha_82 HX_79 HB_80 HAt_0 HFa_0
  generalize w_77.alloc (.cells #[.string D.title,.string D.lang,.int .u8 D.rate,.bool D.drop,.int .i64 D.last,.slice hra nr hrc,.slice hea ne hec,.slice hca nc hcc] 52)=w_87 at *;generalize w_77.heap.size=gd_88 at *;go_wp2_with (refine qAc rfl 25 (.tmp 4) rfl w.heap.size 25 _ _ (by exact rfl) (by exact HB_84.out) Tryz.underlying25 rfl (by exact qBl) ?_);refine (HRc.out _ HX_83.out HF.out).mono ?_;rintro en w_89 ⟨⟨sra,sr,src,sea,se,sec,sca,sc,scc⟩,AG,gc,rfl,hat,hsz,hft,hx_90⟩;have HAt_1:=gH hat;have HFa_1:=gH hft;have hsr2:=hsz.r;have hse2:=hsz.e;have hsc2:=hsz.c;clear hat hft hsz;have HX_91:=gH (HX_83.out.trans hx_90);have HB_92:=gH (HB_84.out.ext hx_90);have HB_93:=gH (HB_81.out.ext hx_90);have HF_94:=gH (HF_85.out.ext hx_90);have HF_95:=gH (HF_86.out.ext hx_90);clear hx_90 HX_83 HB_84 HB_81 HF_85 HF_86;unfold Doc.cells;dsimp only;go_upto_region 7 with fail;have HB_96:=gH (Blk.new w_89 52 #[.string D.title,.string D.lang,.int .u8 D.rate,.bool D.drop,.int .i64 D.last,.slice sra sr src,.slice sea se sec,.slice sca sc scc]);have ha_97:=(Ext.refl w_89).alloc (.cells #[.string D.title,.string D.lang,.int .u8 D.rate,.bool D.drop,.int .i64 D.last,.slice sra sr src,.slice sea se sec,.slice sca sc scc] 52);have HX_98:=gH (HX_91.out.trans ha_97);have HB_99:=gH (HB_92.out.ext ha_97);have HB_100:=gH (HB_93.out.ext ha_97);have HF_101:=gH (HF_94.out.ext ha_97);have HF_102:=gH (HF_95.out.ext ha_97)
  have HF_103:=gH (HAt_1.out.ext ha_97);have HF_104:=gH (HFa_1.out.ext ha_97);clear ha_97 HX_91 HB_92 HB_93 HF_94 HF_95 HAt_1 HFa_1;generalize w_89.alloc (.cells #[.string D.title,.string D.lang,.int .u8 D.rate,.bool D.drop,.int .i64 D.last,.slice sra sr src,.slice sea se sec,.slice sca sc scc] 52)=w_105 at *;generalize w_89.heap.size=gr_106 at *;have HS1:=gH (DSame_big D D ⟨hra,nr,hrc,hea,ne,hec,hca,nc,hcc⟩ ⟨sra,sr,src,sea,se,sec,sca,sc,scc⟩ w_105 HF_101.out HF_103.out ⟨by dsimp only;omega,by dsimp only;omega,by dsimp only;omega⟩);rw [sameDoc_self] at HS1;unfold Doc.cells at HS1;dsimp only at HS1;(go_wp2_with first | (refine qAc rfl 52 (.tmp 7) rfl gd_88 52 _ _ (by exact rfl) (by exact HB_100.out) Tryz.underlying52 rfl (by exact qBh) ?_) | (refine qAc rfl 52 (.tmp 10) rfl gr_106 52 _ _ (by exact rfl) (by exact HB_96.out) Tryz.underlying52 rfl (by exact qBh) ?_));refine (HS1.out).mono ?_;rintro en w_107 ⟨rfl,hx_108⟩;have HX_109:=gH (HX_98.out.trans hx_108);have HB_110:=gH (HB_99.out.ext hx_108);have HB_111:=gH (HB_100.out.ext hx_108);have HB_112:=gH (HB_96.out.ext hx_108);have HF_113:=gH (HF_101.out.ext hx_108);have HF_114:=gH (HF_102.out.ext hx_108);have HF_115:=gH (HF_103.out.ext hx_108);have HF_116:=gH (HF_104.out.ext hx_108);clear hx_108 HX_98 HB_99 HB_100 HB_96 HF_101 HF_102 HF_103 HF_104
  have HS2:=gH (RFatSame_any AF AG F.length fc F.length gc F F w_107 HF_114.out HF_116.out HFf.out.1 HFf.out.1 HFf.out.2 HFf.out.2);rw [decide_eq_true rfl] at HS2;go_wp2_with fail;refine (HS2.out).mono ?_;rintro en w_117 ⟨rfl,hx_118⟩;have HX_119:=gH (HX_109.out.trans hx_118);have HB_120:=gH (HB_110.out.ext hx_118);have HB_121:=gH (HB_111.out.ext hx_118);have HB_122:=gH (HB_112.out.ext hx_118);have HF_123:=gH (HF_113.out.ext hx_118);have HF_124:=gH (HF_114.out.ext hx_118);have HF_125:=gH (HF_115.out.ext hx_118);have HF_126:=gH (HF_116.out.ext hx_118);clear hx_118 HX_109 HB_110 HB_111 HB_112 HF_113 HF_114 HF_115 HF_116;go_wp2_with fail;go_ret;exact ⟨by first | rfl | simp,HX_119.out⟩
end
end Go.Proofs.YtablhmobekmflaaGreatDoor