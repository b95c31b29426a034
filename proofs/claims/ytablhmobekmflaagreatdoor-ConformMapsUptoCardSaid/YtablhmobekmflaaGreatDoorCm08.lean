/- Texts laid together. -/
import Derived.Test.YtablhmobekmflaaGreatDoorCm07
set_option linter.unusedVariables false
set_option linter.unusedSimpArgs false
set_option maxRecDepth 100000
namespace Go.Proofs.YtablhmobekmflaaGreatDoor
section
open Go.RowKit
def qHd (l:List Reg):Nat→Option ByteArray | 0=>none | k+1=>(l[k]?).map (·.name)
theorem regs_step {l:List Reg} {k:Nat} {r:Reg} {E:Int} (hr:l[k]?=some r) (hP:E=qEi (qHd l k) (l.drop k)) :
 (r.check≠0→E=r.check)∧(r.check=0→qHd l k=some r.name→E=7)∧(r.check=0→qHd l k≠some r.name→((qHd l k).map fun q=>Op.bytesLess r.name.toList q.toList)=some true→E=8) ∧
  (r.check=0→qHd l k≠some r.name→((qHd l k).map fun q=>Op.bytesLess r.name.toList q.toList)≠some true→E=qEi (qHd l (k+1)) (l.drop (k+1))):=by
 rw [qDe l k r hr] at hP;unfold qEi at hP;(have hn:qHd l (k+1)=some r.name:=by simp [qHd,hr]);refine ⟨fun h=>?_,fun h h1=>?_,fun h h1 h2=>?_,fun h h1 h2=>?_⟩
 · rw [if_pos h] at hP;exact hP
 · rw [if_neg (by omega),if_pos h1] at hP;exact hP
 · rw [if_neg (by omega),if_neg h1,if_pos h2] at hP;exact hP
 · rw [if_neg (by omega),if_neg h1,if_neg h2] at hP;rw [hP,hn]
theorem prev_reg {w:World} {A:Option Addr} {n:Nat} {l:List Reg} (h:qDs w A n l) {k:Nat} (hk:k≤n) (h0:0<k):∃ b off q,A=some ⟨b,off,none⟩∧w.cell? ⟨b,off+(k-1)*7,none⟩=some (.string q)∧qHd l k=some q:=by
 obtain ⟨j,rfl⟩:∃ j,k=j+1:=⟨k-1,by omega⟩;obtain ⟨b,off,r,hA,hr,hc⟩:=h.at_ (i:=j) (by omega);exact ⟨b,off,r.name,hA,by simpa using hc.1,by simp [qHd,hr]⟩
def ListRel (w:World) (n:Nat) (l:List Reg) (i:Value) (wr:World):Prop:=∃ k:Nat,k≤n∧i = .int .i64 k∧Ext w wr∧qEi none l=qEi (qHd l k) (l.drop k)
theorem qFp (x y:ByteArray):(x.toList == y.toList)=decide (x=y):=by
 by_cases h:x=y
 · subst h;simp
 · rw [decide_eq_false h,beq_eq_false_iff_ne]
   intro he;rw [ByteArray.toList_eq,ByteArray.toList_eq] at he;exact h (by cases x;cases y;simp_all [Array.toList_inj])
set_option maxHeartbeats 4000000 in
theorem CheckList_any (A:Option Addr) (n c:Nat) (l:List Reg) (w:World) (hl:qDs w A n l) (hn:n≤9223372036854775807) (hs:qGg l) :
 Calls Tryz.prog 70 #[.slice A n c] w fun en w'=>en = .returned (.int .i64 (qDh l))∧Ext w w':=by
 have HL:=gH hl;have HLn:=gH hl.len;have HSm:=gH hs;have HF:Hid (qDh l=if 16<l.length then 9 else qEi none l):=rfl;rw [hl.len] at HF;clear hl hs
 by_cases h16:16<n
 · have h16i:(16:Int)<(n:Int):=by omega
   go_enter Tryz.func70,Tryz.ntmps70;go_wp2_with fail;go_ret;exact ⟨qAa (by rw [HF.out,if_pos h16]),Ext.refl _⟩
 (have h16i:¬ (16:Int)<(n:Int):=by omega);have HG:=gH (HF.out.trans (if_neg h16));go_enter Tryz.func70,Tryz.ntmps70;go_wp2_with fail
 go_loopw [11] (fun i wr=>ListRel w n l i wr) (fun i _=>n-(intOf i).toNat)
 case atStart=>exact ⟨0,Nat.zero_le _,rfl,Ext.refl _,by simp [qHd]⟩
 case round =>
  obtain ⟨k,hk,rfl,hx,hP⟩:=hrel;have HXr:=gH hx
  by_cases hlt:k<n
  · obtain ⟨b,off,r,rfl,hr,c0,c1,c2,c3,c4,c5,c6⟩:=(HL.out.ext hx).at_ hlt
    have HS:=gH (regs_step hr hP);have HPv:=gH (fun h0=>prev_reg (HL.out.ext hx) (k:=k) hk h0);have HCk:=gH (fun w'=>RCheck_any r w' (HSm.out r (List.mem_of_getElem? hr)));clear hr hP;have HBc:=gH (Blk.new wr 105 #[.string r.name,.int .i64 r.top,.int .i64 r.height,.int .i64 r.left,.int .i64 r.width,.int .u8 r.align,.bool r.bottom]);have HXc:=gH ((Ext.refl wr).alloc (.cells #[.string r.name,.int .i64 r.top,.int .i64 r.height,.int .i64 r.left,.int .i64 r.width,.int .u8 r.align,.bool r.bottom] 105));unfold Reg.val at HCk;go_wp2_with (refine qAc rfl 105 (.tmp 4) rfl wr.heap.size 105 _ _ (by exact rfl) (by exact HBc.out) Tryz.underlying105 rfl (by exact qBw) ?_);refine (HCk.out _).mono ?_;rintro en w2 ⟨rfl,hx2⟩;have HX2:=gH (HXc.out.trans hx2);have HB2:=gH (HBc.out.ext hx2);(have hcb:=fun o=>HB2.out.cell o);clear hx2 c0 c1 c2 c3 c4 c5 c6 HBc HXc
    by_cases hce:r.check=0
    case neg =>
     (have hne:(r.check != 0)=true:=by simpa using hce);have HC:=gH hce;clear hce;go_wp2_with fail;go_ret;exact ⟨qAa (by rw [HG.out,HS.out.1 HC.out]),hx.trans HX2.out⟩
    rw [hce];have HC:=gH hce;clear hce
    by_cases hk0:k=0
    · subst hk0
      have HN:=gH (HS.out.2.2.2 HC.out (by simp [qHd]) (by simp [qHd]));go_wp2_with fail;go_quiet (fail);go_wp2_with fail;go_quiet (fail);go_wp2_with fail;exact ⟨⟨1,by omega,by go_num,(hx.trans HX2.out).drewN _,HN.out⟩,by simp [intOf];omega⟩
    obtain ⟨b',off',q,hA,p0,hq⟩:=HPv.out (by omega)
    cases hA
    (have hki:(0:Int)<(k:Int):=by omega);(have hkp:0<k:=by omega);(have hk1:((k:Int)-1).toNat=k-1:=by omega);(have hk2:(k:Int)-1=((k-1:Nat):Int):=by omega);have pp0:=HX2.out.cell p0;have HQ:=gH hq;clear p0 hq
    by_cases he:q=r.name
    · have he':(r.name.toList == q.toList)=true:=by rw [qFp];simpa using he.symm
      have HE:=gH (HS.out.2.1 HC.out (by rw [HQ.out,he]));clear he;go_wp2_with fail;go_quiet (fail);go_wp2_with fail;go_ret;exact ⟨qAa (by rw [HG.out,HE.out]),(hx.trans HX2.out).drewN _⟩
    (have he':(r.name.toList == q.toList)=false:=by rw [qFp];simpa using fun h=>he h.symm);(have HNe:Hid (qHd l k≠some r.name):=by show _≠_;rw [HQ.out];simpa using he);clear he
    cases hl2:Op.bytesLess r.name.toList q.toList
    case true =>
     have HE:=gH (HS.out.2.2.1 HC.out HNe.out (by rw [HQ.out];simp [hl2]));go_wp2_with fail;go_quiet (fail);go_wp2_with fail;go_quiet (fail);go_wp2_with fail;go_ret;exact ⟨qAa (by rw [HG.out,HE.out]),((hx.trans HX2.out).drewN _).drewN _⟩
    case false =>
     have HE:=gH (HS.out.2.2.2 HC.out HNe.out (by rw [HQ.out];simp [hl2]));go_wp2_with fail;go_quiet (fail);go_wp2_with fail;go_quiet (fail);go_wp2_with fail;exact ⟨⟨k+1,by omega,by go_num,(hx.trans HX2.out).drewN _,HE.out⟩,by simp [intOf];omega⟩
  · have hkn:k=n:=by omega
    subst hkn;have HE:=gH (hP.trans (by rw [List.drop_eq_nil_of_le (by have:=HLn.out;omega)];rfl):qEi none l=0);clear hP;go_wp2_with fail;go_ret;exact ⟨qAa (by rw [HG.out,HE.out]),hx⟩
end
section
open Go.RowKit Go.Maps
def qCb (l:List Com):Nat→Option Int | 0=>none | k+1=>(l[k]?).map (·.id)
def Com.err (c:Com) (last:Int) (evs:List Ev) (p:Option Int):Int :=
 if c.id<1∨last<c.id then 2 else if (p.map fun q=>decide (c.id≤q))=some true then 8 else if (qBu evs c.id).isSome=true then 7 else
  if c.anchorErr last evs≠0 then c.anchorErr last evs else if qBm c.author=false then 5 else if vld c.text=false then 10 else if c.text.toList.isEmpty=true then 4 else if 400<c.text.size then 9 else 0
theorem coms_cons (last:Int) (evs:List Ev) (p:Option Int) (c:Com) (l:List Com):qCu last evs p (c :: l)=if c.err last evs p≠0 then c.err last evs p else qCu last evs (some c.id) l:=by
 rw [qCu];unfold Com.err
 repeat' split
 all_goals first | rfl | omega | simp_all
theorem coms_step {l:List Com} {k:Nat} {c:Com} {E last:Int} {evs:List Ev} (hc:l[k]?=some c) (hP:E=qCu last evs (qCb l k) (l.drop k)) :
 (c.err last evs (qCb l k)≠0→E=c.err last evs (qCb l k))∧(c.err last evs (qCb l k)=0→E=qCu last evs (qCb l (k+1)) (l.drop (k+1))):=by
 rw [qDe l k c hc,coms_cons] at hP;refine ⟨fun h=>by rw [if_pos h] at hP;exact hP,fun h=>?_⟩;rw [if_neg (by simpa using h)] at hP;rw [hP];simp [qCb,hc]
section
variable {c:Com} {last:Int} {evs:List Ev} {p:Option Int}
theorem com_1 (h:c.id<1∨last<c.id):c.err last evs p=2:=by unfold Com.err;rw [if_pos h]
theorem com_2 (h:¬ (c.id<1∨last<c.id)) (h1:(p.map fun q=>decide (c.id≤q))=some true):c.err last evs p=8:=by unfold Com.err;rw [if_neg h,if_pos h1]
theorem com_3 (h:¬ (c.id<1∨last<c.id)) (h1:¬ (p.map fun q=>decide (c.id≤q))=some true) (h2:(qBu evs c.id).isSome=true):c.err last evs p=7:=by unfold Com.err;rw [if_neg h,if_neg h1,if_pos h2]
theorem qIq (h:¬ (c.id<1∨last<c.id)) (h1:¬ (p.map fun q=>decide (c.id≤q))=some true) (h2:(qBu evs c.id).isSome=false) (h3:c.anchorErr last evs≠0):c.err last evs p=c.anchorErr last evs:=by unfold Com.err;rw [if_neg h,if_neg h1,if_neg (by simp [h2]),if_pos h3]
theorem com_r (h:¬ (c.id<1∨last<c.id)) (h1:¬ (p.map fun q=>decide (c.id≤q))=some true) (h2:(qBu evs c.id).isSome=false) (h3:c.anchorErr last evs=0) :
 c.err last evs p=if qBm c.author=false then 5 else if vld c.text=false then 10 else if c.text.toList.isEmpty=true then 4 else if 400<c.text.size then 9 else 0:=by unfold Com.err;rw [if_neg h,if_neg h1,if_neg (by simp [h2]),if_neg (by simpa using h3)]
end
theorem prev_com {w:World} {A:Option Addr} {n:Nat} {l:List Com} (h:qJk w A n l) {k:Nat} (hk:k≤n) (h0:0<k):∃ b off q,A=some ⟨b,off,none⟩∧w.cell? ⟨b,off+(k-1)*8,none⟩=some (.int .i64 q)∧qCb l k=some q:=by
 obtain ⟨j,rfl⟩:∃ j,k=j+1:=⟨k-1,by omega⟩;obtain ⟨b,off,c,hA,hc,c0,_⟩:=h.at8 (i:=j) (by omega);exact ⟨b,off,c.id,hA,by simpa using c0,by simp [qCb,hc]⟩
def ComsOk (l:List Com):Prop:=∀ c∈l,IW c.id∧IW c.ev∧c.author.size≤9223372036854775807∧c.text.size≤9223372036854775807
def ComRel (w1:World) (n:Nat) (last:Int) (evs:List Ev) (l:List Com) (i:Value) (wr:World):Prop:=∃ k:Nat,k≤n∧i = .int .i64 k∧Ext w1 wr∧qCu last evs none l=qCu last evs (qCb l k) (l.drop k)
theorem size_com:(Tryz.prog.info? 152).map (·.size)=some 8:=by kernel_rfl
theorem qEa:(Tryz.prog.info? 52).map (·.size)=some 8:=by kernel_rfl
def comsErr (last:Int) (evs:List Ev) (l:List Com):Int:=if 64<l.length then 9 else qCu last evs none l
set_option maxHeartbeats 8000000 in
theorem comments_any (d:Doc) (h:DocH) (B:Nat) (w:World) (hE:Env w) (hat:qHy w d h) (hm:MapE w 3 B d.evs) (hsm:qNw d.evs) (hn:h.en≤1000000) (hcn:h.cn≤9223372036854775807) (hco:ComsOk d.coms) :
 Calls Tryz.prog 73 #[.agg (d.cells h),.map (some B)] w fun en w'=>en = .returned (.int .i64 (comsErr d.last d.evs d.coms))∧Ext w w':=by
 have HX:=gH ((Ext.refl w).alloc (.cells (d.cells h) 52));have HB:=gH (Blk.new w 52 (d.cells h));have HCs:=gH hat.coms;have HCl:=gH hat.coms.len;have HE:=gH hE;have HM:=gH hm;have HOk:=gH hco;have HAn:=gH (fun (c:Com) (hc:c∈d.coms) w' (hx:Ext w w')=>anchored_any d h c B w' (hE.ext hx) (hat.ext hx) (hm.ext hx) hsm hn (hco c hc).2.1);have HF:Hid (comsErr d.last d.evs d.coms=if 64<d.coms.length then 9 else qCu d.last d.evs none d.coms):=rfl;rw [hat.coms.len] at HF;have HmB:=hm.lt;clear hat hsm hm hE hco;unfold Doc.cells at *;obtain ⟨hra,hrn,hrc,hea,hen,hec,hca,n,hcc⟩:=h;dsimp only at *;go_enter Tryz.func73,Tryz.ntmps73
 by_cases h64:64<n
 · have h64i:(64:Int)<(n:Int):=by omega
   go_wp2_with fail;go_ret;exact ⟨qAa (by rw [HF.out,if_pos h64]),HX.out⟩
 (have h64i:¬ (64:Int)<(n:Int):=by omega);have HG:=gH (HF.out.trans (if_neg h64));clear h64 HF;go_wp2_with fail
 go_loopw [17] (fun i wr=>ComRel (w.alloc (.cells #[.string d.title,.string d.lang,.int .u8 d.rate,.bool d.drop,.int .i64 d.last,.slice hra hrn hrc,.slice hea hen hec,.slice hca n hcc] 52)) n d.last d.evs d.coms i wr) (fun i _=>n-(intOf i).toNat)
 case atStart=>exact ⟨0,Nat.zero_le _,rfl,Ext.refl _,by simp [qCb]⟩
 case round =>
  obtain ⟨k,hk,rfl,hx,hP⟩:=hrel;have HXr:=gH (HX.out.trans hx);have HBr:=gH (HB.out.ext hx);have hbl:=HBr.out.lt
  by_cases hlt:k<n
  · obtain ⟨b,off,c,rfl,hc,c0,c1,c2,c3,c4,c5,c6,c7⟩:=(HCs.out.ext HXr.out).at8 hlt
    have hcm:=List.mem_of_getElem? hc;have HS:=gH (coms_step hc hP);have HPv:=gH (fun h0=>prev_com (HCs.out.ext HXr.out) (k:=k) hk h0);have HAc:=gH (fun w' hx=>HAn.out c hcm w' hx);have HIw:=gH (HOk.out c hcm);have HKey:=gH (HOk.out c hcm).1.key;have HNm:=gH (fun w'=>qDr c.author w' (HOk.out c hcm).2.2.1);have HVl:=gH (fun w' (hx:Ext w w')=>qGd c.text w' (HE.out.ext hx) (HOk.out c hcm).2.2.2);clear hc hP hcm;have E1:=gH (fun p=>@com_1 c d.last d.evs p);have E2:=gH (fun p=>@com_2 c d.last d.evs p);have E3:=gH (fun p=>@com_3 c d.last d.evs p);have E4:=gH (fun p=>@qIq c d.last d.evs p);have E5:=gH (fun p=>@com_r c d.last d.evs p);unfold Com.cells at HAc;have HBc:=gH (Blk.new wr 152 #[.int .i64 c.id,.int .i64 c.ev,.int .i64 c.fr,.int .i64 c.til,.string c.author,.string c.text,.bool c.done,.bool c.lost]);have HXc:=gH ((Ext.refl wr).alloc (.cells #[.int .i64 c.id,.int .i64 c.ev,.int .i64 c.fr,.int .i64 c.til,.string c.author,.string c.text,.bool c.done,.bool c.lost] 152));have HBl:=gH (HBr.out.ext HXc.out);have HX2:=gH (HXr.out.trans HXc.out);obtain ⟨nm,Dm,hown,hnm,hmap,hhas,hatk⟩:=HM.out.ext HX2.out;have HOw:=gH hown;have hhas2:=hhas c.id HIw.out.1;clear hown hmap hhas hatk;(have hdl:=fun o=>HBl.out.cell o)
    by_cases hi1:c.id<1
    · have HR:=gH (HS.out.1 (by rw [E1.out _ (.inl hi1)];decide))
      have HV:=gH (E1.out (qCb d.coms k) (.inl hi1));clear hhas2;go_wp2_with (at_lookup;refine wpList_lookup_own_ok_int _ rfl _ _ 133 rfl 2 3 .i64 qIn Tryz.underlying133 Tryz.underlying3 (qDd _) B nm Dm rfl (by exact HOw.out) _ _ rfl (by exact HKey.out) ?_;intro c0 hat hwc;have HAt0:=gH hat;clear hat hwc);go_ret;exact ⟨qAa (by rw [HG.out,HR.out,HV.out]),HX2.out⟩
    by_cases hi2:d.last<c.id
    · have HR:=gH (HS.out.1 (by rw [E1.out _ (.inr hi2)];decide))
      have HV:=gH (E1.out (qCb d.coms k) (.inr hi2));clear hhas2;go_wp2_with (at_lookup;refine wpList_lookup_own_ok_int _ rfl _ _ 133 rfl 2 3 .i64 qIn Tryz.underlying133 Tryz.underlying3 (qDd _) B nm Dm rfl (by exact HOw.out) _ _ rfl (by exact HKey.out) ?_;intro c0 hat hwc;have HAt0:=gH hat;clear hat hwc);go_ret;exact ⟨qAa (by rw [HG.out,HR.out,HV.out]),HX2.out⟩
    (have HNo:Hid (¬ (c.id<1∨d.last<c.id)):=by show ¬ _;omega);clear E1
    by_cases hk0:k=0
    case pos =>
     subst hk0;simp only [Nat.zero_mul,Nat.add_zero] at c0 c1 c2 c3 c4 c5 c6 c7;(have HPn:Hid (¬ ((qCb d.coms 0).map fun q=>decide (c.id≤q))=some true):=by show ¬ _;simp [qCb])
     cases hfs:(qBu d.evs c.id).isSome
     case true =>
      have HR:=gH (HS.out.1 (by rw [E3.out _ HNo.out HPn.out hfs];decide));have HV:=gH (E3.out (qCb d.coms 0) HNo.out HPn.out hfs);rw [hfs] at hhas2;clear hfs;go_wp2_with (at_lookup;refine wpList_lookup_own_ok_int _ rfl _ _ 133 rfl 2 3 .i64 qIn Tryz.underlying133 Tryz.underlying3 (qDd _) B nm Dm rfl (by exact HOw.out) _ _ rfl (by exact HKey.out) ?_;intro c0 hat hwc;have HAt0:=gH hat;clear hat hwc);go_quiet (fail);go_wp2_with fail;go_ret;exact ⟨qAa (by rw [HG.out,HR.out,HV.out]),HX2.out.drewN _⟩
     case false =>
      have HFs:=gH hfs;rw [hfs] at hhas2;clear hfs;go_wp2_with (at_lookup;refine wpList_lookup_own_ok_int _ rfl _ _ 133 rfl 2 3 .i64 qIn Tryz.underlying133 Tryz.underlying3 (qDd _) B nm Dm rfl (by exact HOw.out) _ _ rfl (by exact HKey.out) ?_;intro c0 hat hwc;have HAt0:=gH hat;clear hat hwc);go_quiet (fail);go_wp2_with (first | (refine qAc rfl 52 (.tmp 2) rfl w.heap.size 52 _ _ (by exact rfl) (by exact HBl.out.ext ((Ext.refl _).drewN _)) Tryz.underlying52 rfl (by exact qEa) ?_) | (refine qAc rfl 152 (.tmp 6) rfl wr.heap.size 152 _ _ (by exact rfl) (by exact HBc.out.ext ((Ext.refl _).drewN _)) Tryz.underlying152 rfl (by exact size_com) ?_));refine (HAc.out _ (HX2.out.drewN _)).mono ?_;rintro en w3 ⟨rfl,hx3⟩;have HX3:=gH ((HX2.out.drewN _).trans hx3);have HX3r:=gH ((HXc.out.drewN _).trans hx3);have HB3:=gH ((HBc.out.ext ((Ext.refl _).drewN _)).ext hx3);clear hx3 hdl hhas2;(have hk3:=fun o=>HB3.out.cell o)
      by_cases hae:c.anchorErr d.last d.evs=0
      case neg =>
       (have hne:(c.anchorErr d.last d.evs != 0)=true:=by simpa using hae);have HV:=gH (E4.out (qCb d.coms 0) HNo.out HPn.out HFs.out hae);have HR:=gH (HS.out.1 (by rw [HV.out];exact hae));clear hae;go_wp2_with fail;go_ret;exact ⟨qAa (by rw [HG.out,HR.out,HV.out]),HX3.out⟩
      rw [hae];have HV:=gH (E5.out (qCb d.coms 0) HNo.out HPn.out HFs.out hae);clear hae E2 E3 E4 E5;go_wp2_with fail;refine (HNm.out _).mono ?_;rintro en w4 ⟨rfl,hx4⟩;subst hx4
      cases hna:qBm c.author
      case false =>
       have HW:=gH (HV.out.trans (if_pos hna));have HR:=gH (HS.out.1 (by rw [HW.out];decide));clear hna;go_wp2_with fail;go_ret;exact ⟨qAa (by rw [HG.out,HR.out,HW.out]),HX3.out⟩
      have HW:=gH (HV.out.trans (if_neg (by simp [hna])));clear hna HV;go_wp2_with fail;refine (HVl.out _ HX3.out).mono ?_;rintro en w5 ⟨rfl,hx5⟩;have HX5:=gH (HX3.out.trans hx5);have HX5r:=gH (HX3r.out.trans hx5);have HB5:=gH (HB3.out.ext hx5);clear hx5 hk3;(have hk5:=fun o=>HB5.out.cell o)
      cases hva:vld c.text
      case false =>
       have HW2:=gH (HW.out.trans (if_pos hva));have HR:=gH (HS.out.1 (by rw [HW2.out];decide));clear hva;go_wp2_with fail;go_ret;exact ⟨qAa (by rw [HG.out,HR.out,HW2.out]),HX5.out⟩
      have HW2:=gH (HW.out.trans (if_neg (by simp [hva])));clear hva HW
      cases hem:c.text.toList.isEmpty
      case true =>
       have HW3:=gH (HW2.out.trans (if_pos hem));have HR:=gH (HS.out.1 (by rw [HW3.out];decide));go_wp2_with fail;go_ret;exact ⟨qAa (by rw [HG.out,HR.out,HW3.out]),HX5.out⟩
      have HW3:=gH (HW2.out.trans (if_neg (by simp [hem])))
      by_cases h4:400<c.text.size
      · have h4i:(400:Int)<(c.text.size:Int):=by omega
        have HW4:=gH (HW3.out.trans (if_pos h4));have HR:=gH (HS.out.1 (by rw [HW4.out];decide));go_wp2_with fail;go_ret;exact ⟨qAa (by rw [HG.out,HR.out,HW4.out]),HX5.out⟩
      (have h4i:¬ (400:Int)<(c.text.size:Int):=by omega);have HR:=gH (HS.out.2 (HW3.out.trans (if_neg h4)));go_wp2_with fail;exact ⟨⟨1,by omega,by go_num,hx.trans HX5r.out,HR.out⟩,by simp [intOf];omega⟩
    obtain ⟨b',off',q,hA,p0,hq⟩:=HPv.out (by omega)
    cases hA
    (have hki:(0:Int)<(k:Int):=by omega);(have hkp:0<k:=by omega);(have hk1:((k:Int)-1).toNat=k-1:=by omega);(have hk2:(k:Int)-1=((k-1:Nat):Int):=by omega);have pp0:=HXc.out.cell p0;have HQ:=gH hq;clear p0 hq
    by_cases hle:c.id≤q
    case pos =>
     have HV:=gH (E2.out (qCb d.coms k) HNo.out (by rw [HQ.out];simpa using hle));have HR:=gH (HS.out.1 (by rw [HV.out];decide));clear hhas2;go_wp2_with (at_lookup;refine wpList_lookup_own_ok_int _ rfl _ _ 133 rfl 2 3 .i64 qIn Tryz.underlying133 Tryz.underlying3 (qDd _) B nm Dm rfl (by exact HOw.out) _ _ rfl (by exact HKey.out) ?_;intro c0 hat hwc;have HAt0:=gH hat;clear hat hwc);go_quiet (fail);go_wp2_with fail;go_ret;exact ⟨qAa (by rw [HG.out,HR.out,HV.out]),HX2.out.drewN _⟩
    have HPn:Hid (¬ ((qCb d.coms k).map fun q=>decide (c.id≤q))=some true):=by show ¬ _;rw [HQ.out];simpa using hle
    cases hfs:(qBu d.evs c.id).isSome
    case true =>
     have HR:=gH (HS.out.1 (by rw [E3.out _ HNo.out HPn.out hfs];decide));have HV:=gH (E3.out (qCb d.coms k) HNo.out HPn.out hfs);rw [hfs] at hhas2;clear hfs;go_wp2_with (at_lookup;refine wpList_lookup_own_ok_int _ rfl _ _ 133 rfl 2 3 .i64 qIn Tryz.underlying133 Tryz.underlying3 (qDd _) B nm Dm rfl (by exact HOw.out) _ _ rfl (by exact HKey.out) ?_;intro c0 hat hwc;have HAt0:=gH hat;clear hat hwc);go_quiet (fail);go_wp2_with fail;go_ret;exact ⟨qAa (by rw [HG.out,HR.out,HV.out]),HX2.out.drewN _⟩
    case false =>
     have HFs:=gH hfs;rw [hfs] at hhas2;clear hfs;go_wp2_with (at_lookup;refine wpList_lookup_own_ok_int _ rfl _ _ 133 rfl 2 3 .i64 qIn Tryz.underlying133 Tryz.underlying3 (qDd _) B nm Dm rfl (by exact HOw.out) _ _ rfl (by exact HKey.out) ?_;intro c0 hat hwc;have HAt0:=gH hat;clear hat hwc);go_quiet (fail);go_wp2_with (first | (refine qAc rfl 52 (.tmp 2) rfl w.heap.size 52 _ _ (by exact rfl) (by exact HBl.out.ext ((Ext.refl _).drewN _)) Tryz.underlying52 rfl (by exact qEa) ?_) | (refine qAc rfl 152 (.tmp 6) rfl wr.heap.size 152 _ _ (by exact rfl) (by exact HBc.out.ext ((Ext.refl _).drewN _)) Tryz.underlying152 rfl (by exact size_com) ?_));refine (HAc.out _ (HX2.out.drewN _)).mono ?_;rintro en w3 ⟨rfl,hx3⟩;have HX3:=gH ((HX2.out.drewN _).trans hx3);have HX3r:=gH ((HXc.out.drewN _).trans hx3);have HB3:=gH ((HBc.out.ext ((Ext.refl _).drewN _)).ext hx3);clear hx3 hdl hhas2;(have hk3:=fun o=>HB3.out.cell o)
     by_cases hae:c.anchorErr d.last d.evs=0
     case neg =>
      (have hne:(c.anchorErr d.last d.evs != 0)=true:=by simpa using hae);have HV:=gH (E4.out (qCb d.coms k) HNo.out HPn.out HFs.out hae);have HR:=gH (HS.out.1 (by rw [HV.out];exact hae));clear hae;go_wp2_with fail;go_ret;exact ⟨qAa (by rw [HG.out,HR.out,HV.out]),HX3.out⟩
     rw [hae];have HV:=gH (E5.out (qCb d.coms k) HNo.out HPn.out HFs.out hae);clear hae E2 E3 E4 E5;go_wp2_with fail;refine (HNm.out _).mono ?_;rintro en w4 ⟨rfl,hx4⟩;subst hx4
     cases hna:qBm c.author
     case false =>
      have HW:=gH (HV.out.trans (if_pos hna));have HR:=gH (HS.out.1 (by rw [HW.out];decide));clear hna;go_wp2_with fail;go_ret;exact ⟨qAa (by rw [HG.out,HR.out,HW.out]),HX3.out⟩
     have HW:=gH (HV.out.trans (if_neg (by simp [hna])));clear hna HV;go_wp2_with fail;refine (HVl.out _ HX3.out).mono ?_;rintro en w5 ⟨rfl,hx5⟩;have HX5:=gH (HX3.out.trans hx5);have HX5r:=gH (HX3r.out.trans hx5);have HB5:=gH (HB3.out.ext hx5);clear hx5 hk3;(have hk5:=fun o=>HB5.out.cell o)
     cases hva:vld c.text
     case false =>
      have HW2:=gH (HW.out.trans (if_pos hva));have HR:=gH (HS.out.1 (by rw [HW2.out];decide));clear hva;go_wp2_with fail;go_ret;exact ⟨qAa (by rw [HG.out,HR.out,HW2.out]),HX5.out⟩
     have HW2:=gH (HW.out.trans (if_neg (by simp [hva])));clear hva HW
     cases hem:c.text.toList.isEmpty
     case true =>
      have HW3:=gH (HW2.out.trans (if_pos hem));have HR:=gH (HS.out.1 (by rw [HW3.out];decide));go_wp2_with fail;go_ret;exact ⟨qAa (by rw [HG.out,HR.out,HW3.out]),HX5.out⟩
     have HW3:=gH (HW2.out.trans (if_neg (by simp [hem])))
     by_cases h4:400<c.text.size
     · have h4i:(400:Int)<(c.text.size:Int):=by omega
       have HW4:=gH (HW3.out.trans (if_pos h4));have HR:=gH (HS.out.1 (by rw [HW4.out];decide));go_wp2_with fail;go_ret;exact ⟨qAa (by rw [HG.out,HR.out,HW4.out]),HX5.out⟩
     (have h4i:¬ (400:Int)<(c.text.size:Int):=by omega);have HR:=gH (HS.out.2 (HW3.out.trans (if_neg h4)));go_wp2_with fail;exact ⟨⟨k+1,by omega,by go_num,hx.trans HX5r.out,HR.out⟩,by simp [intOf];omega⟩
  · have hkn:k=n:=by omega
    subst hkn;have HZ:=gH (hP.trans (by rw [List.drop_eq_nil_of_le (by have:=HCl.out;omega)];rfl):qCu d.last d.evs none d.coms=0);clear hP;go_wp2_with fail;go_ret;exact ⟨qAa (by rw [HG.out,HZ.out]),HXr.out⟩
end
end Go.Proofs.YtablhmobekmflaaGreatDoor