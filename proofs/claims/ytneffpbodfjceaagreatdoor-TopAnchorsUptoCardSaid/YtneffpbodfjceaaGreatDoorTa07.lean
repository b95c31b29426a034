/- Texts laid together. -/
import Derived.Test.YtneffpbodfjceaaGreatDoorTa06
set_option linter.unusedVariables false
set_option linter.unusedSimpArgs false
set_option maxRecDepth 100000
set_option maxHeartbeats 16000000
namespace Go.Proofs.YtneffpbodfjceaaGreatDoor
section
open Go.RowKit Go.Maps
def qEp (l:List Com):Nat->Option Int | 0=>none | k+1=>(l[k]?).map (·.id)
def Com.err (c:Com) (last:Int) (evs:List Ev) (p:Option Int):Int :=
 if c.id<1\/last<c.id then 2 else if (p.map fun q=>decide (c.id<=q))=some true then 8 else if (qBd evs c.id).isSome=true then 7 else
  if c.anchorErr last evs≠0 then c.anchorErr last evs else if qCt c.author=false then 5 else if vld c.text=false then 10 else if c.text.toList.isEmpty=true then 4 else if 400<c.text.size then 9 else 0
theorem qUy (last:Int) (evs:List Ev) (p:Option Int) (c:Com) (l:List Com):qCe last evs p (c :: l)=if c.err last evs p≠0 then c.err last evs p else qCe last evs (some c.id) l:=by
 rw [qCe];unfold Com.err
 repeat' split
 all_goals first | rfl | omega | simp_all
theorem qNk {l:List Com} {k:Nat} {c:Com} {E last:Int} {evs:List Ev} (hc:l[k]?=some c) (hP:E=qCe last evs (qEp l k) (l.drop k)) :
 (c.err last evs (qEp l k)≠0->E=c.err last evs (qEp l k))/\(c.err last evs (qEp l k)=0->E=qCe last evs (qEp l (k+1)) (l.drop (k+1))):=by
 rw [qDh l k c hc,qUy] at hP;refine ⟨fun h=>by rw [if_pos h] at hP;exact hP,fun h=>?_⟩;rw [if_neg (by simpa using h)] at hP;rw [hP];simp [qEp,hc]
section
variable {c:Com} {last:Int} {evs:List Ev} {p:Option Int}
theorem com_1 (h:c.id<1\/last<c.id):c.err last evs p=2:=by unfold Com.err;rw [if_pos h]
theorem com_2 (h:¬ (c.id<1\/last<c.id)) (h1:(p.map fun q=>decide (c.id<=q))=some true):c.err last evs p=8:=by unfold Com.err;rw [if_neg h,if_pos h1]
theorem com_3 (h:¬ (c.id<1\/last<c.id)) (h1:¬ (p.map fun q=>decide (c.id<=q))=some true) (h2:(qBd evs c.id).isSome=true):c.err last evs p=7:=by unfold Com.err;rw [if_neg h,if_neg h1,if_pos h2]
theorem com_4 (h:¬ (c.id<1\/last<c.id)) (h1:¬ (p.map fun q=>decide (c.id<=q))=some true) (h2:(qBd evs c.id).isSome=false) (h3:c.anchorErr last evs≠0):c.err last evs p=c.anchorErr last evs:=by unfold Com.err;rw [if_neg h,if_neg h1,if_neg (by simp [h2]),if_pos h3]
theorem com_r (h:¬ (c.id<1\/last<c.id)) (h1:¬ (p.map fun q=>decide (c.id<=q))=some true) (h2:(qBd evs c.id).isSome=false) (h3:c.anchorErr last evs=0) :
 c.err last evs p=if qCt c.author=false then 5 else if vld c.text=false then 10 else if c.text.toList.isEmpty=true then 4 else if 400<c.text.size then 9 else 0:=by unfold Com.err;rw [if_neg h,if_neg h1,if_neg (by simp [h2]),if_neg (by simpa using h3)]
end
theorem zLc {w:World} {A:Option Addr} {n:Nat} {l:List Com} (h:qHj w A n l) {k:Nat} (hk:k<=n) (h0:0<k):∃ b off q,A=some ⟨b,off,none⟩/\w.cell? ⟨b,off+(k-1)*8,none⟩=some (.int .i64 q)/\qEp l k=some q:=by
 obtain ⟨j,rfl⟩:∃ j,k=j+1:=⟨k-1,by omega⟩;obtain ⟨b,off,c,hA,hc,c0,_⟩:=h.at8 (i:=j) (by omega);exact ⟨b,off,c.id,hA,by simpa using c0,by simp [qEp,hc]⟩
def zMb (l:List Com):Prop:=∀ c∈l,IW c.id/\IW c.ev/\c.author.size<=9223372036854775807/\c.text.size<=9223372036854775807
def zPr (w1:World) (n:Nat) (last:Int) (evs:List Ev) (l:List Com) (i:Value) (wr:World):Prop:=∃ k:Nat,k<=n/\i = .int .i64 k/\Ext w1 wr/\qCe last evs none l=qCe last evs (qEp l k) (l.drop k)
theorem zAq:(Tryz.prog.info? 95).map (·.size)=some 8:=by kernel_rfl
theorem qMx:(Tryz.prog.info? 27).map (·.size)=some 8:=by kernel_rfl
def qSd (last:Int) (evs:List Ev) (l:List Com):Int:=if 64<l.length then 9 else qCe last evs none l
theorem qUx (d:Doc) (h:DocH) (B:Nat) (w:World) (hE:Env w) (hat:qCx w d h) (hm:MapE w 3 B d.evs) (hsm:qRn d.evs) (hn:h.en<=1000000) (hcn:h.cn<=9223372036854775807) (hco:zMb d.coms) :
 Calls Tryz.prog 101 #[.agg (d.cells h),.map (some B)] w fun en w'=>en = .returned (.int .i64 (qSd d.last d.evs d.coms))/\Ext w w':=by
 have HX:=gH ((Ext.refl w).alloc (.cells (d.cells h) 27));have HB:=gH (Blk.new w 27 (d.cells h));have HCs:=gH hat.coms;have HCl:=gH hat.coms.len;have HE:=gH hE;have HM:=gH hm;have HOk:=gH hco;have HAn:=gH (fun (c:Com) (hc:c∈d.coms) w' (hx:Ext w w')=>qUk d h c B w' (hE.ext hx) (hat.ext hx) (hm.ext hx) hsm hn (hco c hc).2.1);have HF:Hid (qSd d.last d.evs d.coms=if 64<d.coms.length then 9 else qCe d.last d.evs none d.coms):=rfl;rw [hat.coms.len] at HF;have HmB:=hm.lt;clear hat hsm hm hE hco;unfold Doc.cells at *;obtain ⟨hra,hrn,hrc,hea,hen,hec,hca,n,hcc⟩:=h;dsimp only at *;go_enter Tryz.func101,Tryz.ntmps101
 by_cases h64:64<n
 . have h64i:(64:Int)<(n:Int):=by omega
   go_wp2_with fail;go_ret;exact ⟨qAf (by rw [HF.out,if_pos h64]),HX.out⟩
 (have h64i:¬ (64:Int)<(n:Int):=by omega);have HG:=gH (HF.out.trans (if_neg h64));clear h64 HF;go_wp2_with fail
 go_loopw [17] (fun i wr=>zPr (w.alloc (.cells #[.string d.title,.string d.lang,.int .u8 d.rate,.bool d.drop,.int .i64 d.last,.slice hra hrn hrc,.slice hea hen hec,.slice hca n hcc] 27)) n d.last d.evs d.coms i wr) (fun i _=>n-(intOf i).toNat)
 case atStart=>exact ⟨0,Nat.zero_le _,rfl,Ext.refl _,by simp [qEp]⟩
 case round =>
  obtain ⟨k,hk,rfl,hx,hP⟩:=hrel;have HXr:=gH (HX.out.trans hx);have HBr:=gH (HB.out.ext hx);have hbl:=HBr.out.lt
  by_cases hlt:k<n
  . obtain ⟨b,off,c,rfl,hc,c0,c1,c2,c3,c4,c5,c6,c7⟩:=(HCs.out.ext HXr.out).at8 hlt
    have hcm:=List.mem_of_getElem? hc;have HS:=gH (qNk hc hP);have HPv:=gH (fun h0=>zLc (HCs.out.ext HXr.out) (k:=k) hk h0);have HAc:=gH (fun w' hx=>HAn.out c hcm w' hx);have HIw:=gH (HOk.out c hcm);have HKey:=gH (HOk.out c hcm).1.key;have HNm:=gH (fun w'=>qDc c.author w' (HOk.out c hcm).2.2.1);have HVl:=gH (fun w' (hx:Ext w w')=>qDj c.text w' (HE.out.ext hx) (HOk.out c hcm).2.2.2);clear hc hP hcm;have E1:=gH (fun p=>@com_1 c d.last d.evs p);have E2:=gH (fun p=>@com_2 c d.last d.evs p);have E3:=gH (fun p=>@com_3 c d.last d.evs p);have E4:=gH (fun p=>@com_4 c d.last d.evs p);have E5:=gH (fun p=>@com_r c d.last d.evs p);unfold Com.cells at HAc;have HBc:=gH (Blk.new wr 95 #[.int .i64 c.id,.int .i64 c.ev,.int .i64 c.fr,.int .i64 c.til,.string c.author,.string c.text,.bool c.done,.bool c.lost]);have HXc:=gH ((Ext.refl wr).alloc (.cells #[.int .i64 c.id,.int .i64 c.ev,.int .i64 c.fr,.int .i64 c.til,.string c.author,.string c.text,.bool c.done,.bool c.lost] 95));have HBl:=gH (HBr.out.ext HXc.out);have HX2:=gH (HXr.out.trans HXc.out);obtain ⟨nm,Dm,hown,hnm,hmap,hhas,hatk⟩:=HM.out.ext HX2.out;have HOw:=gH hown;have hhas2:=hhas c.id HIw.out.1;clear hown hmap hhas hatk;(have hdl:=fun o=>HBl.out.cell o)
    by_cases hi1:c.id<1
    . have HR:=gH (HS.out.1 (by rw [E1.out _ (.inl hi1)];decide))
      have HV:=gH (E1.out (qEp d.coms k) (.inl hi1));clear hhas2;go_wp2_with (at_lookup;refine wpList_lookup_own_ok_int _ rfl _ _ 191 rfl 2 3 .i64 qHy Tryz.underlying191 Tryz.underlying3 (qCw _) B nm Dm rfl (by exact HOw.out) _ _ rfl (by exact HKey.out) ?_;intro c0 hat hwc;have HAt0:=gH hat;clear hat hwc);go_ret;exact ⟨qAf (by rw [HG.out,HR.out,HV.out]),HX2.out⟩
    by_cases hi2:d.last<c.id
    . have HR:=gH (HS.out.1 (by rw [E1.out _ (.inr hi2)];decide))
      have HV:=gH (E1.out (qEp d.coms k) (.inr hi2));clear hhas2;go_wp2_with (at_lookup;refine wpList_lookup_own_ok_int _ rfl _ _ 191 rfl 2 3 .i64 qHy Tryz.underlying191 Tryz.underlying3 (qCw _) B nm Dm rfl (by exact HOw.out) _ _ rfl (by exact HKey.out) ?_;intro c0 hat hwc;have HAt0:=gH hat;clear hat hwc);go_ret;exact ⟨qAf (by rw [HG.out,HR.out,HV.out]),HX2.out⟩
    (have HNo:Hid (¬ (c.id<1\/d.last<c.id)):=by show ¬ _;omega);clear E1
    by_cases hk0:k=0
    case pos =>
     subst hk0;simp only [Nat.zero_mul,Nat.add_zero] at c0 c1 c2 c3 c4 c5 c6 c7;(have HPn:Hid (¬ ((qEp d.coms 0).map fun q=>decide (c.id<=q))=some true):=by show ¬ _;simp [qEp])
     cases hfs:(qBd d.evs c.id).isSome
     case true =>
      have HR:=gH (HS.out.1 (by rw [E3.out _ HNo.out HPn.out hfs];decide));have HV:=gH (E3.out (qEp d.coms 0) HNo.out HPn.out hfs);rw [hfs] at hhas2;clear hfs;go_wp2_with (at_lookup;refine wpList_lookup_own_ok_int _ rfl _ _ 191 rfl 2 3 .i64 qHy Tryz.underlying191 Tryz.underlying3 (qCw _) B nm Dm rfl (by exact HOw.out) _ _ rfl (by exact HKey.out) ?_;intro c0 hat hwc;have HAt0:=gH hat;clear hat hwc);go_quiet (fail);go_wp2_with fail;go_ret;exact ⟨qAf (by rw [HG.out,HR.out,HV.out]),HX2.out.drewN _⟩
     case false =>
      have HFs:=gH hfs;rw [hfs] at hhas2;clear hfs;go_wp2_with (at_lookup;refine wpList_lookup_own_ok_int _ rfl _ _ 191 rfl 2 3 .i64 qHy Tryz.underlying191 Tryz.underlying3 (qCw _) B nm Dm rfl (by exact HOw.out) _ _ rfl (by exact HKey.out) ?_;intro c0 hat hwc;have HAt0:=gH hat;clear hat hwc);go_quiet (fail);go_wp2_with (first | (refine qAa rfl 27 (.tmp 2) rfl w.heap.size 27 _ _ (by exact rfl) (by exact HBl.out.ext ((Ext.refl _).drewN _)) Tryz.underlying27 rfl (by exact qMx) ?_) | (refine qAa rfl 95 (.tmp 6) rfl wr.heap.size 95 _ _ (by exact rfl) (by exact HBc.out.ext ((Ext.refl _).drewN _)) Tryz.underlying95 rfl (by exact zAq) ?_));refine (HAc.out _ (HX2.out.drewN _)).mono ?_;rintro en w3 ⟨rfl,hx3⟩;have HX3:=gH ((HX2.out.drewN _).trans hx3);have HX3r:=gH ((HXc.out.drewN _).trans hx3);have HB3:=gH ((HBc.out.ext ((Ext.refl _).drewN _)).ext hx3);clear hx3 hdl hhas2;(have hk3:=fun o=>HB3.out.cell o)
      by_cases hae:c.anchorErr d.last d.evs=0
      case neg =>
       (have hne:(c.anchorErr d.last d.evs != 0)=true:=by simpa using hae);have HV:=gH (E4.out (qEp d.coms 0) HNo.out HPn.out HFs.out hae);have HR:=gH (HS.out.1 (by rw [HV.out];exact hae));clear hae;go_wp2_with fail;go_ret;exact ⟨qAf (by rw [HG.out,HR.out,HV.out]),HX3.out⟩
      rw [hae];have HV:=gH (E5.out (qEp d.coms 0) HNo.out HPn.out HFs.out hae);clear hae E2 E3 E4 E5;go_wp2_with fail;refine (HNm.out _).mono ?_;rintro en w4 ⟨rfl,hx4⟩;subst hx4
      cases hna:qCt c.author
      case false =>
       have HW:=gH (HV.out.trans (if_pos hna));have HR:=gH (HS.out.1 (by rw [HW.out];decide));clear hna;go_wp2_with fail;go_ret;exact ⟨qAf (by rw [HG.out,HR.out,HW.out]),HX3.out⟩
      have HW:=gH (HV.out.trans (if_neg (by simp [hna])));clear hna HV;go_wp2_with fail;refine (HVl.out _ HX3.out).mono ?_;rintro en w5 ⟨rfl,hx5⟩;have HX5:=gH (HX3.out.trans hx5);have HX5r:=gH (HX3r.out.trans hx5);have HB5:=gH (HB3.out.ext hx5);clear hx5 hk3;(have hk5:=fun o=>HB5.out.cell o)
      cases hva:vld c.text
      case false =>
       have HW2:=gH (HW.out.trans (if_pos hva));have HR:=gH (HS.out.1 (by rw [HW2.out];decide));clear hva;go_wp2_with fail;go_ret;exact ⟨qAf (by rw [HG.out,HR.out,HW2.out]),HX5.out⟩
      have HW2:=gH (HW.out.trans (if_neg (by simp [hva])));clear hva HW
      cases hem:c.text.toList.isEmpty
      case true =>
       have HW3:=gH (HW2.out.trans (if_pos hem));have HR:=gH (HS.out.1 (by rw [HW3.out];decide));go_wp2_with fail;go_ret;exact ⟨qAf (by rw [HG.out,HR.out,HW3.out]),HX5.out⟩
      have HW3:=gH (HW2.out.trans (if_neg (by simp [hem])))
      by_cases h4:400<c.text.size
      . have h4i:(400:Int)<(c.text.size:Int):=by omega
        have HW4:=gH (HW3.out.trans (if_pos h4));have HR:=gH (HS.out.1 (by rw [HW4.out];decide));go_wp2_with fail;go_ret;exact ⟨qAf (by rw [HG.out,HR.out,HW4.out]),HX5.out⟩
      (have h4i:¬ (400:Int)<(c.text.size:Int):=by omega);have HR:=gH (HS.out.2 (HW3.out.trans (if_neg h4)));go_wp2_with fail;exact ⟨⟨1,by omega,by go_num,hx.trans HX5r.out,HR.out⟩,by simp [intOf];omega⟩
    obtain ⟨b',off',q,hA,p0,hq⟩:=HPv.out (by omega)
    cases hA
    (have hki:(0:Int)<(k:Int):=by omega);(have hkp:0<k:=by omega);(have hk1:((k:Int)-1).toNat=k-1:=by omega);(have hk2:(k:Int)-1=((k-1:Nat):Int):=by omega);have pp0:=HXc.out.cell p0;have HQ:=gH hq;clear p0 hq
    by_cases hle:c.id<=q
    case pos =>
     have HV:=gH (E2.out (qEp d.coms k) HNo.out (by rw [HQ.out];simpa using hle));have HR:=gH (HS.out.1 (by rw [HV.out];decide));clear hhas2;go_wp2_with (at_lookup;refine wpList_lookup_own_ok_int _ rfl _ _ 191 rfl 2 3 .i64 qHy Tryz.underlying191 Tryz.underlying3 (qCw _) B nm Dm rfl (by exact HOw.out) _ _ rfl (by exact HKey.out) ?_;intro c0 hat hwc;have HAt0:=gH hat;clear hat hwc);go_quiet (fail);go_wp2_with fail;go_ret;exact ⟨qAf (by rw [HG.out,HR.out,HV.out]),HX2.out.drewN _⟩
    have HPn:Hid (¬ ((qEp d.coms k).map fun q=>decide (c.id<=q))=some true):=by show ¬ _;rw [HQ.out];simpa using hle
    cases hfs:(qBd d.evs c.id).isSome
    case true =>
     have HR:=gH (HS.out.1 (by rw [E3.out _ HNo.out HPn.out hfs];decide));have HV:=gH (E3.out (qEp d.coms k) HNo.out HPn.out hfs);rw [hfs] at hhas2;clear hfs;go_wp2_with (at_lookup;refine wpList_lookup_own_ok_int _ rfl _ _ 191 rfl 2 3 .i64 qHy Tryz.underlying191 Tryz.underlying3 (qCw _) B nm Dm rfl (by exact HOw.out) _ _ rfl (by exact HKey.out) ?_;intro c0 hat hwc;have HAt0:=gH hat;clear hat hwc);go_quiet (fail);go_wp2_with fail;go_ret;exact ⟨qAf (by rw [HG.out,HR.out,HV.out]),HX2.out.drewN _⟩
    case false =>
     have HFs:=gH hfs;rw [hfs] at hhas2;clear hfs;go_wp2_with (at_lookup;refine wpList_lookup_own_ok_int _ rfl _ _ 191 rfl 2 3 .i64 qHy Tryz.underlying191 Tryz.underlying3 (qCw _) B nm Dm rfl (by exact HOw.out) _ _ rfl (by exact HKey.out) ?_;intro c0 hat hwc;have HAt0:=gH hat;clear hat hwc);go_quiet (fail);go_wp2_with (first | (refine qAa rfl 27 (.tmp 2) rfl w.heap.size 27 _ _ (by exact rfl) (by exact HBl.out.ext ((Ext.refl _).drewN _)) Tryz.underlying27 rfl (by exact qMx) ?_) | (refine qAa rfl 95 (.tmp 6) rfl wr.heap.size 95 _ _ (by exact rfl) (by exact HBc.out.ext ((Ext.refl _).drewN _)) Tryz.underlying95 rfl (by exact zAq) ?_));refine (HAc.out _ (HX2.out.drewN _)).mono ?_;rintro en w3 ⟨rfl,hx3⟩;have HX3:=gH ((HX2.out.drewN _).trans hx3);have HX3r:=gH ((HXc.out.drewN _).trans hx3);have HB3:=gH ((HBc.out.ext ((Ext.refl _).drewN _)).ext hx3);clear hx3 hdl hhas2;(have hk3:=fun o=>HB3.out.cell o)
     by_cases hae:c.anchorErr d.last d.evs=0
     case neg =>
      (have hne:(c.anchorErr d.last d.evs != 0)=true:=by simpa using hae);have HV:=gH (E4.out (qEp d.coms k) HNo.out HPn.out HFs.out hae);have HR:=gH (HS.out.1 (by rw [HV.out];exact hae));clear hae;go_wp2_with fail;go_ret;exact ⟨qAf (by rw [HG.out,HR.out,HV.out]),HX3.out⟩
     rw [hae];have HV:=gH (E5.out (qEp d.coms k) HNo.out HPn.out HFs.out hae);clear hae E2 E3 E4 E5;go_wp2_with fail;refine (HNm.out _).mono ?_;rintro en w4 ⟨rfl,hx4⟩;subst hx4
     cases hna:qCt c.author
     case false =>
      have HW:=gH (HV.out.trans (if_pos hna));have HR:=gH (HS.out.1 (by rw [HW.out];decide));clear hna;go_wp2_with fail;go_ret;exact ⟨qAf (by rw [HG.out,HR.out,HW.out]),HX3.out⟩
     have HW:=gH (HV.out.trans (if_neg (by simp [hna])));clear hna HV;go_wp2_with fail;refine (HVl.out _ HX3.out).mono ?_;rintro en w5 ⟨rfl,hx5⟩;have HX5:=gH (HX3.out.trans hx5);have HX5r:=gH (HX3r.out.trans hx5);have HB5:=gH (HB3.out.ext hx5);clear hx5 hk3;(have hk5:=fun o=>HB5.out.cell o)
     cases hva:vld c.text
     case false =>
      have HW2:=gH (HW.out.trans (if_pos hva));have HR:=gH (HS.out.1 (by rw [HW2.out];decide));clear hva;go_wp2_with fail;go_ret;exact ⟨qAf (by rw [HG.out,HR.out,HW2.out]),HX5.out⟩
     have HW2:=gH (HW.out.trans (if_neg (by simp [hva])));clear hva HW
     cases hem:c.text.toList.isEmpty
     case true =>
      have HW3:=gH (HW2.out.trans (if_pos hem));have HR:=gH (HS.out.1 (by rw [HW3.out];decide));go_wp2_with fail;go_ret;exact ⟨qAf (by rw [HG.out,HR.out,HW3.out]),HX5.out⟩
     have HW3:=gH (HW2.out.trans (if_neg (by simp [hem])))
     by_cases h4:400<c.text.size
     . have h4i:(400:Int)<(c.text.size:Int):=by omega
       have HW4:=gH (HW3.out.trans (if_pos h4));have HR:=gH (HS.out.1 (by rw [HW4.out];decide));go_wp2_with fail;go_ret;exact ⟨qAf (by rw [HG.out,HR.out,HW4.out]),HX5.out⟩
     (have h4i:¬ (400:Int)<(c.text.size:Int):=by omega);have HR:=gH (HS.out.2 (HW3.out.trans (if_neg h4)));go_wp2_with fail;exact ⟨⟨k+1,by omega,by go_num,hx.trans HX5r.out,HR.out⟩,by simp [intOf];omega⟩
  . have hkn:k=n:=by omega
    subst hkn;have HZ:=gH (hP.trans (by rw [List.drop_eq_nil_of_le (by have:=HCl.out;omega)];rfl):qCe d.last d.evs none d.coms=0);clear hP;go_wp2_with fail;go_ret;exact ⟨qAf (by rw [HG.out,HZ.out]),HXr.out⟩
def qGc (regs:List Reg) (last:Int) (pre:List Ev) (x:Ev):Int:=if x.err regs≠0 then x.err regs else if last<x.id then 2 else if (pre.getLast?.map fun p=>qDw p x)=some false then 8 else if (qBd pre x.id).isSome=true then 7 else 0
theorem qMr (regs:List Reg) (last:Int) (pre:List Ev) (x:Ev) (l:List Ev):qCr regs last pre (x :: l)=if qGc regs last pre x≠0 then qGc regs last pre x else qCr regs last (pre++[x]) l:=by
 rw [qCr];unfold qGc
 repeat' split
 all_goals first | rfl | omega | simp_all
theorem zKb {l:List Ev} {k:Nat} {x:Ev} {E last:Int} {regs:List Reg} (hx:l[k]?=some x) (hP:E=qCr regs last (l.take k) (l.drop k)) :
 (qGc regs last (l.take k) x≠0->E=qGc regs last (l.take k) x)/\(qGc regs last (l.take k) x=0->E=qCr regs last (l.take (k+1)) (l.drop (k+1))):=by
 rw [qDh l k x hx,qMr] at hP;refine ⟨fun h=>by rw [if_pos h] at hP;exact hP,fun h=>?_⟩;rw [if_neg (by simpa using h)] at hP;rw [hP,take_snoc' l k x hx]
section
variable {regs:List Reg} {last:Int} {pre:List Ev} {x:Ev}
theorem ev_1 (h:x.err regs≠0):qGc regs last pre x=x.err regs:=by unfold qGc;rw [if_pos h]
theorem ev_2 (h:x.err regs=0) (h1:last<x.id):qGc regs last pre x=2:=by unfold qGc;rw [if_neg (by simpa using h),if_pos h1]
theorem ev_3 (h:x.err regs=0) (h1:¬ last<x.id) (h2:(pre.getLast?.map fun p=>qDw p x)=some false):qGc regs last pre x=8:=by unfold qGc;rw [if_neg (by simpa using h),if_neg h1,if_pos h2]
theorem ev_4 (h:x.err regs=0) (h1:¬ last<x.id) (h2:¬ (pre.getLast?.map fun p=>qDw p x)=some false) (h3:(qBd pre x.id).isSome=true):qGc regs last pre x=7:=by unfold qGc;rw [if_neg (by simpa using h),if_neg h1,if_neg h2,if_pos h3]
theorem ev_5 (h:x.err regs=0) (h1:¬ last<x.id) (h2:¬ (pre.getLast?.map fun p=>qDw p x)=some false) (h3:(qBd pre x.id).isSome=false):qGc regs last pre x=0:=by unfold qGc;rw [if_neg (by simpa using h),if_neg h1,if_neg h2,if_neg (by simp [h3])]
end
section
variable {d:Doc}
theorem doc_1 (h:d.headErr≠0):d.err=d.headErr:=by unfold Doc.err;rw [if_pos h]
theorem doc_2 (h:d.headErr=0) (h1:qEc d.regs≠0):d.err=qEc d.regs:=by unfold Doc.err;rw [if_neg (by simpa using h),if_pos h1]
theorem doc_3 (h:d.headErr=0) (h1:qEc d.regs=0) (h2:400<d.evs.length):d.err=9:=by unfold Doc.err;rw [if_neg (by simpa using h),if_neg (by simpa using h1),if_pos h2]
theorem doc_4 (h:d.headErr=0) (h1:qEc d.regs=0) (h2:¬ 400<d.evs.length) (h3:qCr d.regs d.last [] d.evs≠0):d.err=qCr d.regs d.last [] d.evs:=by unfold Doc.err;rw [if_neg (by simpa using h),if_neg (by simpa using h1),if_neg h2,if_pos h3]
theorem doc_5 (h:d.headErr=0) (h1:qEc d.regs=0) (h2:¬ 400<d.evs.length) (h3:qCr d.regs d.last [] d.evs=0):d.err=qSd d.last d.evs d.coms:=by unfold Doc.err qSd;rw [if_neg (by simpa using h),if_neg (by simpa using h1),if_neg h2,if_neg (by simpa using h3)]
end
structure qCf (d:Doc):Prop where
 ok:zPu d
 regs:qHp d.regs
 evs:qRn d.evs
 ids:∀ e∈d.evs,IW e.id
 coms:zMb d.coms
def DcRel (w w1:World) (B n:Nat) (regs:List Reg) (last:Int) (l:List Ev) (i:Value) (wr:World):Prop :=
 ∃ k:Nat,k<=n/\i = .int .i64 k/\Ext w1 wr/\MapE wr 3 B (l.take k)/\qCr regs last [] l=qCr regs last (l.take k) (l.drop k)
theorem zOq {w:World} {A:Option Addr} {n:Nat} {l:List Ev} (h:qGw w A n l) {k:Nat} (hk:k<=n) (h0:0<k):∃ b off p A' n' c',A=some ⟨b,off,none⟩/\(∀ j u,(p.cells A' n' c').toList[j]?=some u->w.cell? ⟨b,off+(k-1)*7+j,none⟩=some u)/\(l.take k).getLast?=some p:=by
 obtain ⟨j,rfl⟩:∃ j,k=j+1:=⟨k-1,by omega⟩;obtain ⟨b,off,p,hA,hp,A',n',c',hc,_⟩:=h.at_ (i:=j) (by omega);exact ⟨b,off,p,A',n',c',hA,by simpa using hc,by rw [take_snoc' l j p hp];simp⟩
theorem zAj {w w1:World} {T:TypeId} {B n:Nat} {D:DataW Unit} (h:w.ownsMap Tryz.prog 2 (plainElem Tryz.prog T) B n D) (k:Ext w w1):w1.ownsMap Tryz.prog 2 (plainElem Tryz.prog T) B n D:=by
 obtain ⟨es,cl,h1,h2⟩:=h;exact ⟨es,cl,(k.block B (Array.getElem?_eq_some_iff.1 h1).1).trans h1,h2⟩
theorem qQz {w0 w w1:World} {b:Nat} (h:w.mapTurned w1 b) (k:Ext w0 w) (hb:w0.heap.size<=b):Ext w0 w1:=k.grown h.grown (fun q hq=>by cases hq;exact hb)
theorem qDb (d:Doc) (h:DocH) (w:World) (hE:Env w) (hat:qCx w d h) (hf:qCf d) (hrn:h.rn<=9223372036854775807) (hn:h.en<=1000000) (hcn:h.cn<=9223372036854775807) :
 Calls Tryz.prog 21 #[.agg (d.cells h)] w fun en w'=>en = .returned (.int .i64 d.err)/\Ext w w':=by
 have HX:=gH ((Ext.refl w).alloc (.cells (d.cells h) 27));have HB:=gH (Blk.new w 27 (d.cells h));have HEv:=gH hat.evs;have HEl:=gH hat.evs.len;have HE:=gH hE;have HHd:=gH (fun w' (hx:Ext w w')=>zCn d h w' (hE.ext hx) hf.ok);have HLs:=gH (fun w' (hx:Ext w w')=>qRc h.ra h.rn h.rc d.regs w' (hat.regs.ext hx) hrn hf.regs);have HCm:=gH (fun B w' (hx:Ext w w') (hm:MapE w' 3 B d.evs)=>qUx d h B w' (hE.ext hx) (hat.ext hx) hm hf.evs hn hcn hf.coms);have HEc:=gH (fun (e:Ev) (he:e∈d.evs) A n c w' (hx:Ext w w') (hev:EvAt w' e A n c)=>qPu e A n c h.ra h.rn h.rc d.regs w' (hE.ext hx) hev (hf.evs e he).1 (hat.regs.ext hx) hrn hf.regs);have HId:=gH hf.ids;have D1:=gH (@doc_1 d);have D2:=gH (@doc_2 d);have D3:=gH (@doc_3 d);have D4:=gH (@doc_4 d);have D5:=gH (@doc_5 d);rw [hat.evs.len] at D3 D4 D5;have hmm:=@run_makeMap Tryz.prog;clear hat hf hE;unfold Doc.cells at *;obtain ⟨hra,hrn',hrc,hea,n,hec,hca,hcn',hcc⟩:=h;dsimp only at *;go_enter Tryz.func21,Tryz.ntmps21;go_wp2_with (refine qAa rfl 27 (.tmp 1) rfl w.heap.size 27 _ _ (by exact rfl) (by exact HB.out) Tryz.underlying27 rfl (by exact qMx) ?_);refine (HHd.out _ HX.out).mono ?_;rintro en w1 ⟨rfl,hx1⟩;have HX1:=gH (HX.out.trans hx1);have HB1:=gH (HB.out.ext hx1);clear hx1;(have hc1:=fun o=>HB1.out.cell o)
 by_cases h0:d.headErr=0
 case neg =>
  (have hne:(d.headErr != 0)=true:=by simpa using h0);have HH:=gH h0;clear h0;go_wp2_with fail;go_ret;exact ⟨qAf (D1.out HH.out).symm,HX1.out⟩
 rw [h0];have HH:=gH h0;clear h0 D1;go_wp2_with fail;refine (HLs.out _ HX1.out).mono ?_;rintro en w2 ⟨rfl,hx2⟩;have HX2:=gH (HX1.out.trans hx2);have HB2:=gH (HB1.out.ext hx2);clear hx2 hc1;(have hc2:=fun o=>HB2.out.cell o)
 by_cases h1:qEc d.regs=0
 case neg =>
  (have hne:(qEc d.regs != 0)=true:=by simpa using h1);have HR:=gH h1;clear h1;go_wp2_with fail;go_ret;exact ⟨qAf (D2.out HH.out HR.out).symm,HX2.out⟩
 rw [h1];have HR:=gH h1;clear h1 D2
 by_cases h4:400<n
 . have h4i:(400:Int)<(n:Int):=by omega
   go_wp2_with fail;go_ret;exact ⟨qAf (D3.out HH.out HR.out h4).symm,HX2.out⟩
 (have h4i:¬ (400:Int)<(n:Int):=by omega);have H4:=gH h4;clear D3 h4;have HMm:=gH (MapE.made w2 3);have HXm:=gH ((Ext.refl w2).alloc (.map #[] 0));have HBm:=gH (HB2.out.ext HXm.out);(have hcm:=fun o=>HBm.out.cell o);have hb2:=HB2.out.lt;go_wp2_with fail;clear hcm hc2 hmm
 go_loopw [30] (fun i wr=>DcRel w w2 w2.heap.size n d.regs d.last d.evs i wr) (fun i _=>n-(intOf i).toNat)
 case atStart=>exact ⟨0,Nat.zero_le _,rfl,HXm.out,by simpa using HMm.out,by simp⟩
 case round =>
  obtain ⟨k,hk,rfl,hx,hM,hP⟩:=hrel;have HXr:=gH (HX2.out.trans hx);have HBr:=gH (HB2.out.ext hx)
  by_cases hlt:k<n
  . obtain ⟨b,off,x,rfl,hxx,A',n',c',hC,hEv⟩:=(HEv.out.ext HXr.out).at_ hlt
    have hxm:=List.mem_of_getElem? hxx;have HS:=gH (zKb hxx hP)
    have RET:∀ e:Int,qGc d.regs d.last (d.evs.take k) x=e->e≠0->d.err=e:=fun e h1 h2=>by
     have h3:=HS.out.1 (by rw [h1];exact h2);exact (D4.out HH.out HR.out H4.out (by rw [h3,h1];exact h2)).trans (h3.trans h1)
    have HRet:=gH RET;have HPv:=gH (fun h0=>zOq (HEv.out.ext HXr.out) (k:=k) hk h0);have HEx:=gH (fun w' (hx':Ext w w') (hev:EvAt w' x A' n' c')=>HEc.out x hxm A' n' c' w' hx' hev);have HAt:=gH hEv;have HIw:=gH (HId.out x hxm);have HKey:=gH (HId.out x hxm).key;have HTk:=gH (take_snoc' d.evs k x hxx);(have HTl:Hid ((d.evs.take k).length=k):=by show _=_;rw [List.length_take];have:=HEl.out;omega);(have c0:wr.cell? ⟨b,off+k*7,none⟩=some (.int .i64 x.id):=by simpa using hC 0 _ rfl);have c1:wr.cell? ⟨b,off+k*7+1,none⟩=some (.int .i64 x.inn):=hC 1 _ rfl;have c2:wr.cell? ⟨b,off+k*7+2,none⟩=some (.int .i64 x.out):=hC 2 _ rfl;have c3:wr.cell? ⟨b,off+k*7+3,none⟩=some (.string x.region):=hC 3 _ rfl;have c4:wr.cell? ⟨b,off+k*7+4,none⟩=some (.int .u8 x.kind):=hC 4 _ rfl;have c5:wr.cell? ⟨b,off+k*7+5,none⟩=some (.string x.speaker):=hC 5 _ rfl;have c6:wr.cell? ⟨b,off+k*7+6,none⟩=some (.slice A' n' c'):=hC 6 _ rfl;have HM:=gH hM;clear RET hxx hP hxm hC hEv hM;have E1:=gH (fun p=>@ev_1 d.regs d.last p x);have E2:=gH (fun p=>@ev_2 d.regs d.last p x);have E3:=gH (fun p=>@ev_3 d.regs d.last p x);have E4:=gH (fun p=>@ev_4 d.regs d.last p x);have E5:=gH (fun p=>@ev_5 d.regs d.last p x);unfold Ev.cells at HEx;have HBc:=gH (Blk.new wr 54 #[.int .i64 x.id,.int .i64 x.inn,.int .i64 x.out,.string x.region,.int .u8 x.kind,.string x.speaker,.slice A' n' c'])
    have HXc:=gH ((Ext.refl wr).alloc (.cells #[.int .i64 x.id,.int .i64 x.inn,.int .i64 x.out,.string x.region,.int .u8 x.kind,.string x.speaker,.slice A' n' c'] 54));have HBl:=gH (HBr.out.ext HXc.out);have HX3:=gH (HXr.out.trans HXc.out);(have hbr:=fun o=>HBl.out.cell o);(have hbc:=fun o=>HBc.out.cell o);go_wp2_with (refine qAa rfl 54 (.tmp 7) rfl wr.heap.size 54 _ _ (by exact rfl) (by exact HBc.out) Tryz.underlying54 rfl (by exact qMy) ?_);refine (HEx.out _ HX3.out (HAt.out.ext HXc.out)).mono ?_;rintro en w4 ⟨rfl,hx4⟩;clear hbr hbc c0 c1 c2 c3 c4 c5 c6;have HX4:=gH (HX3.out.trans hx4);have HX4r:=gH (HXc.out.trans hx4);have HB4:=gH (HBl.out.ext hx4);have HC4:=gH (HBc.out.ext hx4);clear hx4;(have hb4:=fun o=>HB4.out.cell o);(have hc4:=fun o=>HC4.out.cell o)
    by_cases he:x.err d.regs=0
    case neg =>
     (have hne:(x.err d.regs != 0)=true:=by simpa using he);have HRe:=gH (HRet.out _ (E1.out _ he) he);clear he;go_wp2_with fail;go_ret;exact ⟨qAf HRe.out.symm,HX4.out⟩
    rw [he];have HEr:=gH he;clear he E1;obtain ⟨nm,Dm,hown,hnm,hmap,hhas,hatk⟩:=HM.out.ext HX4r.out;have HOw:=gH hown;have HOm:=gH hmap;have HHs:=gH hhas;have HAk:=gH hatk;(have hnl:nm<maxLen:=by have:=HTl.out;simp [maxLen];omega);have HNm:=gH hnm;have hhas2:=hhas x.id HIw.out;clear hown hmap hhas hatk
    by_cases hi2:d.last<x.id
    . have HRe:=gH (HRet.out _ (E2.out _ HEr.out hi2) (by decide))
      clear hhas2;go_wp2_with (at_lookup;refine wpList_lookup_own_ok_int _ rfl _ _ 191 rfl 2 3 .i64 qHy Tryz.underlying191 Tryz.underlying3 (qCw _) w2.heap.size nm Dm rfl (by exact HOw.out) _ _ rfl (by exact HKey.out) ?_;intro c0 hat hwc;have HAt0:=gH hat;clear hat hwc);go_ret;exact ⟨qAf HRe.out.symm,HX4.out⟩
    have HLa:=gH hi2;clear E2
    by_cases hk0:k=0
    case pos =>
     subst hk0;(have HPn:Hid (¬ ((d.evs.take 0).getLast?.map fun p=>qDw p x)=some false):=by show ¬ _;simp);have hfs:(qBd (d.evs.take 0) x.id).isSome=false:=rfl;rw [hfs] at hhas2;go_wp2_with (at_lookup;refine wpList_lookup_own_ok_int _ rfl _ _ 191 rfl 2 3 .i64 qHy Tryz.underlying191 Tryz.underlying3 (qCw _) w2.heap.size nm Dm rfl (by exact HOw.out) _ _ rfl (by exact HKey.out) ?_;intro c0 hat hwc;have HAt0:=gH hat;clear hat hwc);go_quiet (fail);go_wp2_with (at_mapUpdate;refine wpList_mapUpdate_in _ rfl _ _ _ 191 rfl 2 3 qHy Tryz.underlying191 (plainElem Tryz.prog 3) w2.heap.size nm Dm rfl (by exact zAj HOw.out ((Ext.refl _).drewN _)) hnl _ _ (.int .i64 x.id) rfl rfl (by exact HKey.out) (.lit (.int .i64 (0:Int))) [] (plainElem_int Tryz.underlying3 (IW.wf ⟨by omega,by omega⟩)) ?_;intro w10 hown1 hturn1);exact ⟨⟨1,by omega,by go_num,qQz hturn1 (hx.trans (HX4r.out.drewN _)) (Nat.le_refl _),by rw [HTk.out];exact MapE.put (w:=w) HNm.out HOm.out HHs.out HAk.out HIw.out (by rfl) (by rw [HTl.out];exact hown1),HS.out.2 (E5.out _ HEr.out (by have:=HLa.out;omega) HPn.out (by rfl))⟩,by simp [intOf];omega⟩
    obtain ⟨b',off',p,A2,n2,c2,hA,hC2,hq⟩:=HPv.out (by omega)
    cases hA
    (have hki:(0:Int)<(k:Int):=by omega);(have hkp:0<k:=by omega);(have hk1:((k:Int)-1).toNat=k-1:=by omega);(have hk2:(k:Int)-1=((k-1:Nat):Int):=by omega);(have HCp:Hid (∀ j u,(p.cells A2 n2 c2).toList[j]?=some u->w4.cell? ⟨b,off+(k-1)*7+j,none⟩=some u):=fun j u hu=>HX4r.out.cell (hC2 j u hu));have HQ:=gH hq;have HLess:=gH (fun w'=>zJg p x A2 n2 c2 A' n' c' w');clear hC2 hq
    cases hle:qDw p x
    case false =>
     rw [hle] at HLess;have HRe:=gH (HRet.out _ (E3.out _ HEr.out (by have:=HLa.out;omega) (by rw [HQ.out];simp [hle])) (by decide));clear hhas2;go_wp2_with (at_lookup;refine wpList_lookup_own_ok_int _ rfl _ _ 191 rfl 2 3 .i64 qHy Tryz.underlying191 Tryz.underlying3 (qCw _) w2.heap.size nm Dm rfl (by exact HOw.out) _ _ rfl (by exact HKey.out) ?_;intro c0 hat hwc;have HAt0:=gH hat;clear hat hwc)
     refine qCl [.int .i64 (k:Int),.bool true,.bool true,.pointer (some ⟨w.heap.size,6,none⟩),.slice (some ⟨b,off,none⟩) n hec,.int .i64 (k:Int),.int .i64 ((k-1:Nat):Int),.pointer (some ⟨b,off+(k-1)*7,none⟩),.agg #[.int .i64 p.id,.int .i64 p.inn,.int .i64 p.out,.string p.region,.int .u8 p.kind,.string p.speaker,.slice A2 n2 c2],.agg #[.int .i64 x.id,.int .i64 x.inn,.int .i64 x.out,.string x.region,.int .u8 x.kind,.string x.speaker,.slice A' n' c'],.bool false,.bool true,.bool true,.bool true] [(56,.int .i64 (k:Int)),(57,.bool true),(58,.bool true),(59,.pointer (some ⟨w.heap.size,6,none⟩)),(60,.slice (some ⟨b,off,none⟩) n hec),(61,.int .i64 (k:Int)),(62,.int .i64 ((k-1:Nat):Int)),(63,.pointer (some ⟨b,off+(k-1)*7,none⟩)),(64,.agg #[.int .i64 p.id,.int .i64 p.inn,.int .i64 p.out,.string p.region,.int .u8 p.kind,.string p.speaker,.slice A2 n2 c2]),(65,.agg #[.int .i64 x.id,.int .i64 x.inn,.int .i64 x.out,.string x.region,.int .u8 x.kind,.string x.speaker,.slice A' n' c']),(66,.bool false),(67,.bool true),(68,.bool true),(55,.bool true)] (by kernel_rfl) (by kernel_rfl) (by kernel_rfl) rfl rfl ?_ ?_
     . intro i o ho a w' K' hx hn hd hk
       match i,ho with
       | 0,ho =>
        simp only [gA,gB,gC,gD] at ho;subst ho;refine qAm rfl ?_;exact qCs _ _ rfl ((hn 6 rfl).trans (show _=Value.int .i64 (k:Int) from rfl)) (hk _ rfl w' (Ext.refl _))
       | 1,ho =>
        simp only [gA,gB,gC,gD] at ho;subst ho;refine qAm rfl ?_;exact qFr rfl (qAg (hd 0 56 (.int .i64 (k:Int)) rfl rfl rfl)) rfl (by first | (go_simp;done) | (go_simp;simp;omega) | (simp;omega)) (hk _ rfl w' (Ext.refl _))
       | 2,ho =>
        simp only [gA,gB,gC,gD] at ho;subst ho;refine qAm rfl ?_;exact qCs _ _ rfl (qAg (hd 1 57 (.bool true) rfl rfl rfl)) (hk _ rfl w' (Ext.refl _))
       | 3,ho =>
        simp only [gA,gB,gC,gD] at ho;subst ho;refine qAk rfl rfl (hd 2 58 (.bool true) rfl rfl rfl) rfl ?_;have ex1:=((hn 1 rfl).trans (show _=Value.pointer (some ⟨w.heap.size,0,none⟩) from rfl));simp only [Act.eval] at ex1;have HK:=gH (hk (.pointer (some ⟨w.heap.size,6,none⟩)) rfl w' (Ext.refl _));clear hx hn hd hk;go_simp;exact HK.out
       | 4,ho =>
        simp only [gA,gB,gC,gD] at ho;subst ho;refine qAk rfl rfl (hd 2 58 (.bool true) rfl rfl rfl) rfl ?_;have ex59:=(qAg (hd 3 59 (.pointer (some ⟨w.heap.size,6,none⟩)) rfl rfl rfl));have hcl:w'.cell? ⟨w.heap.size,6,none⟩=some (.slice (some ⟨b,off,none⟩) n hec):=(HB4.out.ext hx).cell 6;simp only [Act.eval] at ex59;have HK:=gH (hk (.slice (some ⟨b,off,none⟩) n hec) rfl w' (Ext.refl _));clear hx hn hd hk;go_simp;exact HK.out
       | 5,ho =>
        simp only [gA,gB,gC,gD] at ho;subst ho;refine qAk rfl rfl (hd 2 58 (.bool true) rfl rfl rfl) rfl ?_;exact qCs _ _ rfl ((hn 6 rfl).trans (show _=Value.int .i64 (k:Int) from rfl)) (hk _ rfl w' (Ext.refl _))
       | 6,ho =>
        simp only [gA,gB,gC,gD] at ho;subst ho;refine qAk rfl rfl (hd 2 58 (.bool true) rfl rfl rfl) rfl ?_;exact qFr rfl (qAg (hd 5 61 (.int .i64 (k:Int)) rfl rfl rfl)) rfl (by first | (go_simp;done) | (go_simp;rw [wrap_i64 (by omega) (by omega)];done) | (go_simp;exact wrap_i64 (by omega) (by omega))) (hk _ rfl w' (Ext.refl _))
       | 7,ho =>
        simp only [gA,gB,gC,gD] at ho;subst ho;refine qAk rfl rfl (hd 2 58 (.bool true) rfl rfl rfl) rfl ?_;exact qFz rfl (qAg (hd 4 60 (.slice (some ⟨b,off,none⟩) n hec) rfl rfl rfl)) (qAg (hd 6 62 (.int .i64 ((k-1:Nat):Int)) rfl rfl rfl)) (by omega) (hk _ rfl w' (Ext.refl _))
       | 8,ho =>
        simp only [gA,gB,gC,gD] at ho;subst ho;refine qAk rfl rfl (hd 2 58 (.bool true) rfl rfl rfl) rfl ?_;exact qFh rfl b _ p A2 n2 c2 (qAg (hd 7 63 (.pointer (some ⟨b,off+(k-1)*7,none⟩)) rfl rfl rfl)) (fun j u hu=>hx.cell (HCp.out j u hu)) (hk _ rfl w' (Ext.refl _))
       | 9,ho =>
        simp only [gA,gB,gC,gD] at ho;subst ho;refine qAk rfl rfl (hd 2 58 (.bool true) rfl rfl rfl) rfl ?_;exact qTr 54 (.tmp 7) rfl _ 54 _ _ ((hn 7 rfl).trans (show _=Value.pointer (some ⟨wr.heap.size,0,none⟩) from rfl)) (HC4.out.ext hx) Tryz.underlying54 rfl (by exact qMy) (hk _ rfl w' (Ext.refl _))
       | 10,ho =>
        simp only [gA,gB,gC,gD] at ho;subst ho;refine qAk rfl rfl (hd 2 58 (.bool true) rfl rfl rfl) rfl ?_;exact qNa rfl (qAg (hd 8 64 (.agg #[.int .i64 p.id,.int .i64 p.inn,.int .i64 p.out,.string p.region,.int .u8 p.kind,.string p.speaker,.slice A2 n2 c2]) rfl rfl rfl)) (qAg (hd 9 65 (.agg #[.int .i64 x.id,.int .i64 x.inn,.int .i64 x.out,.string x.region,.int .u8 x.kind,.string x.speaker,.slice A' n' c']) rfl rfl rfl)) Tryz.call100 ((HLess.out w')) (hk _ rfl)
       | 11,ho =>
        simp only [gA,gB,gC,gD] at ho;subst ho;refine qAk rfl rfl (hd 2 58 (.bool true) rfl rfl rfl) rfl ?_;exact zPm rfl (qAg (hd 10 66 (.bool false) rfl rfl rfl)) (by first | (go_simp;done) | (go_simp;simp)) (hk _ rfl w' (Ext.refl _))
       | 12,ho =>
        simp only [gA,gB,gC,gD] at ho;subst ho;refine qAm rfl ?_;exact qFt _ _ _ true _ rfl (qAg (hd 2 58 (.bool true) rfl rfl rfl)) (by exact (qAg (hd 11 67 (.bool true) rfl rfl rfl))) (hk _ rfl w' (Ext.refl _))
       | 13,ho =>
        simp only [gA,gB,gC,gD] at ho;subst ho;refine qAm rfl ?_;exact qLr _ _ rfl (qAg (hd 12 68 (.bool true) rfl rfl rfl)) (hk _ rfl w' (Ext.refl _))
       | i+14,ho=>simp at ho
     intro w9 hx9;simp only [Act.put,List.foldl_cons,List.foldl_nil,List.setIfInBounds_toArray,List.set_cons_zero,List.set_cons_succ];go_wp2_with fail;go_ret;exact ⟨qAf HRe.out.symm,HX4.out.trans hx9⟩
    (have HPn:Hid (¬ ((d.evs.take k).getLast?.map fun p=>qDw p x)=some false):=by show ¬ _;rw [HQ.out];simp [hle]);rw [hle] at HLess
    cases hfs:(qBd (d.evs.take k) x.id).isSome
    case true =>
     have HRe:=gH (HRet.out _ (E4.out _ HEr.out (by have:=HLa.out;omega) HPn.out hfs) (by decide));rw [hfs] at hhas2;clear hfs;go_wp2_with (at_lookup;refine wpList_lookup_own_ok_int _ rfl _ _ 191 rfl 2 3 .i64 qHy Tryz.underlying191 Tryz.underlying3 (qCw _) w2.heap.size nm Dm rfl (by exact HOw.out) _ _ rfl (by exact HKey.out) ?_;intro c0 hat hwc;have HAt0:=gH hat;clear hat hwc)
     refine qCl [.int .i64 (k:Int),.bool true,.bool true,.pointer (some ⟨w.heap.size,6,none⟩),.slice (some ⟨b,off,none⟩) n hec,.int .i64 (k:Int),.int .i64 ((k-1:Nat):Int),.pointer (some ⟨b,off+(k-1)*7,none⟩),.agg #[.int .i64 p.id,.int .i64 p.inn,.int .i64 p.out,.string p.region,.int .u8 p.kind,.string p.speaker,.slice A2 n2 c2],.agg #[.int .i64 x.id,.int .i64 x.inn,.int .i64 x.out,.string x.region,.int .u8 x.kind,.string x.speaker,.slice A' n' c'],.bool true,.bool false,.bool false,.bool false] [(56,.int .i64 (k:Int)),(57,.bool true),(58,.bool true),(59,.pointer (some ⟨w.heap.size,6,none⟩)),(60,.slice (some ⟨b,off,none⟩) n hec),(61,.int .i64 (k:Int)),(62,.int .i64 ((k-1:Nat):Int)),(63,.pointer (some ⟨b,off+(k-1)*7,none⟩)),(64,.agg #[.int .i64 p.id,.int .i64 p.inn,.int .i64 p.out,.string p.region,.int .u8 p.kind,.string p.speaker,.slice A2 n2 c2]),(65,.agg #[.int .i64 x.id,.int .i64 x.inn,.int .i64 x.out,.string x.region,.int .u8 x.kind,.string x.speaker,.slice A' n' c']),(66,.bool true),(67,.bool false),(68,.bool false),(55,.bool false)] (by kernel_rfl) (by kernel_rfl) (by kernel_rfl) rfl rfl ?_ ?_
     . intro i o ho a w' K' hx hn hd hk
       match i,ho with
       | 0,ho =>
        simp only [gA,gB,gC,gD] at ho;subst ho;refine qAm rfl ?_;exact qCs _ _ rfl ((hn 6 rfl).trans (show _=Value.int .i64 (k:Int) from rfl)) (hk _ rfl w' (Ext.refl _))
       | 1,ho =>
        simp only [gA,gB,gC,gD] at ho;subst ho;refine qAm rfl ?_;exact qFr rfl (qAg (hd 0 56 (.int .i64 (k:Int)) rfl rfl rfl)) rfl (by first | (go_simp;done) | (go_simp;simp;omega) | (simp;omega)) (hk _ rfl w' (Ext.refl _))
       | 2,ho =>
        simp only [gA,gB,gC,gD] at ho;subst ho;refine qAm rfl ?_;exact qCs _ _ rfl (qAg (hd 1 57 (.bool true) rfl rfl rfl)) (hk _ rfl w' (Ext.refl _))
       | 3,ho =>
        simp only [gA,gB,gC,gD] at ho;subst ho;refine qAk rfl rfl (hd 2 58 (.bool true) rfl rfl rfl) rfl ?_;have ex1:=((hn 1 rfl).trans (show _=Value.pointer (some ⟨w.heap.size,0,none⟩) from rfl));simp only [Act.eval] at ex1;have HK:=gH (hk (.pointer (some ⟨w.heap.size,6,none⟩)) rfl w' (Ext.refl _));clear hx hn hd hk;go_simp;exact HK.out
       | 4,ho =>
        simp only [gA,gB,gC,gD] at ho;subst ho;refine qAk rfl rfl (hd 2 58 (.bool true) rfl rfl rfl) rfl ?_;have ex59:=(qAg (hd 3 59 (.pointer (some ⟨w.heap.size,6,none⟩)) rfl rfl rfl));have hcl:w'.cell? ⟨w.heap.size,6,none⟩=some (.slice (some ⟨b,off,none⟩) n hec):=(HB4.out.ext hx).cell 6;simp only [Act.eval] at ex59;have HK:=gH (hk (.slice (some ⟨b,off,none⟩) n hec) rfl w' (Ext.refl _));clear hx hn hd hk;go_simp;exact HK.out
       | 5,ho =>
        simp only [gA,gB,gC,gD] at ho;subst ho;refine qAk rfl rfl (hd 2 58 (.bool true) rfl rfl rfl) rfl ?_;exact qCs _ _ rfl ((hn 6 rfl).trans (show _=Value.int .i64 (k:Int) from rfl)) (hk _ rfl w' (Ext.refl _))
       | 6,ho =>
        simp only [gA,gB,gC,gD] at ho;subst ho;refine qAk rfl rfl (hd 2 58 (.bool true) rfl rfl rfl) rfl ?_;exact qFr rfl (qAg (hd 5 61 (.int .i64 (k:Int)) rfl rfl rfl)) rfl (by first | (go_simp;done) | (go_simp;rw [wrap_i64 (by omega) (by omega)];done) | (go_simp;exact wrap_i64 (by omega) (by omega))) (hk _ rfl w' (Ext.refl _))
       | 7,ho =>
        simp only [gA,gB,gC,gD] at ho;subst ho;refine qAk rfl rfl (hd 2 58 (.bool true) rfl rfl rfl) rfl ?_;exact qFz rfl (qAg (hd 4 60 (.slice (some ⟨b,off,none⟩) n hec) rfl rfl rfl)) (qAg (hd 6 62 (.int .i64 ((k-1:Nat):Int)) rfl rfl rfl)) (by omega) (hk _ rfl w' (Ext.refl _))
       | 8,ho =>
        simp only [gA,gB,gC,gD] at ho;subst ho;refine qAk rfl rfl (hd 2 58 (.bool true) rfl rfl rfl) rfl ?_;exact qFh rfl b _ p A2 n2 c2 (qAg (hd 7 63 (.pointer (some ⟨b,off+(k-1)*7,none⟩)) rfl rfl rfl)) (fun j u hu=>hx.cell (HCp.out j u hu)) (hk _ rfl w' (Ext.refl _))
       | 9,ho =>
        simp only [gA,gB,gC,gD] at ho;subst ho;refine qAk rfl rfl (hd 2 58 (.bool true) rfl rfl rfl) rfl ?_;exact qTr 54 (.tmp 7) rfl _ 54 _ _ ((hn 7 rfl).trans (show _=Value.pointer (some ⟨wr.heap.size,0,none⟩) from rfl)) (HC4.out.ext hx) Tryz.underlying54 rfl (by exact qMy) (hk _ rfl w' (Ext.refl _))
       | 10,ho =>
        simp only [gA,gB,gC,gD] at ho;subst ho;refine qAk rfl rfl (hd 2 58 (.bool true) rfl rfl rfl) rfl ?_;exact qNa rfl (qAg (hd 8 64 (.agg #[.int .i64 p.id,.int .i64 p.inn,.int .i64 p.out,.string p.region,.int .u8 p.kind,.string p.speaker,.slice A2 n2 c2]) rfl rfl rfl)) (qAg (hd 9 65 (.agg #[.int .i64 x.id,.int .i64 x.inn,.int .i64 x.out,.string x.region,.int .u8 x.kind,.string x.speaker,.slice A' n' c']) rfl rfl rfl)) Tryz.call100 ((HLess.out w')) (hk _ rfl)
       | 11,ho =>
        simp only [gA,gB,gC,gD] at ho;subst ho;refine qAk rfl rfl (hd 2 58 (.bool true) rfl rfl rfl) rfl ?_;exact zPm rfl (qAg (hd 10 66 (.bool true) rfl rfl rfl)) (by first | (go_simp;done) | (go_simp;simp)) (hk _ rfl w' (Ext.refl _))
       | 12,ho =>
        simp only [gA,gB,gC,gD] at ho;subst ho;refine qAm rfl ?_;exact qFt _ _ _ true _ rfl (qAg (hd 2 58 (.bool true) rfl rfl rfl)) (by exact (qAg (hd 11 67 (.bool false) rfl rfl rfl))) (hk _ rfl w' (Ext.refl _))
       | 13,ho =>
        simp only [gA,gB,gC,gD] at ho;subst ho;refine qAm rfl ?_;exact qLr _ _ rfl (qAg (hd 12 68 (.bool false) rfl rfl rfl)) (hk _ rfl w' (Ext.refl _))
       | i+14,ho=>simp at ho
     intro w9 hx9;simp only [Act.put,List.foldl_cons,List.foldl_nil,List.setIfInBounds_toArray,List.set_cons_zero,List.set_cons_succ];go_wp2_with fail;go_ret;exact ⟨qAf HRe.out.symm,HX4.out.trans hx9⟩
    case false =>
     have HNo:=gH hfs;rw [hfs] at hhas2;clear hfs;go_wp2_with (at_lookup;refine wpList_lookup_own_ok_int _ rfl _ _ 191 rfl 2 3 .i64 qHy Tryz.underlying191 Tryz.underlying3 (qCw _) w2.heap.size nm Dm rfl (by exact HOw.out) _ _ rfl (by exact HKey.out) ?_;intro c0 hat hwc;have HAt0:=gH hat;clear hat hwc)
     refine qCl [.int .i64 (k:Int),.bool true,.bool true,.pointer (some ⟨w.heap.size,6,none⟩),.slice (some ⟨b,off,none⟩) n hec,.int .i64 (k:Int),.int .i64 ((k-1:Nat):Int),.pointer (some ⟨b,off+(k-1)*7,none⟩),.agg #[.int .i64 p.id,.int .i64 p.inn,.int .i64 p.out,.string p.region,.int .u8 p.kind,.string p.speaker,.slice A2 n2 c2],.agg #[.int .i64 x.id,.int .i64 x.inn,.int .i64 x.out,.string x.region,.int .u8 x.kind,.string x.speaker,.slice A' n' c'],.bool true,.bool false,.bool false,.bool false] [(56,.int .i64 (k:Int)),(57,.bool true),(58,.bool true),(59,.pointer (some ⟨w.heap.size,6,none⟩)),(60,.slice (some ⟨b,off,none⟩) n hec),(61,.int .i64 (k:Int)),(62,.int .i64 ((k-1:Nat):Int)),(63,.pointer (some ⟨b,off+(k-1)*7,none⟩)),(64,.agg #[.int .i64 p.id,.int .i64 p.inn,.int .i64 p.out,.string p.region,.int .u8 p.kind,.string p.speaker,.slice A2 n2 c2]),(65,.agg #[.int .i64 x.id,.int .i64 x.inn,.int .i64 x.out,.string x.region,.int .u8 x.kind,.string x.speaker,.slice A' n' c']),(66,.bool true),(67,.bool false),(68,.bool false),(55,.bool false)] (by kernel_rfl) (by kernel_rfl) (by kernel_rfl) rfl rfl ?_ ?_
     . intro i o ho a w' K' hx hn hd hk
       match i,ho with
       | 0,ho =>
        simp only [gA,gB,gC,gD] at ho;subst ho;refine qAm rfl ?_;exact qCs _ _ rfl ((hn 6 rfl).trans (show _=Value.int .i64 (k:Int) from rfl)) (hk _ rfl w' (Ext.refl _))
       | 1,ho =>
        simp only [gA,gB,gC,gD] at ho;subst ho;refine qAm rfl ?_;exact qFr rfl (qAg (hd 0 56 (.int .i64 (k:Int)) rfl rfl rfl)) rfl (by first | (go_simp;done) | (go_simp;simp;omega) | (simp;omega)) (hk _ rfl w' (Ext.refl _))
       | 2,ho =>
        simp only [gA,gB,gC,gD] at ho;subst ho;refine qAm rfl ?_;exact qCs _ _ rfl (qAg (hd 1 57 (.bool true) rfl rfl rfl)) (hk _ rfl w' (Ext.refl _))
       | 3,ho =>
        simp only [gA,gB,gC,gD] at ho;subst ho;refine qAk rfl rfl (hd 2 58 (.bool true) rfl rfl rfl) rfl ?_;have ex1:=((hn 1 rfl).trans (show _=Value.pointer (some ⟨w.heap.size,0,none⟩) from rfl));simp only [Act.eval] at ex1;have HK:=gH (hk (.pointer (some ⟨w.heap.size,6,none⟩)) rfl w' (Ext.refl _));clear hx hn hd hk;go_simp;exact HK.out
       | 4,ho =>
        simp only [gA,gB,gC,gD] at ho;subst ho;refine qAk rfl rfl (hd 2 58 (.bool true) rfl rfl rfl) rfl ?_;have ex59:=(qAg (hd 3 59 (.pointer (some ⟨w.heap.size,6,none⟩)) rfl rfl rfl));have hcl:w'.cell? ⟨w.heap.size,6,none⟩=some (.slice (some ⟨b,off,none⟩) n hec):=(HB4.out.ext hx).cell 6;simp only [Act.eval] at ex59;have HK:=gH (hk (.slice (some ⟨b,off,none⟩) n hec) rfl w' (Ext.refl _));clear hx hn hd hk;go_simp;exact HK.out
       | 5,ho =>
        simp only [gA,gB,gC,gD] at ho;subst ho;refine qAk rfl rfl (hd 2 58 (.bool true) rfl rfl rfl) rfl ?_;exact qCs _ _ rfl ((hn 6 rfl).trans (show _=Value.int .i64 (k:Int) from rfl)) (hk _ rfl w' (Ext.refl _))
       | 6,ho =>
        simp only [gA,gB,gC,gD] at ho;subst ho;refine qAk rfl rfl (hd 2 58 (.bool true) rfl rfl rfl) rfl ?_;exact qFr rfl (qAg (hd 5 61 (.int .i64 (k:Int)) rfl rfl rfl)) rfl (by first | (go_simp;done) | (go_simp;rw [wrap_i64 (by omega) (by omega)];done) | (go_simp;exact wrap_i64 (by omega) (by omega))) (hk _ rfl w' (Ext.refl _))
       | 7,ho =>
        simp only [gA,gB,gC,gD] at ho;subst ho;refine qAk rfl rfl (hd 2 58 (.bool true) rfl rfl rfl) rfl ?_;exact qFz rfl (qAg (hd 4 60 (.slice (some ⟨b,off,none⟩) n hec) rfl rfl rfl)) (qAg (hd 6 62 (.int .i64 ((k-1:Nat):Int)) rfl rfl rfl)) (by omega) (hk _ rfl w' (Ext.refl _))
       | 8,ho =>
        simp only [gA,gB,gC,gD] at ho;subst ho;refine qAk rfl rfl (hd 2 58 (.bool true) rfl rfl rfl) rfl ?_;exact qFh rfl b _ p A2 n2 c2 (qAg (hd 7 63 (.pointer (some ⟨b,off+(k-1)*7,none⟩)) rfl rfl rfl)) (fun j u hu=>hx.cell (HCp.out j u hu)) (hk _ rfl w' (Ext.refl _))
       | 9,ho =>
        simp only [gA,gB,gC,gD] at ho;subst ho;refine qAk rfl rfl (hd 2 58 (.bool true) rfl rfl rfl) rfl ?_;exact qTr 54 (.tmp 7) rfl _ 54 _ _ ((hn 7 rfl).trans (show _=Value.pointer (some ⟨wr.heap.size,0,none⟩) from rfl)) (HC4.out.ext hx) Tryz.underlying54 rfl (by exact qMy) (hk _ rfl w' (Ext.refl _))
       | 10,ho =>
        simp only [gA,gB,gC,gD] at ho;subst ho;refine qAk rfl rfl (hd 2 58 (.bool true) rfl rfl rfl) rfl ?_;exact qNa rfl (qAg (hd 8 64 (.agg #[.int .i64 p.id,.int .i64 p.inn,.int .i64 p.out,.string p.region,.int .u8 p.kind,.string p.speaker,.slice A2 n2 c2]) rfl rfl rfl)) (qAg (hd 9 65 (.agg #[.int .i64 x.id,.int .i64 x.inn,.int .i64 x.out,.string x.region,.int .u8 x.kind,.string x.speaker,.slice A' n' c']) rfl rfl rfl)) Tryz.call100 ((HLess.out w')) (hk _ rfl)
       | 11,ho =>
        simp only [gA,gB,gC,gD] at ho;subst ho;refine qAk rfl rfl (hd 2 58 (.bool true) rfl rfl rfl) rfl ?_;exact zPm rfl (qAg (hd 10 66 (.bool true) rfl rfl rfl)) (by first | (go_simp;done) | (go_simp;simp)) (hk _ rfl w' (Ext.refl _))
       | 12,ho =>
        simp only [gA,gB,gC,gD] at ho;subst ho;refine qAm rfl ?_;exact qFt _ _ _ true _ rfl (qAg (hd 2 58 (.bool true) rfl rfl rfl)) (by exact (qAg (hd 11 67 (.bool false) rfl rfl rfl))) (hk _ rfl w' (Ext.refl _))
       | 13,ho =>
        simp only [gA,gB,gC,gD] at ho;subst ho;refine qAm rfl ?_;exact qLr _ _ rfl (qAg (hd 12 68 (.bool false) rfl rfl rfl)) (hk _ rfl w' (Ext.refl _))
       | i+14,ho=>simp at ho
     intro w9 hx9;simp only [Act.put,List.foldl_cons,List.foldl_nil,List.setIfInBounds_toArray,List.set_cons_zero,List.set_cons_succ];have HX9:=gH (HX4.out.trans hx9);have HX9r:=gH (HX4r.out.trans hx9);have HO9:=gH (zAj HOw.out hx9);have HC9:=gH (HC4.out.ext hx9);clear hx9 hb4 hc4;(have hc9:=fun o=>HC9.out.cell o);go_wp2_with (at_mapUpdate;refine wpList_mapUpdate_in _ rfl _ _ _ 191 rfl 2 3 qHy Tryz.underlying191 (plainElem Tryz.prog 3) w2.heap.size nm Dm rfl (by exact HO9.out) hnl _ _ (.int .i64 x.id) rfl rfl (by exact HKey.out) (.lit (.int .i64 (k:Int))) [] (plainElem_int Tryz.underlying3 (IW.wf ⟨by omega,by omega⟩)) ?_;intro w10 hown1 hturn1);exact ⟨⟨k+1,by omega,by go_num,qQz hturn1 (hx.trans HX9r.out) (Nat.le_refl _),by rw [HTk.out];exact MapE.put (w:=w) HNm.out HOm.out HHs.out HAk.out HIw.out (by cases hz:qBd (d.evs.take k) x.id with | none=>rfl | some y=>rw [hz] at HNo;exact absurd HNo.out (by simp)) (by rw [HTl.out];exact hown1),HS.out.2 (E5.out _ HEr.out (by have:=HLa.out;omega) HPn.out HNo.out)⟩,by simp [intOf];omega⟩
  . have hkn:k=n:=by omega
    subst hkn;have htk:d.evs.take k=d.evs:=List.take_of_length_le (by have:=HEl.out;omega);rw [htk] at hM hP;have HZ:=gH (hP.trans (by rw [List.drop_eq_nil_of_le (by have:=HEl.out;omega)];rfl):qCr d.regs d.last [] d.evs=0);have HM:=gH hM;clear hP hM htk;go_wp2_with (refine qAa rfl 27 (.tmp 1) rfl w.heap.size 27 _ _ (by exact rfl) (by exact HBr.out) Tryz.underlying27 rfl (by exact qMx) ?_);refine (HCm.out _ _ HXr.out HM.out).mono ?_;rintro en w3 ⟨rfl,hx3⟩;go_wp2_with fail;go_ret;exact ⟨qAf (D5.out HH.out HR.out H4.out HZ.out).symm,HXr.out.trans hx3⟩
end
end Go.Proofs.YtneffpbodfjceaaGreatDoor