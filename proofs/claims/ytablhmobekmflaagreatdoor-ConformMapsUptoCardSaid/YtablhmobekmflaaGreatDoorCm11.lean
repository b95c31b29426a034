/- Texts laid together. -/
import Derived.Test.YtablhmobekmflaaGreatDoorCm10
import Derived.Test.YtablhmobekmflaaGreatDoorCm02
import Derived.Lib.ValidLaws
import Derived.Lib.TrimUEq
import Derived.Test.YtablhmobekmflaaGreatDoorCm05
import Derived.Sort.Walk0
import Derived.Test.YtablhmobekmflaaGreatDoorCm06
import Derived.Test.YtablhmobekmflaaGreatDoorCm01
set_option linter.unusedVariables false
set_option linter.unusedSimpArgs false
set_option maxRecDepth 100000
namespace Go.Proofs.YtablhmobekmflaaGreatDoor
section
open Go.RowKit
def Chk45Rel (w:World) (day:Int) (n:Nat) (l:List Cut) (i:Value) (wr:World):Prop :=
 ∃ k:Nat,k≤n∧i = .int .i64 k∧Ext w wr∧qBk day 0 0 l=qBk day (laAt l k) (ouAt l k) (l.drop k)
theorem prev_at {w:World} {A:Option Addr} {n:Nat} {l:List Cut} (h:qBd w A n l) {k:Nat} (hk:k≤n) (h0:0<k):∃ b off,A=some ⟨b,off,none⟩ ∧
 w.cell? ⟨b,off+(k-1)*7,none⟩=some (.int .i64 (laAt l k))∧w.cell? ⟨b,off+(k-1)*7+4,none⟩=some (.int .i64 (ouAt l k)):=by
 obtain ⟨j,rfl⟩:∃ j,k=j+1:=⟨k-1,by omega⟩;obtain ⟨b,off,c,hA,hc,c0,c1,c2,c3,c4,c5,c6⟩:=h.at7 (i:=j) (by omega);refine ⟨b,off,hA,?_,?_⟩
 · simpa [laAt,hc] using c0
 · simpa [ouAt,hc] using c4
theorem qBy:(Tryz.prog.info? 28).map (·.size)=some 4:=by kernel_rfl
set_option maxHeartbeats 4000000 in
theorem qKj (e:Edl) (A:Option Addr) (n c:Nat) (w:World) (hE:Env w) (hl:qBd w A n e.cuts) (hn:n≤1000000) (hr0:0≤e.rate) (hr1:e.rate≤255) (ht:e.title.size≤140737488351232) (hf:∀ c∈e.cuts,c.Fits) :
 Calls Tryz.prog 41 #[.agg (e.cells A n c)] w fun en w'=>en = .returned (.int .i64 (qAn e))∧Ext w w':=by
 have HL:=gH hl;have HLn:=gH hl.len;have HF:=gH hf;have HE:=gH hE;clear hl hf hE;have h1:=gH (@edl_char e);have h2:=gH (@edl_title e);have h3:=gH (@edl_rate e);have h4:=gH (@edl_many e);have h5:=gH (fun x=>@edl_cuts e x);have h6:=gH (@edl_reels e);have h7:=gH (@edl_ok e);have HRE:=gH (fun w' (hx:Ext w w')=>Reels_any e A n c w' (HL.out.ext hx) hn);obtain ⟨title,rate,drop,cuts⟩:=e;unfold Edl.cells at *;dsimp only at *;have HX0:=gH ((Ext.refl w).alloc (.cells #[.string title,.int .u8 rate,.bool drop,.slice A n c] 28));have HB0:=gH (Blk.new w 28 #[.string title,.int .u8 rate,.bool drop,.slice A n c]);go_enter Tryz.func41,Tryz.ntmps41;go_wp2_with fail;refine (qGd title _ (HE.out.ext HX0.out) (by omega)).mono ?_;rintro en w1 ⟨rfl,hx1⟩;have HX1:=gH (HX0.out.trans hx1);have HB1:=gH (HB0.out.ext hx1);(have hcell1:=fun o=>HB1.out.cell o)
 cases hv:vld title
 · have HV:=gH hv
   clear hv;go_wp2_with fail;go_ret;exact ⟨qAa (by rw [h1.out HV.out]),HX1.out⟩
 have HV:=gH hv;clear hv h1
 by_cases ht4:400<title.size
 · skip
   go_wp2_with fail;go_ret;exact ⟨qAa (by rw [h2.out HV.out ht4]),HX1.out⟩
 have HT:=gH ht4;clear h2;go_wp2_with fail;refine (qEd rate _ hr0 hr1).mono ?_;rintro en w2 ⟨rfl,hx2⟩;have HX2:=gH (HX1.out.trans hx2);have HB2:=gH (HB1.out.ext hx2);(have hcell2:=fun o=>HB2.out.cell o);clear hcell1
 cases hok:rOk rate
 · have HO:Hid (qAr rate drop=false):=by show _=_;unfold qAr;rw [hok];rfl
   clear hok;go_wp2_with fail;go_ret;exact ⟨qAa (by rw [h3.out HV.out HT.out HO.out]),HX2.out⟩
 cases drop
 · have HO:Hid (qAr rate false=true):=by show _=_;unfold qAr;rw [hok];rfl
   clear hok;have HX3:=HX2;have HB3:=HB2;have hcell3:=hcell2;clear hcell2
   by_cases h64:64<cuts.length
   · have h64':(64:Int)<(n:Int):=by have:=HLn.out;omega
     go_wp2_with fail;go_ret;exact ⟨qAa (by rw [h4.out HV.out HT.out HO.out h64]),HX3.out⟩
   (have h64':¬ (64:Int)<(n:Int):=by have:=HLn.out;omega);have H64:=gH h64;clear h64 h3 h4;go_wp2_with fail;refine (Day_any rate false _ hr0 hr1).mono ?_;rintro en w4 ⟨rfl,hx4⟩;have HX4:=gH (HX3.out.trans hx4);have HB4:=gH (HB3.out.ext hx4);(have hcell4:=fun o=>HB4.out.cell o);clear hcell3;have hd9:=qKq rate false;have HD:Hid (∃ day,day=qEv rate false):=⟨_,rfl⟩;generalize qEv rate false=day at *;clear HD;go_wp2_with fail
   go_loopw [45] (fun i wr=>Chk45Rel w4 day n cuts i wr) (fun i _=>n-(intOf i).toNat)
   case atStart=>exact ⟨0,Nat.zero_le _,rfl,Ext.refl _,by simp [laAt,ouAt]⟩
   case round =>
    obtain ⟨k,hk,rfl,hx,hP⟩:=hrel;have HXr:=gH (HX4.out.trans hx);have HBr:=gH (HB4.out.ext hx);(have hcellr:=fun o=>HBr.out.cell o);clear hcell4
    by_cases hlt:k<n
    · obtain ⟨b,off,r,rfl,hr,c0,c1,c2,c3,c4,c5,c6⟩:=(HL.out.ext HXr.out).at7 hlt
      skip
      have HS:=gH (qPc hr hP);have hfr:r.Fits:=HF.out r (List.mem_of_getElem? hr);have HFr:=gH hfr;have HN1:=gH (@single_num r (laAt cuts k) day);have HN2:=gH (@single_ord r (laAt cuts k) day);have HN3:=gH (@qMo r (laAt cuts k) day);have HI:=gH (@cutErr_inn r day);have HCk:=gH (fun w'=>qNa r day w' hfr hd9);have HPr:=gH (fun h0=>prev_at (HL.out.ext HXr.out) (k:=k) hk h0);(have HLa0:Hid (k=0→laAt cuts k=0∧ouAt cuts k=0):=fun h=>by subst h;exact ⟨rfl,rfl⟩);clear hr hP hfr;obtain ⟨num,rl,src,inn,out,nn,dd⟩:=r;have HBc:=gH (Blk.new wr 91 (Cut.cells ⟨num,rl,src,inn,out,nn,dd⟩));have HXc:=gH ((Ext.refl wr).alloc (.cells (Cut.cells ⟨num,rl,src,inn,out,nn,dd⟩) 91));unfold Cut.cells at HBc HXc HCk;dsimp only at *;generalize laAt cuts k=la at *;generalize ouAt cuts k=ou at *
      by_cases hn1:num<1
      · go_wp2_with fail
        go_ret;exact ⟨qAa (by rw [h5.out 2 HV.out HT.out HO.out H64.out (by rw [HS.out.1 (by rw [HN1.out (.inl hn1)];decide),HN1.out (.inl hn1)]) (by decide)]),HXr.out.trans HXc.out⟩
      by_cases hn2:999<num
      · go_wp2_with fail
        go_ret;exact ⟨qAa (by rw [h5.out 2 HV.out HT.out HO.out H64.out (by rw [HS.out.1 (by rw [HN1.out (.inr hn2)];decide),HN1.out (.inr hn2)]) (by decide)]),HXr.out.trans HXc.out⟩
      have HNN:Hid (¬ (num<1∨999<num)):=by show ¬ _;omega
      by_cases hk0:k=0
      · obtain ⟨rfl,rfl⟩:=HLa0.out hk0
        subst hk0;simp only [Nat.zero_mul,Nat.add_zero] at c0 c1 c2 c3 c4 c5 c6;(have HOr:Hid (¬ num≤0):=by show ¬ _;omega);go_wp2_with fail;go_quiet (fail);go_wp2_with (refine qAc rfl 91 (.tmp 5) rfl _ 91 _ _ (by exact rfl) (by exact HBc.out.ext ((Ext.refl _).drewN _)) Tryz.underlying91 rfl (by exact qCk) ?_);refine (HCk.out _).mono ?_;rintro en w5 ⟨rfl,hx5⟩;have HX5:=gH ((HXc.out.drewN _).trans hx5);have HB5:=gH ((HBc.out.ext ((Ext.refl _).drewN _)).ext hx5);(have hcell5:=fun o=>HB5.out.cell o);have HSg:=gH (HN3.out HNN.out HOr.out)
        by_cases hce:qCc ⟨num,rl,src,inn,out,nn,dd⟩ day=0
        · have HI0:=HI.out hce
          have HG:=gH (HS.out.2.2 (HSg.out.trans hce) (by omega));rw [hce];go_wp2_with fail;go_quiet (fail);go_wp2_with fail;exact ⟨⟨1,by omega,by go_num,hx.trans (HX5.out.drewN _),HG.out⟩,by simp [intOf];omega⟩
        · have hne:(qCc ⟨num,rl,src,inn,out,nn,dd⟩ day != 0)=true:=by simpa using hce
          have HC:=gH hce;have HG:=gH (HS.out.1 (by rw [HSg.out];exact hce));clear hce;go_wp2_with fail;go_ret;exact ⟨qAa (by rw [h5.out _ HV.out HT.out HO.out H64.out HG.out (by rw [HSg.out];exact HC.out),HSg.out]),HXr.out.trans HX5.out⟩
      · obtain ⟨b',off',hA,p0,p4⟩:=HPr.out (by omega)
        cases hA
        (have hki:(0:Int)<(k:Int):=by omega);(have hkp:0<k:=by omega);(have hcc:=fun o=>HBc.out.cell o);(have hcl:=fun o=>(HBr.out.ext HXc.out).cell o);have pp0:=HXc.out.cell p0;(have hk1:((k:Int)-1).toNat=k-1:=by omega);(have hk2:(k:Int)-1=((k-1:Nat):Int):=by omega)
        by_cases hor:num≤la
        · go_wp2_with fail
          go_quiet (fail);go_wp2_with fail;go_ret;exact ⟨qAa (by rw [h5.out 8 HV.out HT.out HO.out H64.out (by rw [HS.out.1 (by rw [HN2.out HNN.out hor];decide),HN2.out HNN.out hor]) (by decide)]),(HXr.out.trans HXc.out).drewN _⟩
        · go_wp2_with fail
          go_quiet (fail);go_wp2_with (refine qAc rfl 91 (.tmp 5) rfl _ 91 _ _ (by exact rfl) (by exact HBc.out.ext ((Ext.refl _).drewN _)) Tryz.underlying91 rfl (by exact qCk) ?_);refine (HCk.out _).mono ?_;rintro en w5 ⟨rfl,hx5⟩;have HX5:=gH ((HXc.out.drewN _).trans hx5);have HB5:=gH ((HBc.out.ext ((Ext.refl _).drewN _)).ext hx5);have HBl:=gH (HBr.out.ext HX5.out);(have hcell5:=fun o=>HB5.out.cell o);(have hcelll:=fun o=>HBl.out.cell o);have q0:=HX5.out.cell p0;have q4:=HX5.out.cell p4;have HSg:=gH (HN3.out HNN.out hor);clear p0 p4 hcellr hcc hcl pp0
          by_cases hce:qCc ⟨num,rl,src,inn,out,nn,dd⟩ day=0
          · rw [hce]
            by_cases hov:inn<ou
            · have HG:=gH (HS.out.2.1 (HSg.out.trans hce) hov)
              go_wp2_with fail;go_quiet (fail);go_wp2_with fail;go_ret;exact ⟨qAa (by rw [h5.out 14 HV.out HT.out HO.out H64.out HG.out (by decide)]),(HXr.out.trans HX5.out).drewN _⟩
            · have HG:=gH (HS.out.2.2 (HSg.out.trans hce) (by omega))
              go_wp2_with fail;go_quiet (fail);go_wp2_with fail;exact ⟨⟨k+1,by omega,by go_num,hx.trans (HX5.out.drewN _),HG.out⟩,by simp [intOf];omega⟩
          · have hne:(qCc ⟨num,rl,src,inn,out,nn,dd⟩ day != 0)=true:=by simpa using hce
            have HC:=gH hce;have HG:=gH (HS.out.1 (by rw [HSg.out];exact hce));clear hce;go_wp2_with fail;go_ret;exact ⟨qAa (by rw [h5.out _ HV.out HT.out HO.out H64.out HG.out (by rw [HSg.out];exact HC.out),HSg.out]),HXr.out.trans HX5.out⟩
    · have hkn:k=n:=by omega
      subst hkn
      have HZ:Hid (qBk day 0 0 cuts=0):=by
       show _=_
       rw [hP,List.drop_eq_nil_of_le (by have:=HLn.out;omega)];rfl
      clear hP;go_wp2_with (refine qAc rfl 28 (.tmp 1) rfl _ 28 _ _ (by exact rfl) (by exact HBr.out) Tryz.underlying28 rfl (by exact qBy) ?_);refine (HRE.out _ HXr.out).mono ?_;rintro en w5 ⟨A5,m,c5,rfl,hm,hx5⟩;have HM:=gH hm;clear hm
      by_cases h16:16<m
      · have h16':(16:Int)<(m:Int):=by omega
        go_wp2_with fail;go_ret;exact ⟨qAa (by rw [h6.out HV.out HT.out HO.out H64.out HZ.out (by rw [← HM.out];exact h16)]),HXr.out.trans hx5⟩
      · have h16':¬ (16:Int)<(m:Int):=by omega
        go_wp2_with fail;go_ret;exact ⟨qAa (by rw [h7.out HV.out HT.out HO.out H64.out HZ.out (by rw [← HM.out];exact h16)]),HXr.out.trans hx5⟩
 · go_wp2_with fail
   refine (qKa rate _ hr0 hr1).mono ?_;rintro en w3 ⟨rfl,hx3⟩;have HX3:=gH (HX2.out.trans hx3);have HB3:=gH (HB2.out.ext hx3);(have hcell3:=fun o=>HB3.out.cell o);clear hcell2
   cases hdr:qFw rate
   · have HO:Hid (qAr rate true=false):=by show _=_;unfold qAr;rw [hok,hdr];rfl
     clear hok hdr;go_wp2_with fail;go_ret;exact ⟨qAa (by rw [h3.out HV.out HT.out HO.out]),HX3.out⟩
   (have HO:Hid (qAr rate true=true):=by show _=_;unfold qAr;rw [hok,hdr];rfl);clear hok hdr
   by_cases h64:64<cuts.length
   · have h64':(64:Int)<(n:Int):=by have:=HLn.out;omega
     go_wp2_with fail;go_ret;exact ⟨qAa (by rw [h4.out HV.out HT.out HO.out h64]),HX3.out⟩
   (have h64':¬ (64:Int)<(n:Int):=by have:=HLn.out;omega);have H64:=gH h64;clear h64 h3 h4;go_wp2_with fail;refine (Day_any rate true _ hr0 hr1).mono ?_;rintro en w4 ⟨rfl,hx4⟩;have HX4:=gH (HX3.out.trans hx4);have HB4:=gH (HB3.out.ext hx4);(have hcell4:=fun o=>HB4.out.cell o);clear hcell3;have hd9:=qKq rate true;have HD:Hid (∃ day,day=qEv rate true):=⟨_,rfl⟩;generalize qEv rate true=day at *;clear HD;go_wp2_with fail
   go_loopw [45] (fun i wr=>Chk45Rel w4 day n cuts i wr) (fun i _=>n-(intOf i).toNat)
   case atStart=>exact ⟨0,Nat.zero_le _,rfl,Ext.refl _,by simp [laAt,ouAt]⟩
   case round =>
    obtain ⟨k,hk,rfl,hx,hP⟩:=hrel;have HXr:=gH (HX4.out.trans hx);have HBr:=gH (HB4.out.ext hx);(have hcellr:=fun o=>HBr.out.cell o);clear hcell4
    by_cases hlt:k<n
    · obtain ⟨b,off,r,rfl,hr,c0,c1,c2,c3,c4,c5,c6⟩:=(HL.out.ext HXr.out).at7 hlt
      skip
      have HS:=gH (qPc hr hP);have hfr:r.Fits:=HF.out r (List.mem_of_getElem? hr);have HFr:=gH hfr;have HN1:=gH (@single_num r (laAt cuts k) day);have HN2:=gH (@single_ord r (laAt cuts k) day);have HN3:=gH (@qMo r (laAt cuts k) day);have HI:=gH (@cutErr_inn r day);have HCk:=gH (fun w'=>qNa r day w' hfr hd9);have HPr:=gH (fun h0=>prev_at (HL.out.ext HXr.out) (k:=k) hk h0);(have HLa0:Hid (k=0→laAt cuts k=0∧ouAt cuts k=0):=fun h=>by subst h;exact ⟨rfl,rfl⟩);clear hr hP hfr;obtain ⟨num,rl,src,inn,out,nn,dd⟩:=r;have HBc:=gH (Blk.new wr 91 (Cut.cells ⟨num,rl,src,inn,out,nn,dd⟩));have HXc:=gH ((Ext.refl wr).alloc (.cells (Cut.cells ⟨num,rl,src,inn,out,nn,dd⟩) 91));unfold Cut.cells at HBc HXc HCk;dsimp only at *;generalize laAt cuts k=la at *;generalize ouAt cuts k=ou at *
      by_cases hn1:num<1
      · go_wp2_with fail
        go_ret;exact ⟨qAa (by rw [h5.out 2 HV.out HT.out HO.out H64.out (by rw [HS.out.1 (by rw [HN1.out (.inl hn1)];decide),HN1.out (.inl hn1)]) (by decide)]),HXr.out.trans HXc.out⟩
      by_cases hn2:999<num
      · go_wp2_with fail
        go_ret;exact ⟨qAa (by rw [h5.out 2 HV.out HT.out HO.out H64.out (by rw [HS.out.1 (by rw [HN1.out (.inr hn2)];decide),HN1.out (.inr hn2)]) (by decide)]),HXr.out.trans HXc.out⟩
      have HNN:Hid (¬ (num<1∨999<num)):=by show ¬ _;omega
      by_cases hk0:k=0
      · obtain ⟨rfl,rfl⟩:=HLa0.out hk0
        subst hk0;simp only [Nat.zero_mul,Nat.add_zero] at c0 c1 c2 c3 c4 c5 c6;(have HOr:Hid (¬ num≤0):=by show ¬ _;omega);go_wp2_with fail;go_quiet (fail);go_wp2_with (refine qAc rfl 91 (.tmp 5) rfl _ 91 _ _ (by exact rfl) (by exact HBc.out.ext ((Ext.refl _).drewN _)) Tryz.underlying91 rfl (by exact qCk) ?_);refine (HCk.out _).mono ?_;rintro en w5 ⟨rfl,hx5⟩;have HX5:=gH ((HXc.out.drewN _).trans hx5);have HB5:=gH ((HBc.out.ext ((Ext.refl _).drewN _)).ext hx5);(have hcell5:=fun o=>HB5.out.cell o);have HSg:=gH (HN3.out HNN.out HOr.out)
        by_cases hce:qCc ⟨num,rl,src,inn,out,nn,dd⟩ day=0
        · have HI0:=HI.out hce
          have HG:=gH (HS.out.2.2 (HSg.out.trans hce) (by omega));rw [hce];go_wp2_with fail;go_quiet (fail);go_wp2_with fail;exact ⟨⟨1,by omega,by go_num,hx.trans (HX5.out.drewN _),HG.out⟩,by simp [intOf];omega⟩
        · have hne:(qCc ⟨num,rl,src,inn,out,nn,dd⟩ day != 0)=true:=by simpa using hce
          have HC:=gH hce;have HG:=gH (HS.out.1 (by rw [HSg.out];exact hce));clear hce;go_wp2_with fail;go_ret;exact ⟨qAa (by rw [h5.out _ HV.out HT.out HO.out H64.out HG.out (by rw [HSg.out];exact HC.out),HSg.out]),HXr.out.trans HX5.out⟩
      · obtain ⟨b',off',hA,p0,p4⟩:=HPr.out (by omega)
        cases hA
        (have hki:(0:Int)<(k:Int):=by omega);(have hkp:0<k:=by omega);(have hcc:=fun o=>HBc.out.cell o);(have hcl:=fun o=>(HBr.out.ext HXc.out).cell o);have pp0:=HXc.out.cell p0;(have hk1:((k:Int)-1).toNat=k-1:=by omega);(have hk2:(k:Int)-1=((k-1:Nat):Int):=by omega)
        by_cases hor:num≤la
        · go_wp2_with fail
          go_quiet (fail);go_wp2_with fail;go_ret;exact ⟨qAa (by rw [h5.out 8 HV.out HT.out HO.out H64.out (by rw [HS.out.1 (by rw [HN2.out HNN.out hor];decide),HN2.out HNN.out hor]) (by decide)]),(HXr.out.trans HXc.out).drewN _⟩
        · go_wp2_with fail
          go_quiet (fail);go_wp2_with (refine qAc rfl 91 (.tmp 5) rfl _ 91 _ _ (by exact rfl) (by exact HBc.out.ext ((Ext.refl _).drewN _)) Tryz.underlying91 rfl (by exact qCk) ?_);refine (HCk.out _).mono ?_;rintro en w5 ⟨rfl,hx5⟩;have HX5:=gH ((HXc.out.drewN _).trans hx5);have HB5:=gH ((HBc.out.ext ((Ext.refl _).drewN _)).ext hx5);have HBl:=gH (HBr.out.ext HX5.out);(have hcell5:=fun o=>HB5.out.cell o);(have hcelll:=fun o=>HBl.out.cell o);have q0:=HX5.out.cell p0;have q4:=HX5.out.cell p4;have HSg:=gH (HN3.out HNN.out hor);clear p0 p4 hcellr hcc hcl pp0
          by_cases hce:qCc ⟨num,rl,src,inn,out,nn,dd⟩ day=0
          · rw [hce]
            by_cases hov:inn<ou
            · have HG:=gH (HS.out.2.1 (HSg.out.trans hce) hov)
              go_wp2_with fail;go_quiet (fail);go_wp2_with fail;go_ret;exact ⟨qAa (by rw [h5.out 14 HV.out HT.out HO.out H64.out HG.out (by decide)]),(HXr.out.trans HX5.out).drewN _⟩
            · have HG:=gH (HS.out.2.2 (HSg.out.trans hce) (by omega))
              go_wp2_with fail;go_quiet (fail);go_wp2_with fail;exact ⟨⟨k+1,by omega,by go_num,hx.trans (HX5.out.drewN _),HG.out⟩,by simp [intOf];omega⟩
          · have hne:(qCc ⟨num,rl,src,inn,out,nn,dd⟩ day != 0)=true:=by simpa using hce
            have HC:=gH hce;have HG:=gH (HS.out.1 (by rw [HSg.out];exact hce));clear hce;go_wp2_with fail;go_ret;exact ⟨qAa (by rw [h5.out _ HV.out HT.out HO.out H64.out HG.out (by rw [HSg.out];exact HC.out),HSg.out]),HXr.out.trans HX5.out⟩
    · have hkn:k=n:=by omega
      subst hkn
      have HZ:Hid (qBk day 0 0 cuts=0):=by
       show _=_
       rw [hP,List.drop_eq_nil_of_le (by have:=HLn.out;omega)];rfl
      clear hP;go_wp2_with (refine qAc rfl 28 (.tmp 1) rfl _ 28 _ _ (by exact rfl) (by exact HBr.out) Tryz.underlying28 rfl (by exact qBy) ?_);refine (HRE.out _ HXr.out).mono ?_;rintro en w5 ⟨A5,m,c5,rfl,hm,hx5⟩;have HM:=gH hm;clear hm
      by_cases h16:16<m
      · have h16':(16:Int)<(m:Int):=by omega
        go_wp2_with fail;go_ret;exact ⟨qAa (by rw [h6.out HV.out HT.out HO.out H64.out HZ.out (by rw [← HM.out];exact h16)]),HXr.out.trans hx5⟩
      · have h16':¬ (16:Int)<(m:Int):=by omega
        go_wp2_with fail;go_ret;exact ⟨qAa (by rw [h7.out HV.out HT.out HO.out H64.out HZ.out (by rw [← HM.out];exact h16)]),HXr.out.trans hx5⟩
end
section
open Go.RowKit
theorem Repertoire_any (w:World):Calls Tryz.prog 211 #[] w fun e w'=>e = .returned (.string qHo)∧w=w':=by
 go_enter Tryz.func211,Tryz.ntmps211;go_wp2;go_ret;exact ⟨rfl,rfl⟩
set_option maxHeartbeats 1000000 in
theorem RIndex_any (r:Int) (w:World):Calls Tryz.prog 154 #[.int .i32 r] w fun e w'=>e = .returned (.int .i64 (idx r))∧Ext w w':=by
 by_cases h1:32≤r∧r≤126
 · obtain ⟨h1,h2⟩:=h1
   go_enter Tryz.func154,Tryz.ntmps154;go_wp2_with fail;go_ret;exact ⟨qAa (by unfold idx;rw [if_pos ⟨h1,h2⟩]),Ext.refl _⟩
 · have HF:Hid (idx r=qJi r (qGv qHo 0) 0):=by show _=_;unfold idx;rw [if_neg h1]
   (have hs9:qHo.size≤9223372036854775807:=by decide);(have hg:¬ 32≤r∨(32≤r∧¬ r≤126):=by omega);generalize hs:qHo=s at *
   rcases hg with hg | ⟨hg,hg2⟩
   all_goals
    clear h1;go_enter Tryz.func154,Tryz.ntmps154;go_wp2_with fail;refine (Repertoire_any w).mono ?_;rintro e w1 ⟨rfl,rfl⟩;rw [hs];go_wp2_with fail
    go_loopw [3] (fun n wr=>PlaceRel s r w n wr) (fun _ wr=>s.size-wr.iterPos w.heap.size)
    case atStart=>exact ⟨0,0,Nat.le_refl _,rfl,rfl,rfl⟩
    case round =>
     obtain ⟨pos,k,hk,rfl,rfl,hp⟩:=hrel;have HP:=gH hp;clear hp
     by_cases hlt:pos<s.size
     · have hn:=run_next_any (P:=Tryz.prog) w s pos
       have hstep:=gH (qFs s pos hlt);have hw:=qIf s pos hlt;go_wp2
       · go_ret
         (have he:((Utf8.decode s pos).1:Int)=r:=by simpa using ‹((((Utf8.decode s pos).1:Int)) == r)=true›);exact ⟨qAa (by rw [HF.out,HP.out,hstep.out,qJi,if_pos he]),(Ext.refl w).iter s _⟩
       · have he:¬ ((Utf8.decode s pos).1:Int)=r:=by simpa using ‹((((Utf8.decode s pos).1:Int)) == r)=false›
         refine ⟨⟨pos+(Utf8.decode s pos).2,k+1,by omega,by go_num,rfl,?_⟩,by simp;omega⟩;rw [HP.out,hstep.out,qJi,if_neg he];rfl
     · have hn:=run_next_end (P:=Tryz.prog) w s pos
       have hend:=gH (qIi s pos hlt);go_wp2;go_ret;exact ⟨qAa (by rw [HF.out,HP.out,hend.out];rfl),(Ext.refl w).iter s _⟩
theorem bad_runes (s:ByteArray):∀ (f pos:Nat),s.size-pos≤f→Lib.validD (s.data.toList.drop pos)=false→((qGv s pos).all fun r=>decide (0≤idx r))=false
 | f,pos,hf,hv=>by
  by_cases hlt:pos<s.size
  · have hl:s.data.toList.length=s.size:=by simp
    have hne:s.data.toList.drop pos≠[]:=by
     intro h;have:=congrArg List.length h;rw [List.length_drop,hl] at this;simp at this;omega
    rw [Lib.validD_step _ hne,Lib.decodeL_drop,List.drop_drop] at hv;rw [qFs s pos hlt,List.all_cons];have hw:=qIf s pos hlt
    by_cases hc:(Utf8.decode s pos).1=65533∧(Utf8.decode s pos).2=1
    · rw [hc.1]
      (have:decide (0≤idx ((65533:Nat):Int))=false:=by decide +kernel);(rw [this];rfl)
    · rw [if_neg hc] at hv
      match f,hf with
      | 0,hf=>omega
      | f+1,hf=>rw [bad_runes s f (pos+(Utf8.decode s pos).2) (by omega) (by rw [Nat.add_comm] at hv;rw [Nat.add_comm];exact hv),Bool.and_false]
  · have hl:s.data.toList.length=s.size:=by simp
    have:s.data.toList.drop pos=[]:=List.drop_eq_nil_of_le (by omega);rw [this,Lib.validD_nil] at hv
    cases hv
theorem vld_runes (s:ByteArray):vld s=((qGv s 0).all fun r=>decide (0≤idx r)):=by
 unfold vld
 cases hv:Lib.validD s.data.toList
 · rw [bad_runes s s.size 0 (by omega) (by simpa using hv)];rfl
 · rfl
set_option maxHeartbeats 400000 in
theorem qEz (s:ByteArray) (w:World) (hs:s.size≤9223372036854775807) :
 Calls Tryz.prog 95 #[.string s] w fun e w'=>e = .returned (.bool (vld s))∧Ext w w':=by
 have HF:=gH (vld_runes s);have h1:=Ext.refl w;go_enter Tryz.func95,Tryz.ntmps95;go_wp2_with fail
 go_loopw [] (fun wr=>ValidRel s w w.heap.size wr) (fun wr=>s.size-wr.iterPos w.heap.size)
 case atStart=>exact ⟨0,w.iter_heap s 0,h1.iter s 0,rfl⟩
 case round =>
  obtain ⟨pos,hk,hx,hp⟩:=hrel;have HP:=gH hp;have HK:=gH hk;clear hp
  by_cases hlt:pos<s.size
  · have hn:=fun ty=>Lib.run_next_any_at (P:=Tryz.prog) wr _ s pos ty hk hlt
    have hstep:=gH (qFs s pos hlt);have hw:=qIf s pos hlt;have hk2:=gH (Lib.iterAt_heap wr _ s pos (pos+(Utf8.decode s pos).2) hk);clear hk;go_wp2_with fail;refine (RIndex_any _ _).mono ?_;rintro e w2 ⟨rfl,h2⟩;have hx2:Ext w w2:=(hx.iterAt h1.size s _).trans h2;have hk3:=gH (h2.obj hk2.out)
    by_cases hi:idx ((Utf8.decode s pos).1:Int)<0
    · go_wp2_with fail
      go_ret;exact ⟨by rw [HF.out,HP.out,hstep.out,List.all_cons,decide_eq_false (by omega)];rfl,hx2⟩
    · go_wp2_with fail
      refine ⟨⟨_,hk3.out,hx2,?_⟩,?_⟩
      · rw [HP.out,hstep.out,List.all_cons,decide_eq_true (by omega),Bool.true_and]
      · rw [iterPos_of hk3.out,iterPos_of HK.out];omega
  · have hn:=fun ty=>Lib.run_next_end_at (P:=Tryz.prog) wr _ s pos ty hk hlt
    have hend:=gH (qIi s pos hlt);clear hk;go_wp2_with fail;go_ret;exact ⟨by rw [HF.out,HP.out,hend.out];rfl,hx⟩
end
section
open Go.RowKit
theorem qEc (r:Int) (w:World):Calls Tryz.prog 155 #[.int .u8 r] w fun e w'=>e = .returned (.bool (rOk r))∧w=w':=by
 by_cases h1:1≤r
 · by_cases h7:r≤7
   · go_enter Tryz.func155,Tryz.ntmps155
     go_wp2;go_ret;exact ⟨qAg (by unfold rOk;rw [decide_eq_true ⟨h1,h7⟩]),rfl⟩
   · go_enter Tryz.func155,Tryz.ntmps155
     go_wp2;go_ret;exact ⟨qAg (by unfold rOk;rw [decide_eq_false (by omega)]),rfl⟩
 · go_enter Tryz.func155,Tryz.ntmps155
   go_wp2;go_ret;exact ⟨qAg (by unfold rOk;rw [decide_eq_false (by omega)]),rfl⟩
theorem qHm (r:Int) (w:World):Calls Tryz.prog 156 #[.int .u8 r] w fun e w'=>e = .returned (.bool (qFw r))∧w=w':=by
 by_cases h1:r=4
 · subst h1
   go_enter Tryz.func156,Tryz.ntmps156;go_wp2;go_ret;exact ⟨rfl,rfl⟩
 · by_cases h7:r=7
   · subst h7
     go_enter Tryz.func156,Tryz.ntmps156;go_wp2;go_ret;exact ⟨rfl,rfl⟩
   · have e4:(r == 4)=false:=by simpa using h1
     (have e7:(r == 7)=false:=by simpa using h7);go_enter Tryz.func156,Tryz.ntmps156;go_wp2;go_ret;exact ⟨qAg (by unfold qFw;rw [decide_eq_false (by omega)]),rfl⟩
set_option maxHeartbeats 2000000 in
theorem qLj (r:Int) (w:World) (h0:0≤r) (h1:r≤255):Calls Tryz.prog 157 #[.int .u8 r] w fun e w'=>e = .returned (.int .i64 (rNom r))∧Ext w w':=by
 rcases rate_cases h0 with (rfl | rfl | rfl | rfl | rfl | rfl | rfl | rfl) | h8
 case inr =>
  have HO:Hid (rOk r=false):=by show _=_;unfold rOk;rw [decide_eq_false (by omega)]
  have HN:Hid (rNom r=0):=by
   show _=_
   unfold rNom;simp only [show ¬ r=1 by omega,show ¬ r=2 by omega,show ¬ r=3 by omega,show ¬ r=4 by omega,show ¬ r=5 by omega,show ¬ r=6 by omega,show ¬ r=7 by omega,if_false]
  go_enter Tryz.func157,Tryz.ntmps157;go_wp2_with fail;refine (qEc r _).mono ?_;rintro e w1 ⟨rfl,rfl⟩;rw [HO.out];go_wp2_with fail;go_ret;exact ⟨qAa HN.out.symm,Ext.refl _⟩
 all_goals
  go_enter Tryz.func157,Tryz.ntmps157;go_wp2_with fail;refine (qEc _ _).mono ?_;rintro e w1 ⟨rfl,rfl⟩
  first | rw [show rOk 0=false from rfl] | rw [show rOk _=true from rfl]
  go_wp2_with fail;go_ret
  first | exact ⟨rfl,Ext.refl _⟩ | exact ⟨rfl,(Ext.refl _).alloc _⟩
theorem R3Dropped_any (r:Int) (w:World):Calls Tryz.prog 158 #[.int .u8 r] w fun e w'=>e = .returned (.int .i64 (qMm r true))∧w=w':=by
 by_cases h:r=7
 · subst h
   go_enter Tryz.func158,Tryz.ntmps158;go_wp2;go_ret;exact ⟨rfl,rfl⟩
 · have h':(r == 7)=false:=by simpa using h
   (have HF:Hid (qMm r true=2):=by show _=_;unfold qMm;rw [if_pos rfl,if_neg h]);go_enter Tryz.func158,Tryz.ntmps158;go_wp2;go_ret;exact ⟨qAa HF.out.symm,rfl⟩
set_option maxHeartbeats 1000000 in
theorem R3Day_any (r:Int) (d:Bool) (w:World) (h0:0≤r) (h1:r≤255):Calls Tryz.prog 96 #[.int .u8 r,.bool d] w fun e w'=>e = .returned (.int .i64 (qEv r d))∧Ext w w':=by
 have hn:=rNom_bd r;have hdb:=qKe r true;have HN:Hid (qAr r d=(rOk r && (!d || qFw r))):=rfl;(have HD:Hid (∀ b,qAr r d=b→qEv r d=if b then 86400*rNom r-1296*qMm r d else 0):=fun b hb=>by unfold qEv;rw [hb])
 cases ho:rOk r
 · have HO:=gH ho
   clear ho;go_enter Tryz.func96,Tryz.ntmps96;go_wp2_with fail;refine (qEc r _).mono ?_;rintro e w1 ⟨rfl,rfl⟩;rw [HO.out];go_wp2_with fail;go_ret;exact ⟨qAa (by rw [HD.out false (by rw [HN.out,HO.out];rfl)];rfl),Ext.refl _⟩
 · have HO:=gH ho
   clear ho
   cases d
   · go_enter Tryz.func96,Tryz.ntmps96
     go_wp2_with fail;refine (qEc r _).mono ?_;rintro e w1 ⟨rfl,rfl⟩;rw [HO.out];go_wp2_with fail;refine (qLj r _ h0 h1).mono ?_;rintro e w2 ⟨rfl,hx2⟩;go_wp2_with fail;go_ret;exact ⟨qAa (by rw [HD.out true (by rw [HN.out,HO.out];rfl)];simp [qMm]),hx2⟩
   · go_enter Tryz.func96,Tryz.ntmps96
     go_wp2_with fail;refine (qEc r _).mono ?_;rintro e w1 ⟨rfl,rfl⟩;rw [HO.out];go_wp2_with fail;refine (qHm r _).mono ?_;rintro e w2 ⟨rfl,rfl⟩
     cases hd:qFw r
     · have HDr:=gH hd
       clear hd;go_wp2_with fail;go_ret;exact ⟨qAa (by rw [HD.out false (by rw [HN.out,HO.out,HDr.out];rfl)];rfl),Ext.refl _⟩
     · have HDr:=gH hd
       clear hd;go_wp2_with fail;refine (qLj r _ h0 h1).mono ?_;rintro e w3 ⟨rfl,hx3⟩;go_wp2_with fail;refine (R3Dropped_any r _).mono ?_;rintro e w4 ⟨rfl,rfl⟩;go_wp2_with fail;go_ret;exact ⟨qAa (by rw [HD.out true (by rw [HN.out,HO.out,HDr.out];rfl),if_pos rfl];omega),hx3⟩
end
section
open Go.RowKit Go.Shelf Go.Sort
def strF (s:ByteArray):List Value:=[.string s]
def bsL (os:List ByteArray):List Bs:=os.map (·.data.toList)
def RReelsRel (w w0:World) (n:Nat) (l:List Cut) (v i:Value) (wr:World):Prop :=
 ∃ (k:Nat) (os:List ByteArray),k≤n∧i = .int .i64 k∧Ext w0 wr∧Ext w wr∧os.length≤k∧wr.ownsRow w0.heap.size 9 1 v os.length (os.flatMap strF)∧(bsL os).Pairwise (· < ·)∧∀ x,x∈bsL os↔x∈(l.take k).map fun c=>c.reel.data.toList
def RInRel (w2:World) (os:List ByteArray) (x:ByteArray) (v:Value) (wr:World):Prop :=
 ∃ j:Nat,j≤os.length∧v = .int .i64 j∧Ext w2 wr∧w2.heap.size=wr.heap.size∧∀ i y,i<j→(bsL os)[i]?=some y→y<x.data.toList
theorem bsL_at {os:List ByteArray} {j:Nat} {y:Bs} (h:(bsL os)[j]?=some y):∃ x,os[j]?=some x∧x.data.toList=y:=by
 unfold bsL at h;rw [List.getElem?_map] at h
 cases hx:os[j]? with
 | none=>rw [hx] at h;cases h
 | some x=>rw [hx] at h;exact ⟨x,rfl,Option.some.inj h⟩
theorem rins {w w0 w7:World} {n k j:Nat} {l:List Cut} {os:List ByteArray} {r:Cut} {v7:Value} (hlt:k<n) (hol:os.length≤k) (hj:j≤os.length) (hx:Ext w0 w7) (hxw:Ext w w7)
 (hown:w7.ownsRow w0.heap.size 9 1 v7 (0+j+1+(os.length-j)) ([]++(os.take j).flatMap strF++[Value.string r.reel]++(os.drop j).flatMap strF)) (hpw:(bsL os).Pairwise (· < ·)) (hmem:∀ x,x∈bsL os↔x∈(l.take k).map fun c=>c.reel.data.toList)
 (hT:l.take (k+1)=l.take k++[r]) (hlo:∀ i y,i<j→(bsL os)[i]?=some y→y<r.reel.data.toList) (hhi:∀ y,(bsL os)[j]?=some y→¬ y<r.reel.data.toList∧y≠r.reel.data.toList) :
 RReelsRel w w0 n l v7 (.int .i64 ((k:Int)+1)) w7:=by
 (have e1:bsL (os.take j++[r.reel]++os.drop j)=(bsL os).take j++[r.reel.data.toList]++(bsL os).drop j:=by simp [bsL,List.map_take,List.map_drop]);(have hlen:(bsL os).length=os.length:=by simp [bsL]);obtain ⟨h1,h2⟩:=ins_at (x:=r.reel.data.toList) hpw (by rw [hlen];exact hj) hlo hhi;(have hl7:(os.take j++[r.reel]++os.drop j).length=0+j+1+(os.length-j):=by simp;omega);refine ⟨k+1,os.take j++[r.reel]++os.drop j,by omega,by simp,hx,hxw,by rw [hl7];omega,?_,by rw [e1];exact h1,fun x=>?_⟩
 · rw [hl7,List.flatMap_append,List.flatMap_append]
   exact hown
 · rw [e1,h2,hmem,hT,List.map_append,List.mem_append]
   simp
theorem rskip {w w0 w7:World} {n k j:Nat} {l:List Cut} {os:List ByteArray} {r:Cut} {v:Value} (hlt:k<n) (hol:os.length≤k) (hx:Ext w0 w7) (hxw:Ext w w7)
 (hown:w7.ownsRow w0.heap.size 9 1 v os.length (os.flatMap strF)) (hpw:(bsL os).Pairwise (· < ·)) (hmem:∀ x,x∈bsL os↔x∈(l.take k).map fun c=>c.reel.data.toList)
 (hT:l.take (k+1)=l.take k++[r]) (hin:os[j]?=some r.reel):RReelsRel w w0 n l v (.int .i64 ((k:Int)+1)) w7:=by
 refine ⟨k+1,os,by omega,by simp,hx,hxw,by omega,hown,hpw,fun x=>?_⟩;rw [hmem,hT,List.map_append,List.mem_append];have hm:r.reel.data.toList∈bsL os:=List.mem_map.2 ⟨_,List.mem_of_getElem? hin,rfl⟩;rw [hmem] at hm
 constructor
 · exact .inl
 · rintro (h | h)
   · exact h
   · simp only [List.map_cons,List.map_nil,List.mem_singleton] at h
     rw [h];exact hm
set_option maxHeartbeats 2000000 in
theorem RReels_any (e:Edl) (A:Option Addr) (n c:Nat) (w:World) (hl:qBd w A n e.cuts) (hn:n≤1000000) :
 Calls Tryz.prog 98 #[.agg (e.cells A n c)] w (ReelsPost e w):=by
 have HL:=gH hl;have HLn:=gH hl.len;clear hl;unfold Edl.cells;have HX0:=gH ((Ext.refl w).alloc (.cells #[.string e.title,.int .u8 e.rate,.bool e.drop,.slice A n c] 25));go_enter Tryz.func98,Tryz.ntmps98;go_wp2_with fail
 go_loopw [3,11] (fun v i wr=>RReelsRel w (w.alloc (.cells #[.string e.title,.int .u8 e.rate,.bool e.drop,.slice A n c] 25)) n e.cuts v i wr) (fun _ i _=>n-(intOf i).toNat)
 case atStart=>exact ⟨0,[],Nat.zero_le _,rfl,Ext.refl _,HX0.out,Nat.le_refl _,⟨rfl,.inl ⟨rfl,rfl⟩⟩,by simp [bsL],fun x=>by simp [bsL]⟩
 case round =>
  obtain ⟨k,os,hk,rfl,hx,hxw,hol,hown,hpw,hmem⟩:=hrel;obtain ⟨wo,hwo⟩:∃ wo,wo=wr:=⟨wr,rfl⟩;subst hwo;have HPw:=gH hpw;have HMem:=gH hmem;clear hpw hmem
  by_cases hlt:k<n
  · obtain ⟨b,off,r,rfl,hr,c0,c1,c2,c3,c4,c5,c6⟩:=(HL.out.ext hxw).at7 hlt
    have HT:=gH (take_snoc' e.cuts k r hr);have HO0:=gH hown;have hsz:=hx.size;simp only [World.size_alloc] at hsz;have HB1:=gH (Blk.new wo 91 r.cells);have hx1:=(Ext.refl wo).alloc (.cells r.cells 91);unfold Cut.cells at HB1 hx1;have HX1:=gH hx1;clear hr hown hx1;obtain ⟨num,rl,src,inn,out,nn,dd⟩:=r;dsimp only at *;obtain ⟨A',cap',rfl,hcap,hcm,hS,hfr⟩:=qBg (f:=strF) (size:=1) (fun _=>rfl) rfl HO0.out;have HS:=gH hS;clear hS;go_wp2_with fail
    go_loopw [6] (fun kv wr2=>RInRel (wo.alloc (.cells #[.int .i64 num,.string rl,.int .i64 src,.int .i64 inn,.int .i64 out,.int .i64 nn,.int .i64 dd] 91)) os rl kv wr2) (fun kv _=>os.length-(intOf kv).toNat)
    case atStart=>exact ⟨0,Nat.zero_le _,rfl,Ext.refl _,rfl,fun i y hi=>absurd hi (by omega)⟩
    case round =>
     obtain ⟨j,hj,rfl,hx2,hs2,hlo⟩:=hrel;have HLo:=gH hlo;clear hlo;have HX2:=gH (HX1.out.trans hx2);(have hcr:=fun o=>(HB1.out.ext hx2).cell o)
     by_cases hjl:j<os.length
     · obtain ⟨b2,off2,x,hA,hxj,hC⟩:=(Sl.ext (Cells.stays _) HS.out HX2.out).at_ hjl
       subst hA;have hcx:=hC 0 _ rfl;simp only [Nat.mul_one,Nat.add_zero] at hcx;(have hji:(j:Int)<(os.length:Int):=by omega);go_wp2_with fail;go_quiet (fail);go_wp2_with fail
       · have hless:x.data.toList<rl.data.toList:=by
          have h:=‹Op.bytesLess x.toList rl.toList=true›;rw [bytesLess_eq,ByteArray.toList_eq,ByteArray.toList_eq] at h;exact of_decide_eq_true h
         refine ⟨⟨j+1,by omega,by go_num,hx2.drewN _,hs2,fun i y hi hy=>?_⟩,by simp [intOf];omega⟩
         by_cases hij:i=j
         · subst hij
           (have:(bsL os)[i]?=some x.data.toList:=by unfold bsL;rw [List.getElem?_map,hxj];rfl);rw [this] at hy
           cases hy
           exact hless
         · exact HLo.out i y (by omega) hy
       · have hge:¬ x.data.toList<rl.data.toList:=by
          have h:=‹Op.bytesLess x.toList rl.toList=false›;rw [bytesLess_eq,ByteArray.toList_eq,ByteArray.toList_eq] at h;exact of_decide_eq_false h
         have HGe:=gH hge;clear hge
         by_cases he:x=rl
         · have he':(x.toList == rl.toList)=true:=by subst he;simp
           subst he;go_quiet (fail);go_wp2_with fail;exact ⟨rskip (r:=⟨num,x,src,inn,out,nn,dd⟩) hlt hol (hx.trans (HX2.out.drewN _)) (hxw.trans (HX2.out.drewN _)) (qAh HO0.out (HX2.out.drewN _)) HPw.out HMem.out HT.out hxj,by simp [intOf];omega⟩
         · have he':(x.toList == rl.toList)=false:=by
            simp only [beq_eq_false_iff_ne];intro h;rw [ByteArray.toList_eq,ByteArray.toList_eq] at h;exact he (by cases x;cases rl;simp_all [Array.toList_inj])
           have HNe:=gH he;clear he;go_quiet (fail);go_upto_region 9 with fail;refine qBs ?_;intro w4 hx4 hs4;have hx4:Ext wr w4:=Ext.trans ((Ext.refl wr).drewN _) hx4;have HX4:=gH (HX2.out.trans hx4);have HB4:=gH ((HB1.out.ext hx2).ext hx4);(have hcr4:=fun o=>HB4.out.cell o);have HS4:=Sl.ext (Cells.stays _) HS.out HX4.out;have HT1:=gH (HS4.take hj);have HT2:=HS4.drop j;simp only [Nat.mul_one] at HT2;have HT2:=gH HT2;have hb4:=(hx.trans HX4.out).size;clear HS4 hcr hx4 hs4
           go_wp2_with (first | (at_builtin;refine qAl rfl (.tmp 43) (.tmp 46) 130 rfl qFc Tryz.underlying130 rfl (by decide) (by exact own_nil0' (base:=w4.heap.size) rfl (Nat.le_refl _)) (by exact rfl) (by exact rfl) (by exact Sl.ext (Cells.stays _) HT1.out ((Ext.refl w4).alloc _)) (fun _=>rfl) (by intro s u hu;simp [strF] at hu;subst hu;rfl) (by omega) (by simp [maxLen]<;>omega) (by first | omega | (simp;omega) | simp) ?_;intro v1 w5 hown1 hgr1 hnil1;have hx5:Ext w4 w5:=Ext.grown ((Ext.refl w4).alloc _) hgr1 (fun q hq=>by simp [Value.ownBlock] at hq;omega);have hs5:=hx5.size;have hcr5:=fun o=>(HB4.out.ext hx5).cell o;have HO1:=gH hown1;clear hown1 hgr1 hcr4) | (at_builtin;refine qAf rfl (.tmp 48) (.tmp 51) 130 rfl qFc Tryz.underlying130 rfl (by decide) (HO1.out.alloc _) (by exact rfl) w5.heap.size _ (by exact rfl) (by exact Blk.new' rfl) (by exact rfl) (by simp [Value.oneCell']) (by omega) (by simp [maxLen]<;>omega) (by first | omega | (simp;omega) | simp) ?_;intro v2 w6 hown2 hgr2;have hx6:Ext w4 w6:=Ext.grown (hx5.alloc _) hgr2 (fun q hq=>by have:=qAp HO1.out q hq;omega);have hs6:=hx6.size;have HO2:=gH hown2;clear hown2 hgr2) | (at_builtin;refine qAl rfl (.tmp 53) (.tmp 56) 130 rfl qFc Tryz.underlying130 rfl (by decide) (by exact HO2.out) (by exact rfl) (by exact rfl) (by exact Sl.ext (Cells.stays _) HT2.out hx6) (fun _=>rfl) (by intro s u hu;simp [strF] at hu;subst hu;rfl) (by omega) (by simp [maxLen]<;>omega) (by first | omega | (simp;omega) | simp) ?_;intro v3 w7 hown3 hgr3 hnil3;have hx7:Ext w4 w7:=Ext.grown hx6 hgr3 (fun q hq=>by have:=qAp HO2.out q hq;omega);have HO3:=gH hown3;clear hown3 hgr3))
           exact ⟨rins (r:=⟨num,rl,src,inn,out,nn,dd⟩) hlt hol hj (hx.trans (HX4.out.trans hx7)) (hxw.trans (HX4.out.trans hx7)) (own_le' HO3.out hb4) HPw.out HMem.out HT.out HLo.out (fun y hy=>by
            obtain ⟨x',hx',rfl⟩:=bsL_at hy;rw [hxj] at hx'
            cases hx'
            exact ⟨HGe.out,fun h=>HNe.out (by cases x;cases rl;simp_all [Array.toList_inj])⟩),by simp [intOf];omega⟩
     · have hji:decide ((j:Int)<(os.length:Int))=false:=by simp;omega
       rcases HO0.out.2 with ⟨h0,h00⟩ | ⟨g,cap,cur,h0,_⟩
       · injection h0 with e1 e2 e3
         subst e1 e3;obtain rfl:os=[]:=List.eq_nil_of_length_eq_zero h00;(obtain rfl:j=0:=by simpa using hj);clear h00 e2 hji hjl;simp only [List.length_nil] at *;go_wp2_with fail;go_quiet (fail);go_wp2_with fail;go_quiet (fail);go_upto_region 9 with fail;refine qBs ?_;intro w4 hx4 hs4;have hx4:Ext wr w4:=Ext.trans ((Ext.refl wr).drewN _) hx4;have HX4:=gH (HX2.out.trans hx4);have HB4:=gH ((HB1.out.ext hx2).ext hx4);(have hcr4:=fun o=>HB4.out.cell o);have HT1:=gH (Sl.nil:Sl w4 1 (Cells strF) none 0 []);have HT2:=HT1;have hb4:=(hx.trans HX4.out).size;clear hcr hx4 hs4
         go_wp2_with (first | (at_builtin;refine qAl rfl (.tmp 43) (.tmp 46) 130 rfl qFc Tryz.underlying130 rfl (by decide) (by exact own_nil0' (base:=w4.heap.size) rfl (Nat.le_refl _)) (by exact rfl) (by exact rfl) (by exact Sl.ext (Cells.stays _) HT1.out ((Ext.refl w4).alloc _)) (fun _=>rfl) (by intro s u hu;simp [strF] at hu;subst hu;rfl) (by omega) (by simp [maxLen]<;>omega) (by first | omega | (simp;omega) | simp) ?_;intro v1 w5 hown1 hgr1 hnil1;have hx5:Ext w4 w5:=Ext.grown ((Ext.refl w4).alloc _) hgr1 (fun q hq=>by simp [Value.ownBlock] at hq;omega);have hs5:=hx5.size;have hcr5:=fun o=>(HB4.out.ext hx5).cell o;have HO1:=gH hown1;clear hown1 hgr1 hcr4) | (at_builtin;refine qAf rfl (.tmp 48) (.tmp 51) 130 rfl qFc Tryz.underlying130 rfl (by decide) (HO1.out.alloc _) (by exact rfl) w5.heap.size _ (by exact rfl) (by exact Blk.new' rfl) (by exact rfl) (by simp [Value.oneCell']) (by omega) (by simp [maxLen]<;>omega) (by first | omega | (simp;omega) | simp) ?_;intro v2 w6 hown2 hgr2;have hx6:Ext w4 w6:=Ext.grown (hx5.alloc _) hgr2 (fun q hq=>by have:=qAp HO1.out q hq;omega);have hs6:=hx6.size;have HO2:=gH hown2;clear hown2 hgr2) | (at_builtin;refine qAl rfl (.tmp 53) (.tmp 56) 130 rfl qFc Tryz.underlying130 rfl (by decide) (by exact HO2.out) (by exact rfl) (by exact rfl) (by exact Sl.ext (Cells.stays _) HT2.out hx6) (fun _=>rfl) (by intro s u hu;simp [strF] at hu;subst hu;rfl) (by omega) (by simp [maxLen]<;>omega) (by first | omega | (simp;omega) | simp) ?_;intro v3 w7 hown3 hgr3 hnil3;have hx7:Ext w4 w7:=Ext.grown hx6 hgr3 (fun q hq=>by have:=qAp HO2.out q hq;omega);have HO3:=gH hown3;clear hown3 hgr3))
         exact ⟨rins (os:=[]) (j:=0) (r:=⟨num,rl,src,inn,out,nn,dd⟩) hlt hol hj (hx.trans (HX4.out.trans hx7)) (hxw.trans (HX4.out.trans hx7)) (own_le' HO3.out hb4) HPw.out HMem.out HT.out HLo.out (fun y hy=>by
          simp [bsL] at hy),by simp [intOf];omega⟩
       · injection h0 with e1 e2 e3
         subst e1 e3;go_wp2_with fail;go_quiet (fail);go_wp2_with fail;go_quiet (fail);go_upto_region 9 with fail;refine qBs ?_;intro w4 hx4 hs4;have hx4:Ext wr w4:=Ext.trans ((Ext.refl wr).drewN _) hx4;have HX4:=gH (HX2.out.trans hx4);have HB4:=gH ((HB1.out.ext hx2).ext hx4);(have hcr4:=fun o=>HB4.out.cell o);have HS4:=Sl.ext (Cells.stays _) HS.out HX4.out;have HT1:=gH (HS4.take hj);(have HT2:Hid (∀ A,Sl w4 1 (Cells strF) A (os.length-j) (os.drop j)):=fun A=>⟨by simp,fun h=>absurd h (by omega)⟩);have hb4:=(hx.trans HX4.out).size;clear HS4 hcr hx4 hs4
         go_wp2_with (first | (at_builtin;refine qAl rfl (.tmp 43) (.tmp 46) 130 rfl qFc Tryz.underlying130 rfl (by decide) (by exact own_nil0' (base:=w4.heap.size) rfl (Nat.le_refl _)) (by exact rfl) (by exact rfl) (by exact Sl.ext (Cells.stays _) HT1.out ((Ext.refl w4).alloc _)) (fun _=>rfl) (by intro s u hu;simp [strF] at hu;subst hu;rfl) (by omega) (by simp [maxLen]<;>omega) (by first | omega | (simp;omega) | simp) ?_;intro v1 w5 hown1 hgr1 hnil1;have hx5:Ext w4 w5:=Ext.grown ((Ext.refl w4).alloc _) hgr1 (fun q hq=>by simp [Value.ownBlock] at hq;omega);have hs5:=hx5.size;have hcr5:=fun o=>(HB4.out.ext hx5).cell o;have HO1:=gH hown1;clear hown1 hgr1 hcr4) | (at_builtin;refine qAf rfl (.tmp 48) (.tmp 51) 130 rfl qFc Tryz.underlying130 rfl (by decide) (HO1.out.alloc _) (by exact rfl) w5.heap.size _ (by exact rfl) (by exact Blk.new' rfl) (by exact rfl) (by simp [Value.oneCell']) (by omega) (by simp [maxLen]<;>omega) (by first | omega | (simp;omega) | simp) ?_;intro v2 w6 hown2 hgr2;have hx6:Ext w4 w6:=Ext.grown (hx5.alloc _) hgr2 (fun q hq=>by have:=qAp HO1.out q hq;omega);have hs6:=hx6.size;have HO2:=gH hown2;clear hown2 hgr2) | (at_builtin;refine qAl rfl (.tmp 53) (.tmp 56) 130 rfl qFc Tryz.underlying130 rfl (by decide) (by exact HO2.out) (by exact rfl) (by exact rfl) (by exact Sl.ext (Cells.stays _) (HT2.out _) hx6) (fun _=>rfl) (by intro s u hu;simp [strF] at hu;subst hu;rfl) (by omega) (by simp [maxLen]<;>omega) (by first | omega | (simp;omega) | simp) ?_;intro v3 w7 hown3 hgr3 hnil3;have hx7:Ext w4 w7:=Ext.grown hx6 hgr3 (fun q hq=>by have:=qAp HO2.out q hq;omega);have HO3:=gH hown3;clear hown3 hgr3))
         all_goals exact ⟨rins (r:=⟨num,rl,src,inn,out,nn,dd⟩) hlt hol hj (hx.trans (HX4.out.trans hx7)) (hxw.trans (HX4.out.trans hx7)) (own_le' HO3.out hb4) HPw.out HMem.out HT.out HLo.out (fun y hy=>by
          obtain ⟨x',hx',rfl⟩:=bsL_at hy;rw [List.getElem?_eq_none (by omega)] at hx'
          cases hx'),by simp [intOf];omega⟩
  · have hkn:k=n:=by omega
    subst hkn;have HTk:Hid (e.cuts.take k=e.cuts):=List.take_of_length_le (by rw [HLn.out];omega);obtain ⟨A',cap',rfl,hcap,hcm,hS,hfr⟩:=qBg (f:=strF) (size:=1) (fun _=>rfl) rfl hown;clear hown hS hfr;go_wp2_with fail;go_ret;refine ⟨_,_,_,rfl,?_,hxw⟩;have:=cnt_eq (ss:=e.names) HPw.out (fun x=>by rw [HMem.out x,HTk.out];rfl);rw [← this];simp [bsL]
end
section
open Go.RowKit
def RCheckRel (w:World) (day:Int) (n:Nat) (l:List Cut) (v4 v5 i:Value) (wr:World):Prop :=
 ∃ k:Nat,k≤n∧i = .int .i64 k∧v4 = .int .i64 (laAt l k)∧v5 = .int .i64 (ouAt l k)∧Ext w wr∧qBk day 0 0 l=qBk day (laAt l k) (ouAt l k) (l.drop k)
theorem lists_step {l:List Cut} {k:Nat} {r:Cut} (hr:l[k]?=some r):laAt l (k+1)=r.num∧ouAt l (k+1)=r.out:=by simp [laAt,ouAt,hr]
theorem qBl:(Tryz.prog.info? 25).map (·.size)=some 4:=by kernel_rfl
set_option maxHeartbeats 4000000 in
theorem qGl (e:Edl) (A:Option Addr) (n c:Nat) (w:World) (hl:qBd w A n e.cuts) (hn:n≤1000000) (hr0:0≤e.rate) (hr1:e.rate≤255) (ht:e.title.size≤140737488351232) (hf:∀ c∈e.cuts,c.Fits) :
 Calls Tryz.prog 42 #[.agg (e.cells A n c)] w fun en w'=>en = .returned (.int .i64 (qAn e))∧Ext w w':=by
 have HL:=gH hl;have HLn:=gH hl.len;have HF:=gH hf;clear hl hf;have h1:=gH (@edl_char e);have h2:=gH (@edl_title e);have h3:=gH (@edl_rate e);have h4:=gH (@edl_many e);have h5:=gH (fun x=>@edl_cuts e x);have h6:=gH (@edl_reels e);have h7:=gH (@edl_ok e);have HRE:=gH (fun w' (hx:Ext w w')=>RReels_any e A n c w' (HL.out.ext hx) hn);obtain ⟨title,rate,drop,cuts⟩:=e;unfold Edl.cells at *;dsimp only at *;have HX0:=gH ((Ext.refl w).alloc (.cells #[.string title,.int .u8 rate,.bool drop,.slice A n c] 25));have HB0:=gH (Blk.new w 25 #[.string title,.int .u8 rate,.bool drop,.slice A n c]);go_enter Tryz.func42,Tryz.ntmps42;go_wp2_with fail;refine (qEz title _ (by omega)).mono ?_;rintro en w1 ⟨rfl,hx1⟩;have HX1:=gH (HX0.out.trans hx1);have HB1:=gH (HB0.out.ext hx1);(have hcell1:=fun o=>HB1.out.cell o)
 cases hv:vld title
 · have HV:=gH hv
   clear hv;go_wp2_with fail;go_ret;exact ⟨qAa (by rw [h1.out HV.out]),HX1.out⟩
 have HV:=gH hv;clear hv h1
 by_cases ht4:400<title.size
 · skip
   go_wp2_with fail;go_ret;exact ⟨qAa (by rw [h2.out HV.out ht4]),HX1.out⟩
 have HT:=gH ht4;clear h2;go_wp2_with fail;refine (R3Day_any rate drop _ hr0 hr1).mono ?_;rintro en w4 ⟨rfl,hx4⟩;have HX4:=gH (HX1.out.trans hx4);have HB4:=gH (HB1.out.ext hx4);(have hcell4:=fun o=>HB4.out.cell o);clear hcell1;have hd9:=qKq rate drop;have HDp:=gH (dayOf_pos rate drop);generalize qEv rate drop=day at *
 cases hok:qAr rate drop
 · have HO:=gH hok
   (have hz:(day == 0)=true:=by rw [HDp.out,hok];rfl);(have hz2:day=0:=by simpa using hz);subst hz2;clear hok hz;go_wp2_with fail;go_ret;exact ⟨qAa (by rw [h3.out HV.out HT.out HO.out]),HX4.out⟩
 have HO:=gH hok;(have hz:(day == 0)=false:=by rw [HDp.out,hok];rfl);(have hz2:¬ day=0:=by simpa using hz);clear hok
 by_cases h64:64<cuts.length
 · have h64':(64:Int)<(n:Int):=by have:=HLn.out;omega
   go_wp2_with fail;go_ret;exact ⟨qAa (by rw [h4.out HV.out HT.out HO.out h64]),HX4.out⟩
 (have h64':¬ (64:Int)<(n:Int):=by have:=HLn.out;omega);have H64:=gH h64;clear h64 h3 h4;go_wp2_with fail
 go_loopw [4,5,31] (fun v4 v5 i wr=>RCheckRel w4 day n cuts v4 v5 i wr) (fun _ _ i _=>n-(intOf i).toNat)
 case atStart=>exact ⟨0,Nat.zero_le _,rfl,rfl,rfl,Ext.refl _,by simp [laAt,ouAt]⟩
 case round =>
  obtain ⟨k,hk,rfl,rfl,rfl,hx,hP⟩:=hrel;have HXr:=gH (HX4.out.trans hx);have HBr:=gH (HB4.out.ext hx);(have hcellr:=fun o=>HBr.out.cell o);clear hcell4
  by_cases hlt:k<n
  · obtain ⟨b,off,r,rfl,hr,c0,c1,c2,c3,c4,c5,c6⟩:=(HL.out.ext HXr.out).at7 hlt
    have HS:=gH (qPc hr hP);have hfr:r.Fits:=HF.out r (List.mem_of_getElem? hr);have HLS:=gH (lists_step hr);have HCk:=gH (fun w'=>single_any r (laAt cuts k) day w' hfr hd9);clear hr hP hfr;obtain ⟨num,rl,src,inn,out,nn,dd⟩:=r;have HBc:=gH (Blk.new wr 91 (Cut.cells ⟨num,rl,src,inn,out,nn,dd⟩));have HXc:=gH ((Ext.refl wr).alloc (.cells (Cut.cells ⟨num,rl,src,inn,out,nn,dd⟩) 91));unfold Cut.cells at HBc HXc HCk;dsimp only at *;generalize laAt cuts k=la at *;generalize ouAt cuts k=ou at *;go_wp2_with (refine qAc rfl 91 (.tmp 7) rfl _ 91 _ _ (by exact rfl) (by exact HBc.out) Tryz.underlying91 rfl (by exact qCk) ?_);refine (HCk.out _).mono ?_;rintro en w5 ⟨rfl,hx5⟩;have HX5:=gH (HXc.out.trans hx5);have HB5:=gH (HBc.out.ext hx5);(have hcell5:=fun o=>HB5.out.cell o)
    by_cases hce:qAw ⟨num,rl,src,inn,out,nn,dd⟩ la day=0
    · rw [hce]
      by_cases hov:inn<ou
      · have HG:=gH (HS.out.2.1 hce hov)
        go_wp2_with fail;go_ret;exact ⟨qAa (by rw [h5.out 14 HV.out HT.out HO.out H64.out HG.out (by decide)]),HXr.out.trans HX5.out⟩
      · have HG:=gH (HS.out.2.2 hce (by omega))
        have HC:=gH hce;clear hce;go_wp2_with fail;go_quiet (fail);go_wp2_with fail;exact ⟨⟨k+1,by omega,by go_num,by rw [HLS.out.1],by rw [HLS.out.2],hx.trans (HX5.out.drewN _),HG.out⟩,by simp [intOf];omega⟩
    · have hne:(qAw ⟨num,rl,src,inn,out,nn,dd⟩ la day != 0)=true:=by simpa using hce
      have HC:=gH hce;have HG:=gH (HS.out.1 hce);clear hce;go_wp2_with fail;go_ret;exact ⟨qAa (by rw [h5.out _ HV.out HT.out HO.out H64.out HG.out HC.out]),HXr.out.trans HX5.out⟩
  · have hkn:k=n:=by omega
    subst hkn
    have HZ:Hid (qBk day 0 0 cuts=0):=by
     show _=_
     rw [hP,List.drop_eq_nil_of_le (by have:=HLn.out;omega)];rfl
    clear hP;go_wp2_with (refine qAc rfl 25 (.tmp 1) rfl _ 25 _ _ (by exact rfl) (by exact HBr.out) Tryz.underlying25 rfl (by exact qBl) ?_);refine (HRE.out _ HXr.out).mono ?_;rintro en w5 ⟨A5,m,c5,rfl,hm,hx5⟩;have HM:=gH hm;clear hm
    by_cases h16:16<m
    · have h16':(16:Int)<(m:Int):=by omega
      go_wp2_with fail;go_ret;exact ⟨qAa (by rw [h6.out HV.out HT.out HO.out H64.out HZ.out (by rw [← HM.out];exact h16)]),HXr.out.trans hx5⟩
    · have h16':¬ (16:Int)<(m:Int):=by omega
      go_wp2_with fail;go_ret;exact ⟨qAa (by rw [h7.out HV.out HT.out HO.out H64.out HZ.out (by rw [← HM.out];exact h16)]),HXr.out.trans hx5⟩
end
section
open Go.RowKit
structure qJr (e:Edl):Prop where
 r0:0≤e.rate
 r1:e.rate≤255
 title:e.title.size≤140737488351232
 fits:∀ c∈e.cuts,c.Fits
end
end Go.Proofs.YtablhmobekmflaaGreatDoor