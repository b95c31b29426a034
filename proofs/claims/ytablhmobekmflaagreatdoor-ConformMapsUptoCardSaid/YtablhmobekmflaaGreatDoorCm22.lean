/- Texts laid together. -/
import Derived.Test.YtablhmobekmflaaGreatDoorCm17
import Derived.Test.YtablhmobekmflaaGreatDoorCm18
import Derived.Test.YtablhmobekmflaaGreatDoorCm21
import Derived.Test.YtablhmobekmflaaGreatDoorCm11
import Derived.Test.YtablhmobekmflaaGreatDoorCm10
import Derived.Shelf.Strings.Builder1
import Derived.Shelf.Strings.Builder2
import Derived.Shelf.Strings.OnBuilder
import Derived.Shelf.Small.Bits
import Derived.Shelf.Strings.BuilderF
import Derived.Shelf.Strings.BuilderK
import Derived.Shelf.Utf8.RuneCount
import Derived.Shelf.Strings.Builder2Cap
import Derived.Shelf.Strconv.Itoa0
import Derived.Shelf.Strconv.Itoa1
import Derived.Shelf.LaysM
import Derived.Shelf.Strconv.Itoa2
import Derived.Shelf.Strconv.Itoa3
import Derived.Shelf.Strconv.Itoa4
import Derived.Shelf.Strings.Search1
import Derived.Shelf.Strings.Search2
import Derived.Shelf.Strings.Search3
import Derived.Shelf.Strings.Shaped
import Derived.Shelf.Sort.Plain
import Derived.Shelf.Strings.RuneCount
import Derived.Shelf.Strings.BuilderCap
import Derived.Shelf.Slices.CompactS
import Derived.Shelf.Slices.Cells
import Derived.Shelf.Slices.In.SortNone
import Derived.Ground.SlgnProg
import Derived.Shelf.SlicesG.Turned
import Derived.Shelf.SlicesG.SearchI
import Derived.Test.YtablhmobekmflaaGreatDoorProg
import Derived.Test.YtablhmobekmflaaGreatDoorCm02
import Derived.Test.YtablhmobekmflaaGreatDoorCm14
import Derived.Test.YtablhmobekmflaaGreatDoorCm16
import Derived.Test.YtablhmobekmflaaGreatDoorCm06
import Derived.Test.YtablhmobekmflaaGreatDoorCm05
import Derived.Lib.Join
import Derived.Test.YtablhmobekmflaaGreatDoorCm15
import Derived.Sort.Walk0
set_option linter.unusedVariables false
set_option linter.unusedSimpArgs false
set_option maxRecDepth 100000
namespace Go.Proofs.YtablhmobekmflaaGreatDoor
section
open Go.RowKit
set_option maxHeartbeats 16000000 in
theorem RConCheck_any (docs:List RDoc) (A:Option Addr) (n c:Nat) (e:Edl) (B:Option Addr) (m d:Nat) (w:World) (hE:Env w) (hl:qCw w A n docs) (he:qBd w B m e.cuts) (hm:m≤1000000) (hok:qJr e) (hn:n≤1000000) (hf:qJb docs) :
 Calls Tryz.prog 25 #[.slice A n c,.agg (e.cells B m d)] w fun en w'=>en = .returned (.int .i64 (qCj docs e))∧Ext w w':=by
 have HL:=gH hl;have HLn:=gH hl.len;have HEnv:=gH hE;have HFit:=gH hf;have HX:=gH ((Ext.refl w).alloc (.cells (e.cells B m d) 25));have HB0:=gH (Blk.new w 25 (e.cells B m d));have HCk:=gH (fun w' (hx:Ext w w')=>qGl e B m d w' (he.ext hx) hm hok.r0 hok.r1 hok.title hok.fits);have HRg:=gH (fun w' (hx:Ext w w') (h16:n≤16) (hr:∀ d∈docs,d.doc.regs.length≤16)=>qMz A n c docs w' (hl.ext hx) h16 hr);have HF:Hid (qCj docs e=if qAn e≠0 then qAn e else if 16<docs.length then 9 else if qDy e.rate e.drop none docs≠0 then qDy e.rate e.drop none docs else regE (allR docs)):=rfl;rw [hl.len] at HF;clear hl he hok hE hf;unfold Edl.cells at *;go_enter Tryz.func25,Tryz.ntmps25;go_wp2_with (refine qAc rfl 25 (.tmp 3) rfl w.heap.size 25 _ _ (by exact rfl) (by exact HB0.out) Tryz.underlying25 rfl (by exact qBl) ?_);refine (HCk.out _ HX.out).mono ?_;rintro en w1 ⟨rfl,hx1⟩;have HX1:=gH (HX.out.trans hx1);have HBl:=gH (HB0.out.ext hx1);clear hx1 HB0 HX HCk
 by_cases hee:qAn e=0
 case neg =>
  (have hne:(qAn e != 0)=true:=by simpa using hee);have HZ:=gH (HF.out.trans (if_pos hee));clear hee;go_wp2_with fail;go_ret;exact ⟨qAa HZ.out.symm,HX1.out⟩
 have HF1:=gH (HF.out.trans (if_neg (by simpa using hee)));rw [hee];clear hee HF
 by_cases h16:16<n
 · have g1:decide ((n:Int) > 16)=true:=by simp;omega
   (have g2:decide ((16:Int)<n)=true:=by simp;omega);have HZ:=gH (HF1.out.trans (if_pos h16));clear h16;go_wp2_with fail;go_ret;exact ⟨qAa HZ.out.symm,HX1.out⟩
 (have g1:decide ((n:Int) > 16)=false:=by simp;omega);(have g2:decide ((16:Int)<n)=false:=by simp;omega);have HF2:=gH (HF1.out.trans (if_neg h16));clear HF1;go_wp2_with fail;clear g1 g2
 go_loopw [21] (fun i wr=>CcRel w1 n e.rate e.drop docs i wr) (fun i _=>n-(intOf i).toNat)
 case atStart=>exact ⟨0,Nat.zero_le _,rfl,Ext.refl _,by simp [qCy]⟩
 case round =>
  obtain ⟨k,hk,rfl,hx,hp⟩:=hrel;have HXr:=gH hx;have HP:=gH hp;clear hx hp
  by_cases hlt:k<n
  · obtain ⟨b,off,x,h,rfl,hxk,hat,hsz,c0,c1,c2,c3,c4,c5,c6,c7,c8⟩:=(HL.out.ext (HX1.out.trans HXr.out)).at9 hlt
    obtain ⟨ra,rn,rc,ea,en,ec,ca,cn,cc⟩:=h;have HS:=gH (rd_step hxk HP.out);have hmem:=List.mem_of_getElem? hxk;have HNm:=gH (fun w'=>qBt x.reel w' (HFit.out.reel x hmem));have hr1:=hsz.r;have hr2:=hsz.e;have hr3:=hsz.c;dsimp only at hr1 hr2 hr3;have HDc:=gH (fun w' (hx:Ext wr w')=>R12Check_any x.doc ⟨ra,rn,rc,ea,en,ec,ca,cn,cc⟩ w' (HEnv.out.ext ((HX1.out.trans HXr.out).trans hx)) (hat.ext hx) (HFit.out.doc x hmem) (by dsimp only;omega) (by dsimp only;omega) (by dsimp only;omega))
    have HPr:Hid (∀ j,k=j+1→∃ y,docs[j]?=some y∧qCy docs k=some y.reel):=fun j hj=>by
     subst hj;obtain ⟨y,hy⟩:=qBq (l:=docs) (p:=j) (by have:=HLn.out;omega);exact ⟨y,hy,by simp [qCy,hy]⟩
    have HBd:=gH (Blk.new wr 58 (x.cells ⟨ra,rn,rc,ea,en,ec,ca,cn,cc⟩));have HXd:=gH ((Ext.refl wr).alloc (.cells (x.cells ⟨ra,rn,rc,ea,en,ec,ca,cn,cc⟩) 58));clear hxk hat hsz hmem;unfold RDoc.cells at HBd HXd;unfold Doc.cells at HDc;dsimp only at HBd HXd HDc;(have hdc:=fun o=>HBd.out.cell o);go_wp2_with fail;refine (HNm.out _).mono ?_;rintro e1 w2 ⟨rfl,hxn⟩;replace HBd:=gH (HBd.out.ext hxn);replace HXd:=gH (HXd.out.trans hxn);clear hxn hdc
    cases hnm:qBm x.reel with
    | false =>
     have HZ:=gH (HS.out.1 (by rw [rd_1 hnm];decide));have HZ2:Hid (qBz e.rate e.drop (qCy docs k) x=5):=rd_1 hnm;go_wp2_with fail;go_ret;exact ⟨qAa (by rw [HF2.out,if_pos (by rw [HZ.out,HZ2.out];decide),HZ.out,HZ2.out]),(HX1.out.trans HXr.out).trans HXd.out⟩
    | true =>
     obtain ⟨gx,hgx⟩:∃ gx,gx=wr.heap.size:=⟨_,rfl⟩;rw [← hgx] at HBd;rw [← hgx];clear hgx c0 c1 c2 c3 c4 c5 c6 c7 c8;have HNm2:=gH hnm;clear hnm;(have hdc:=fun o=>HBd.out.cell o)
     by_cases hk0:0<k
     · obtain ⟨j,rfl⟩:∃ j,k=j+1:=⟨k-1,by omega⟩
       obtain ⟨b',off',y,h',hA,hyk,-,-,p0,-⟩:=(HL.out.ext ((HX1.out.trans HXr.out).trans HXd.out)).at9 (i:=j) (by omega)
       cases hA
       (have HPy:Hid (qCy docs (j+1)=some y.reel):=by show _=_;simp [qCy,hyk]);have g8:decide (((j:Int)+1) > 0)=true:=decide_eq_true (by omega);have g8':decide ((0:Int)<(j:Int)+1)=true:=decide_eq_true (by omega);clear hyk
       cases hlq:(Op.bytesLess x.reel.toList y.reel.toList || x.reel.toList == y.reel.toList) with
       | true =>
        have HZ2:Hid (qBz e.rate e.drop (qCy docs (j+1)) x=8):=rd_2 HNm2.out (by rw [HPy.out];simpa using hlq);have HZ:=gH (HS.out.1 (by rw [HZ2.out];decide));go_wp2_with fail;go_quiet (fail);go_wp2_with fail;go_ret;exact ⟨qAa (by rw [HF2.out,if_pos (by rw [HZ.out,HZ2.out];decide),HZ.out,HZ2.out]),((HX1.out.trans HXr.out).trans HXd.out).drewN _⟩
       | false =>
        (have HNo:Hid (¬ ((qCy docs (j+1)).map fun q=>Op.bytesLess x.reel.toList q.toList || x.reel.toList == q.toList)=some true):=by show ¬ _;rw [HPy.out];simpa using hlq);go_wp2_with fail;go_quiet (fail);go_wp2_with fail;refine (HDc.out _ (HXd.out.drewN _)).mono ?_;rintro e2 w3 ⟨rfl,hx3⟩;have HX3:=gH ((HXd.out.drewN _).trans hx3);have HB3:=gH ((HBd.out.ext ((Ext.refl w2).drewN _)).ext hx3);have HBl3:=gH ((HBl.out.ext HXr.out).ext HX3.out);clear hx3 hdc
        by_cases hde:x.doc.err=0
        case neg =>
         (have hdn:(x.doc.err != 0)=true:=by simpa using hde);have HZ2:Hid (qBz e.rate e.drop (qCy docs (j+1)) x=x.doc.err):=rd_3 HNm2.out HNo.out hde;have HZ:=gH (HS.out.1 (by rw [HZ2.out];exact hde));have HR:Hid (qCj docs e=x.doc.err):=HF2.out.trans ((if_pos (by rw [HZ.out,HZ2.out];exact hde)).trans (HZ.out.trans HZ2.out));clear hde;go_wp2_with fail;go_ret;exact ⟨qAa HR.out.symm,(HX1.out.trans HXr.out).trans HX3.out⟩
        rw [hde];have HDe:=gH hde;clear hde;(have hdc:=fun o=>HB3.out.cell o);(have hbl:=fun o=>HBl3.out.cell o)
        by_cases hra:x.doc.rate=e.rate
        case neg =>
         (have hdn:(x.doc.rate != e.rate)=true:=by simpa using hra);have HZ2:Hid (qBz e.rate e.drop (qCy docs (j+1)) x=13):=rd_4 HNm2.out HNo.out HDe.out (fun h=>hra h.1);have HZ:=gH (HS.out.1 (by rw [HZ2.out];decide));have HR:Hid (qCj docs e=13):=HF2.out.trans ((if_pos (by rw [HZ.out,HZ2.out];decide)).trans (HZ.out.trans HZ2.out));clear hra;go_wp2_with fail;go_ret;exact ⟨qAa HR.out.symm,(HX1.out.trans HXr.out).trans HX3.out⟩
        have hdn:(x.doc.rate != e.rate)=false:=by simpa using hra
        by_cases hdr:x.doc.drop=e.drop
        case neg =>
         (have hdn2:(x.doc.drop == e.drop)=false:=by simpa using hdr);have HZ2:Hid (qBz e.rate e.drop (qCy docs (j+1)) x=13):=rd_4 HNm2.out HNo.out HDe.out (fun h=>hdr h.2);have HZ:=gH (HS.out.1 (by rw [HZ2.out];decide));have HR:Hid (qCj docs e=13):=HF2.out.trans ((if_pos (by rw [HZ.out,HZ2.out];decide)).trans (HZ.out.trans HZ2.out));clear hra hdr;go_wp2_with fail;go_ret;exact ⟨qAa HR.out.symm,(HX1.out.trans HXr.out).trans HX3.out⟩
        (have hdn2:(x.doc.drop == e.drop)=true:=by simpa using hdr);have HZ2:=gH (HS.out.2 (rd_5 HNm2.out HNo.out HDe.out ⟨hra,hdr⟩));clear hra hdr;go_wp2_with fail;exact ⟨⟨j+1+1,by omega,by go_num,HXr.out.trans HX3.out,HZ2.out⟩,by simp [intOf];omega⟩
     · have hk00:k=0:=by omega
       subst hk00;(have HNo:Hid (¬ ((qCy docs 0).map fun q=>Op.bytesLess x.reel.toList q.toList || x.reel.toList == q.toList)=some true):=by show ¬ _;simp [qCy]);go_wp2_with fail;go_quiet (fail);go_wp2_with fail;refine (HDc.out _ (HXd.out.drewN _)).mono ?_;rintro e2 w3 ⟨rfl,hx3⟩;have HX3:=gH ((HXd.out.drewN _).trans hx3);have HB3:=gH ((HBd.out.ext ((Ext.refl w2).drewN _)).ext hx3);have HBl3:=gH ((HBl.out.ext HXr.out).ext HX3.out);clear hx3 hdc
       by_cases hde:x.doc.err=0
       case neg =>
        (have hdn:(x.doc.err != 0)=true:=by simpa using hde);have HZ2:Hid (qBz e.rate e.drop (qCy docs 0) x=x.doc.err):=rd_3 HNm2.out HNo.out hde;have HZ:=gH (HS.out.1 (by rw [HZ2.out];exact hde));have HR:Hid (qCj docs e=x.doc.err):=HF2.out.trans ((if_pos (by rw [HZ.out,HZ2.out];exact hde)).trans (HZ.out.trans HZ2.out));clear hde;go_wp2_with fail;go_ret;exact ⟨qAa HR.out.symm,(HX1.out.trans HXr.out).trans HX3.out⟩
       rw [hde];have HDe:=gH hde;clear hde;(have hdc:=fun o=>HB3.out.cell o);(have hbl:=fun o=>HBl3.out.cell o)
       by_cases hra:x.doc.rate=e.rate
       case neg =>
        (have hdn:(x.doc.rate != e.rate)=true:=by simpa using hra);have HZ2:Hid (qBz e.rate e.drop (qCy docs 0) x=13):=rd_4 HNm2.out HNo.out HDe.out (fun h=>hra h.1);have HZ:=gH (HS.out.1 (by rw [HZ2.out];decide));have HR:Hid (qCj docs e=13):=HF2.out.trans ((if_pos (by rw [HZ.out,HZ2.out];decide)).trans (HZ.out.trans HZ2.out));clear hra;go_wp2_with fail;go_ret;exact ⟨qAa HR.out.symm,(HX1.out.trans HXr.out).trans HX3.out⟩
       have hdn:(x.doc.rate != e.rate)=false:=by simpa using hra
       by_cases hdr:x.doc.drop=e.drop
       case neg =>
        (have hdn2:(x.doc.drop == e.drop)=false:=by simpa using hdr);have HZ2:Hid (qBz e.rate e.drop (qCy docs 0) x=13):=rd_4 HNm2.out HNo.out HDe.out (fun h=>hdr h.2);have HZ:=gH (HS.out.1 (by rw [HZ2.out];decide));have HR:Hid (qCj docs e=13):=HF2.out.trans ((if_pos (by rw [HZ.out,HZ2.out];decide)).trans (HZ.out.trans HZ2.out));clear hra hdr;go_wp2_with fail;go_ret;exact ⟨qAa HR.out.symm,(HX1.out.trans HXr.out).trans HX3.out⟩
       (have hdn2:(x.doc.drop == e.drop)=true:=by simpa using hdr);have HZ2:=gH (HS.out.2 (rd_5 HNm2.out HNo.out HDe.out ⟨hra,hdr⟩));clear hra hdr;go_wp2_with fail;exact ⟨⟨0+1,by omega,by go_num,HXr.out.trans HX3.out,HZ2.out⟩,by simp [intOf];omega⟩
  · have hkn:k=n:=by omega
    subst hkn;(have hr0:qDy e.rate e.drop none docs=0:=by rw [HP.out,List.drop_eq_nil_of_le (by have:=HLn.out;omega)];rfl);have HF3:=gH (HF2.out.trans (if_neg (by simpa using hr0)));have HRg2:=gH (HRg.out wr (HX1.out.trans HXr.out) (by omega) (fun d hd=>qEu (qEp (qIr hr0 d hd).2.1).2.1));(have HR16:Hid (∀ d∈docs,d.doc.regs.length≤16):=fun d hd=>qEu (qEp (qIr hr0 d hd).2.1).2.1);clear hr0 HRg;go_wp2_with fail;refine HRg2.out.mono ?_;rintro e5 w5 ⟨hx5,hh⟩;have HX5:=gH ((HX1.out.trans HXr.out).trans hx5);clear HRg2 hx5
    rcases hh with ⟨h0,rfl⟩ | ⟨v,m',hm,rfl,ho⟩
    · have HT:Hid (regE (allR docs)=16):=by show _=_;unfold regE;rw [h0]
      clear h0;go_wp2_with fail;go_ret;exact ⟨qAa (by rw [HF3.out,HT.out]),HX5.out⟩
    · have hul:m'.length≤256:=by
       have h1:=qIy (l:=docs) HR16.out;have h2:=refR_len hm;have:=HLn.out;omega
      (have HT:Hid (regE (allR docs)=if 16<m'.length then 9 else 0):=by show _=_;unfold regE;rw [hm]);obtain ⟨A',c',rfl,hc',-⟩:=qIz ho;clear hm ho;generalize m'.length=z at *
      by_cases hz2:16<z
      · have g3:decide ((z:Int) > 16)=true:=decide_eq_true (by omega)
        have g4:decide ((16:Int)<z)=true:=decide_eq_true (by omega);rw [if_pos hz2] at HT;clear hz2;go_wp2_with fail;go_ret;exact ⟨qAa (by rw [HF3.out,HT.out]),HX5.out⟩
      · have g3:decide ((z:Int) > 16)=false:=decide_eq_false (by omega)
        have g4:decide ((16:Int)<z)=false:=decide_eq_false (by omega);rw [if_neg hz2] at HT;clear hz2;go_wp2_with fail;go_ret;exact ⟨qAa (by rw [HF3.out,HT.out]),HX5.out⟩
end
end Go.Proofs.YtablhmobekmflaaGreatDoor
namespace Go.Proofs
open Go.Shelf
def Tryz.lays156_ren:Go.Shelf.Ren:=⟨fun | 156=>62 | 165=>123 | 166=>61 | 169=>65 | 240=>122 | 241=>188 | 276=>187 | 277=>233 | n=>n,fun | 31=>130 | 9=>9 | 3=>3 | 4=>4 | 0=>0 | 20=>20 | 72=>122 | 76=>125 | 70=>119 | 37=>120 | 75=>124 | 127=>191 | 164=>240 | 5=>5 | 80=>131 | n=>n,fun | n=>n⟩
theorem Tryz.lays156:Go.Proofs.Lays.n156 Tryz.prog Tryz.lays156_ren:={
 mixed:=by kernel_rfl
 f156:=Tryz.func62.trans (congrArg some (by kernel_rfl))
 f165:=Tryz.func123.trans (congrArg some (by kernel_rfl))
 f166:=Tryz.func61.trans (congrArg some (by kernel_rfl))
 f169:=Tryz.func65.trans (congrArg some (by kernel_rfl))
 f240:=Tryz.func122.trans (congrArg some (by kernel_rfl))
 f241:=Tryz.func188.trans (congrArg some (by kernel_rfl))
 f276:=Tryz.func187.trans (congrArg some (by kernel_rfl))
 f277:=Tryz.func233.trans (congrArg some (by kernel_rfl))
 t0:=Tryz.underlying0
 a0:=Tryz.isAgg0
 z0:=Tryz.sizeOf0
 v0:=Tryz.zeroValue0
 t3:=Tryz.underlying3
 a3:=Tryz.isAgg3
 z3:=Tryz.sizeOf3
 v3:=Tryz.zeroValue3
 t4:=Tryz.underlying4
 a4:=Tryz.isAgg4
 z4:=Tryz.sizeOf4
 v4:=Tryz.zeroValue4
 t9:=Tryz.underlying9
 a9:=Tryz.isAgg9
 z9:=Tryz.sizeOf9
 v9:=Tryz.zeroValue9
 t20:=Tryz.underlying20
 a20:=Tryz.isAgg20
 z20:=Tryz.sizeOf20
 v20:=Tryz.zeroValue20
 t31:=Tryz.underlying130
 a31:=Tryz.isAgg130
 z31:=Tryz.sizeOf130
 v31:=Tryz.zeroValue130
 t37:=Tryz.underlying120
 a37:=Tryz.isAgg120
 z37:=Tryz.sizeOf120
 v37:=Tryz.zeroValue120
 t70:=Tryz.underlying119
 a70:=Tryz.isAgg119
 z70:=Tryz.sizeOf119
 v70:=Tryz.zeroValue119
 t72:=Tryz.underlying122
 a72:=Tryz.isAgg122
 z72:=Tryz.sizeOf122
 v72:=Tryz.zeroValue122
 t75:=Tryz.underlying124
 a75:=Tryz.isAgg124
 z75:=Tryz.sizeOf124
 v75:=Tryz.zeroValue124
 t76:=Tryz.underlying125
 a76:=Tryz.isAgg125
 z76:=Tryz.sizeOf125
 v76:=Tryz.zeroValue125
 t127:=Tryz.underlying191
 a127:=Tryz.isAgg191
 z127:=Tryz.sizeOf191
 v127:=Tryz.zeroValue191
 t164:=Tryz.underlying240
 a164:=Tryz.isAgg240
 z164:=Tryz.sizeOf240
 v164:=Tryz.zeroValue240 }
theorem Tryz.Builder_Extra_156:Builder.Extra Tryz.prog Tryz.lays156_ren:={
 sizeBuilder:=by kernel_rfl
 liesBuilder:=by kernel_rfl
 t5:=Tryz.underlying5
 a5:=Tryz.isAgg5
 z5:=Tryz.sizeOf5
 v5:=Tryz.zeroValue5
 infoByte:=by kernel_rfl
 cellsByte:=by kernel_rfl
 sizeByte:=by kernel_rfl
 neB5:=by decide }
open Go.RowKit in
theorem Tryz.strings_Join (bk o c:Nat) (xs:List ByteArray) (sep:ByteArray) (w:World) (hcells:∀ (j:Nat) x,xs[j]?=some x→w.cell? ⟨bk,o+j,none⟩=some (.string x)) (hbk:bk<w.heap.size) (hN:xs.length≤140737488355328) (hcap:xs.length≤c) (hlen:(Lib.join (xs.map (·.data.toList)) sep.data.toList).length≤140737488355328) :
 Calls Tryz.prog 62 #[.slice (some ⟨bk,o,none⟩) xs.length c,.string sep] w fun e w'=>e = .returned (.string ⟨(Lib.join (xs.map (·.data.toList)) sep.data.toList).toArray⟩)∧Below w.heap.size w w':=Any.strings_Join Tryz.lays156 Tryz.Builder_Extra_156 bk o c xs sep w hcells hbk hN hcap hlen
end Go.Proofs
namespace Go.Proofs.YtablhmobekmflaaGreatDoor
section
open Go.RowKit
theorem copyCheck_kb (B b:Nat) (bs:List Value) (w:World) (h:Lib.IsBuilder 122 5 B b bs w) :
 Calls Tryz.prog 122 #[.pointer (some ⟨b,0,none⟩)] w fun e w'=>e = .returned (.tuple #[])∧(Lib.BuilderAt 122 5 B b (.pointer (some ⟨b,0,none⟩)) bs w'∧Below B w w'∧KB 67 w w'):=by
 rcases h with h | h
 · refine (qIe b w h.cell0 h.shape h.frozen0).mono ?_
   rintro e w' ⟨rfl,rfl⟩;obtain ⟨-,v,hb,-⟩:=h.2;exact ⟨rfl,h.used _,(Below.refl B w).setCell (p:=⟨b,0,none⟩) h.1 _,KB.set (T':=122) ⟨_,h.2.choose_spec.1⟩ (by decide)⟩
 · refine (qJg b w h.cell0).mono ?_
   rintro e w' ⟨rfl,rfl⟩;exact ⟨rfl,h,Below.refl B _,KB.refl _⟩
set_option maxHeartbeats 2000000 in
theorem WriteString_kb (B b:Nat) (bs:List Value) (s:ByteArray) (w:World) (h:Lib.IsBuilder 122 5 B b bs w) (hlen:bs.length+s.size≤140737488355328) (hBw:B≤w.heap.size) :
 Calls Tryz.prog 61 #[.pointer (some ⟨b,0,none⟩),.string s] w fun e w'=>e = .returned (.tuple #[.int .i64 s.size,.nilIface])∧(Lib.BuilderAt 122 5 B b (.pointer (some ⟨b,0,none⟩)) (bs++Lib.strCells s) w'∧Below B w w'∧KB 67 w w'):=by
 obtain ⟨i0,hi,hz0,hz1,hz2⟩:=info_parts info_byte;go_enter Tryz.func61,Tryz.ntmps61;go_wp2_with fail;refine (copyCheck_kb B b bs _ h).mono ?_;rintro e w1 ⟨rfl,h1,hb1,hk1⟩;have HK1:=gH hk1;clear hk1;obtain ⟨hB,v,hbk,hown,hne⟩:=h1;(have c0:w1.cell? ⟨b,0,none⟩=some (.pointer (some ⟨b,0,none⟩)):=by rw [Lib.cell_of_heap hbk];rfl);(have c1:w1.cell? ⟨b,1,none⟩=some v:=by rw [Lib.cell_of_heap hbk];rfl);go_wp2_with (at_builtin;refine Lib.wpList_append_own_string _ rfl _ _ 120 9 rfl B 5 i0 Tryz.underlying120 Tryz.underlying9 hi hz0 hz1 hz2 _ _ _ rfl hown s rfl ?c3 ?c4 ?c5 ?_)
 case c3=>unfold maxLen;omega
 case c4=>omega
 case c5=>have:=hb1.size;omega
 intro v' w2 hown' hgrow _;have hlt:b<w1.heap.size:=(Array.getElem?_eq_some_iff.1 hbk).1
 have hb2:w2.heap[b]?=some (.cells #[.pointer (some ⟨b,0,none⟩),v] 122 (0,0)):=by
  rw [hgrow.block b hlt (fun e=>hne e.symm)];exact hbk
 have HK2:Hid (KB 67 w1 w2):=KB.grown hgrow (qAj hown) (by decide);(have d0:w2.cell? ⟨b,0,none⟩=some (.pointer (some ⟨b,0,none⟩)):=by rw [Lib.cell_of_heap hb2];rfl);(have d1:w2.cell? ⟨b,1,none⟩=some v:=by rw [Lib.cell_of_heap hb2];rfl);have f1:w2.frozen? ⟨b,1,none⟩=false:=Lib.frozen_of_heap hb2 1
 obtain ⟨ao,n',cap,rfl⟩:∃ ao n' cap,v' = .slice ao n' cap:=by
  rcases hown'.2 with ⟨hv,_⟩ | ⟨g,cap,cur,hv,_⟩
  · exact ⟨_,_,_,hv⟩
  · exact ⟨_,_,_,hv⟩
 go_wp2;go_ret2;refine ⟨rfl,?_,?_,?_⟩
 · exact Lib.BuilderAt.put (T:=122) (e:=5) hB hb2 (bs':=bs++Lib.strCells s) (by simpa [Lib.strCells_length] using hown') (by decide)
 · exact (hb1.grown hgrow (by have:=hb1.size;omega) (fun k hk=>(hown.lt k hk).1)).setCell (p:=⟨b,1,none⟩) hB _
 · exact (HK1.out.trans HK2.out).trans (KB.set (T':=122) ⟨_,hb2⟩ (by decide))
end
section
open Go.RowKit
def lineW (f:Fat):List ByteArray:=[f.reel,decB f.id,wordN f.parts.length f.lost,decB f.parts.length,decB f.lost,decB f.short.length]
def lineJ (f:Fat):ByteArray:=⟨(Lib.join ((lineW f).map (·.data.toList)) [32]).toArray⟩
def qMf (f:Fat):ByteArray:=lineJ f++⟨#[10]⟩
def qJf (l:List Fat):List UInt8:=l.flatMap fun f=>(qMf f).data.toList
theorem textF_snoc {l:List Fat} {k:Nat} {f:Fat} (h:l[k]?=some f):qJf (l.take (k+1))=qJf (l.take k)++(qMf f).data.toList:=by
 unfold qJf;(rw [take_snoc' _ _ _ h,List.flatMap_append];simp)
theorem textF_len (l:List Fat) (k:Nat):(qJf (l.take k)).length≤(qJf l).length:=by
 (have h:qJf l=qJf (l.take k)++qJf (l.drop k):=by unfold qJf;rw [← List.flatMap_append,List.take_append_drop]);rw [h,List.length_append];omega
structure FatsTx (l:List Fat):Prop where
 id:∀ f∈l,-9223372036854775808≤f.id∧f.id≤9223372036854775807
 lost:∀ f∈l,-9223372036854775808≤f.lost∧f.lost≤9223372036854775807
 fit:qIh l
 few:(qJf l).length≤140737488355328
structure TxJ (B b:Nat) (bs:List Value) (V:List Value) (cells:Array Value) (line:ByteArray) (W:World) (us:List Value) (w':World):Prop where
 val:∀ (p:Nat) (u:Value),us[p]?=some u→p≠5→V[p]?=some u
 ext:us.length≤7→Ext W w'
 sl:us.length=6→∃ g,us[5]?=some (.slice (some ⟨g,0,none⟩) 6 6)∧Blk w' g 9 cells
 fin:us.length=8→∃ w5,Ext W w5∧Lib.BuilderAt 122 5 B b (.pointer (some ⟨b,0,none⟩)) (bs++Lib.strCells line) w'∧Below B w5 w'∧KB 67 w5 w'
 len:us.length≤8
section
variable {B b:Nat} {bs V:List Value} {cells:Array Value} {line:ByteArray} {W w' w2:World} {us:List Value} {v:Value}
theorem TxJ.start (W:World):TxJ B b bs V cells line W [] W.drew:=⟨fun p u h=>by simp at h,fun _=>(Ext.refl W).drew,fun h=>by simp at h,fun h=>by simp at h,by simp⟩
theorem snoc_val {us V:List Value} {v:Value} (h:∀ (p:Nat) (u:Value),us[p]?=some u→p≠5→V[p]?=some u) (hv:us.length≠5→V[us.length]?=some v):∀ (p:Nat) (u:Value),(us++[v])[p]?=some u→p≠5→V[p]?=some u:=fun p u hu hp=>by
 by_cases hlt:p<us.length
 · rw [List.getElem?_append_left hlt] at hu;exact h p u hu hp
 · have:p=us.length:=by
    have:=(List.getElem?_eq_some_iff.1 hu).1;simp at this;omega
   subst this;rw [List.getElem?_append_right (Nat.le_refl _)] at hu;simp at hu;subst hu;exact hv hp
theorem TxJ.call (h:TxJ B b bs V cells line W us w') (hl:us.length≤4∨us.length=6) (hx:Ext w' w2) (hv:V[us.length]?=some v):TxJ B b bs V cells line W (us++[v]) w2 :=
 ⟨snoc_val h.val (fun _=>hv),fun _=>(h.ext (by omega)).trans hx,fun hl'=>by simp at hl';omega,fun hl'=>by simp at hl';omega,by simp;omega⟩
theorem TxJ.build (h:TxJ B b bs V cells line W us w') (hl:us.length=5):TxJ B b bs V cells line W (us++[.slice (some ⟨w'.heap.size,0,none⟩) 6 6]) (w'.alloc (.cells cells 9)) :=
 ⟨snoc_val h.val (fun h=>absurd hl h),fun _=>(h.ext (by omega)).alloc _,fun _=>⟨_,by rw [List.getElem?_append_right (by omega),hl];rfl,Blk.new w' _ _⟩,fun hl'=>by simp at hl';omega,by simp;omega⟩
theorem TxJ.write (h:TxJ B b bs V cells line W us w') (hl:us.length=7) (hv:V[7]?=some v) (hb:Lib.BuilderAt 122 5 B b (.pointer (some ⟨b,0,none⟩)) (bs++Lib.strCells line) w2) (hx:Below B w' w2) (hk:KB 67 w' w2):TxJ B b bs V cells line W (us++[v]) w2 :=
 ⟨snoc_val h.val (fun _=>by rw [hl];exact hv),fun hl'=>by simp at hl';omega,fun hl'=>by simp at hl';omega,fun _=>⟨w',h.ext (by omega),hb,hx,hk⟩,by simp;omega⟩
theorem TxJ.fate {g:Nat} {cs:Array Value} (h:TxJ B b bs V cells line W us w') (hB:Blk W g 67 cs):Blk w' g 67 cs:=by
 by_cases hl:us.length≤7
 · exact hB.ext (h.ext hl)
 · obtain ⟨w5,a,-,-,k⟩:=h.fin (by have:=h.len;omega)
   exact (hB.ext a).kb k
end
theorem qKx {T e:TypeId} {B b:Nat} {bs:List Value} {w w1:World} (h:Lib.IsBuilder T e B b bs w) (k:Ext w w1):Lib.IsBuilder T e B b bs w1:=by
 have key:∀ p,Lib.BuilderAt T e B b p bs w→Lib.BuilderAt T e B b p bs w1:=fun p ⟨hB,v,hb,hown,hne⟩ =>
  ⟨hB,v,(k.block b (Array.getElem?_eq_some_iff.1 hb).1).trans hb,qAh hown k,hne⟩
 exact h.elim (fun x=>.inl (key _ x)) (fun x=>.inr (key _ x))
def TxRel (w:World) (n:Nat) (l:List Fat) (i:Value) (wr:World):Prop :=
 ∃ k:Nat,k≤n∧i = .int .i64 k∧Ext w wr∧w.heap.size<wr.heap.size∧Lib.IsBuilder 122 5 w.heap.size w.heap.size (Lib.byteCells (qJf (l.take k))) wr
theorem wp_concat {P:Program} {o:Oper} {a:Act} {w:World} {K:Act→World→Prop} {Q:Exit→Act→World→Prop} {t t':TypeId} {x y:Operand} {s u:ByteArray} (ho:o.op = .binOp .add t x y t') (hx:a.eval x = .string s) (hy:a.eval y = .string u) (hl:¬ (9223372036854775807:Int)<(s.size:Int)+u.size) (h:K (a.put o.dst (.string (s++u))) w):o.wp P a w K Q:=by
 unfold Oper.wp execOp;simp only [ho,hx,hy];simp [eqGuard,binOp,Op.stringOp];rw [if_neg hl];exact h
theorem qMh:(Tryz.prog.info? 67).map (·.size)=some 5:=by kernel_rfl
theorem wp_call2P {P:Program} {o:Oper} {a:Act} {w:World} {K:Act→World→Prop} {Q:Exit→Act→World→Prop} {f:FuncId} {x y:Operand} {ts:Array TypeId} {v u:Value} (ho:o.op = .call { callee:=.value (.func f),args:=#[x,y],argTypes:=ts }) (hx:a.eval x=v) (hy:a.eval y=u)
 (hent:∀ args w,(callFunc f args).run P w = .ok (.enter f args) w) {R:Ending→World→Prop} (hc:Calls P f #[v,u] w R) (h:∀ en w',R en w'→∃ r,en = .returned r∧K (a.put o.dst r) w'):o.wp P a w K Q:=by
 have h2:Calls P f #[v,u] w (fun
  | .returned u,w''=>K (a.put o.dst u) w''
  | .panicked chain,w''=>Q (.panic chain) a w''
  | .outgrown,_=>LetsOut Q):=hc.mono fun en w' hr=>by
  obtain ⟨u,rfl,hk⟩:=h en w' hr;exact hk
 unfold Oper.wp execOp;simp only [ho];have hev:a.eval (.func f) = .func (.func f) #[] #[]:=rfl;simp [resolve,invoke,hev,hx,hy,hent,Sem.run_bind,Deferred.ofValue];exact h2
set_option maxHeartbeats 8000000 in
theorem Text_any (A:Option Addr) (n c:Nat) (l:List Fat) (w:World) (hl:qGi w A n l) (hn:n≤1000000) (hf:FatsTx l) (ht:TabU w) :
 Calls Tryz.prog 29 #[.slice A n c] w fun e w'=>e = .returned (.string ⟨(qJf l).toArray⟩)∧Ext w w':=by
 have HL:=gH hl;have HLn:=gH hl.len;have HF:=gH hf;have HT0:=gH ht;clear hl hf ht;go_enter Tryz.func29,Tryz.ntmps29;go_wp2_with fail
 go_loopw [8] (fun i wr=>TxRel w n l i wr) (fun i _=>n-(intOf i).toNat)
 case atStart =>
  refine ⟨0,Nat.zero_le _,rfl,(Ext.refl _).alloc _,by simp,.inl ⟨Nat.le_refl _,.slice none 0 0,?_,⟨rfl,.inl ⟨rfl,rfl⟩⟩,by simp [Value.ownBlock]⟩⟩;exact Blk.new' (w:=w) (by simp)
 case round =>
  obtain ⟨k,hk,rfl,hx,hsz,hbd⟩:=hrel;have HX:=gH hx;have HB:=gH hbd;clear hx hbd
  by_cases hlt:k<n
  · obtain ⟨b,off,f,pA,pc,sA,sc,rfl,hfk,-,-,c0,c1,c2,c3,c4⟩:=(HL.out.ext HX.out).at5 hlt
    have HTx:=gH (textF_snoc hfk);have hmem:=List.mem_of_getElem? hfk;have hid:=HF.out.id f hmem;have hlo:=HF.out.lost f hmem;have hp1:=HF.out.fit.parts f hmem;have hp2:=HF.out.fit.short f hmem;have hle:=textF_len l (k+1);rw [HTx.out,List.length_append] at hle;have hle2:=HF.out.few;(have hsz2:(qMf f).data.toList.length=(lineJ f).size+1:=by unfold qMf;simp)
    have HLen:Hid ((Lib.byteCells (qJf (l.take k))).length+(qMf f).size≤140737488355328):=by
     show _+_≤_
     rw [Lib.byteCells_length];(have:(qMf f).size=(qMf f).data.toList.length:=by simp);omega
    have hJl:(lineJ f).size≤140737488355328:=by omega
    have HJl:Hid ((Lib.join ((lineW f).map (·.data.toList)) [32]).length≤140737488355328):=by
     show _≤_
     (have e:(lineJ f).size=(Lib.join ((lineW f).map (·.data.toList)) [32]).length:=by simp [lineJ,ByteArray.size]);rw [← e];exact hJl
    have HXf:=gH ((Ext.refl wr).alloc (.cells #[.string f.reel,.int .i64 f.id,.slice pA f.parts.length pc,.int .i64 f.lost,.slice sA f.short.length sc] 67));have HBf:=gH (Blk.new wr 67 #[.string f.reel,.int .i64 f.id,.slice pA f.parts.length pc,.int .i64 f.lost,.slice sA f.short.length sc]);have HBd:=gH (qKx HB.out HXf.out);have HTu:=gH (fun w' (hx:Ext wr w')=>(HT0.out.ext HX.out).ext hx);clear hfk hmem hle hle2;have HLW:Hid (lineW f=[f.reel,decB f.id,wordN f.parts.length f.lost,decB f.parts.length,decB f.lost,decB f.short.length]):=rfl;obtain ⟨np,hnp⟩:∃ np,np=f.parts.length:=⟨_,rfl⟩;obtain ⟨ns,hns⟩:∃ ns,ns=f.short.length:=⟨_,rfl⟩;rw [← hnp] at HXf HBf HBd HLW c2 hp1;rw [← hns] at HXf HBf HBd HLW c4 hp2;clear hnp hns;go_upto_region 5 with fail;obtain ⟨gx,hgx⟩:∃ gx,gx=wr.heap.size:=⟨_,rfl⟩;obtain ⟨W2,hW2⟩:∃ W2,W2=wr.alloc (.cells #[.string f.reel,.int .i64 f.id,.slice pA np pc,.int .i64 f.lost,.slice sA ns sc] 67):=⟨_,rfl⟩;rw [← hgx] at HBf;rw [← hW2] at HBf HXf HBd ⊢;rw [← hgx];(have hz2:w.heap.size<W2.heap.size:=by have:=HXf.out.size;omega);clear hW2 hgx c0 c1 c2 c3 c4
    refine qAy [some 12,some 13,some 14,some 15,some 16,some 17,some 18,some 19,some 20,some 21,some 22,some 23,some 24,some 25,some 26,some 27,some 28,some 29,some 30,some 31,some 32,some 33] [[],[0],[],[2],[3],[],[5,4],[],[7],[8],[9,6],[],[11],[12,10],[],[14],[15],[16,13],[1,4,6,10,13,17],[18,17],[19],[20,19]] [4,6,10,13,17,18,19,21] [.pointer (some ⟨gx,0,none⟩),.string f.reel,.pointer (some ⟨gx,1,none⟩),.int .i64 f.id,undef,.agg #[.string f.reel,.int .i64 f.id,.slice pA np pc,.int .i64 f.lost,.slice sA ns sc],undef,.pointer (some ⟨gx,2,none⟩),.slice pA np pc,.int .i64 (np:Int),undef,.pointer (some ⟨gx,3,none⟩),.int .i64 f.lost,undef,.pointer (some ⟨gx,4,none⟩),.slice sA ns sc,.int .i64 (ns:Int),undef,undef,undef,.string (qMf f),undef] (TxJ w.heap.size w.heap.size (Lib.byteCells (qJf (l.take k))) [.string (decB f.id),.string (wordN np f.lost),.string (decB (np:Int)),.string (decB f.lost),.string (decB (ns:Int)),undef,.string (lineJ f),.tuple #[.int .i64 (qMf f).size,.nilIface]] #[.string f.reel,.string (decB f.id),.string (wordN np f.lost),.string (decB (np:Int)),.string (decB f.lost),.string (decB (ns:Int))] (qMf f) W2) (by kernel_rfl) (by kernel_rfl) (by kernel_rfl) (by kernel_rfl) (by kernel_rfl) (by kernel_rfl) (by kernel_rfl) (by decide) ?_ ?_ ?_ ?_
    · exact TxJ.start W2
    · intro i o ho hc a w' us K' hJ hF hlim hk
      match i,ho with
      | 0,ho =>
       simp only [gA,gB,gC,gD] at ho;subst ho;have e5:=hF.old 5 (.pointer (some ⟨gx,0,none⟩)) rfl rfl;simp only [Act.eval] at e5;clear hF hlim hJ;go_simp;exact hk
      | 1,ho =>
       simp only [gA,gB,gC,gD] at ho;subst ho;have e12:=hF.pure 0 12 (.pointer (some ⟨gx,0,none⟩)) rfl rfl rfl rfl;have hcl:w'.cell? ⟨gx,0,none⟩=some (.string f.reel):=(hJ.fate HBf.out).cell 0;simp only [Act.eval] at e12;clear hF hlim hJ;go_simp;exact hk
      | 2,ho =>
       simp only [gA,gB,gC,gD] at ho;subst ho;have e5:=hF.old 5 (.pointer (some ⟨gx,0,none⟩)) rfl rfl;simp only [Act.eval] at e5;clear hF hlim hJ;go_simp;exact hk
      | 3,ho =>
       simp only [gA,gB,gC,gD] at ho;subst ho;have e14:=hF.pure 2 14 (.pointer (some ⟨gx,1,none⟩)) rfl rfl rfl rfl;have hcl:w'.cell? ⟨gx,1,none⟩=some (.int .i64 f.id):=(hJ.fate HBf.out).cell 1;simp only [Act.eval] at e14;clear hF hlim hJ;go_simp;exact hk
      | 4,ho=>simp at hc
      | 5,ho =>
       simp only [gA,gB,gC,gD] at ho;subst ho;have e5:=hF.old 5 (.pointer (some ⟨gx,0,none⟩)) rfl rfl;exact qCd 67 (.tmp 5) rfl gx 67 _ _ e5 (hJ.fate HBf.out) Tryz.underlying67 rfl (by exact qMh) hk
      | 6,ho=>simp at hc
      | 7,ho =>
       simp only [gA,gB,gC,gD] at ho;subst ho;have e5:=hF.old 5 (.pointer (some ⟨gx,0,none⟩)) rfl rfl;simp only [Act.eval] at e5;clear hF hlim hJ;go_simp;exact hk
      | 8,ho =>
       simp only [gA,gB,gC,gD] at ho;subst ho;have e19:=hF.pure 7 19 (.pointer (some ⟨gx,2,none⟩)) rfl rfl rfl rfl;have hcl:w'.cell? ⟨gx,2,none⟩=some (.slice pA np pc):=(hJ.fate HBf.out).cell 2;simp only [Act.eval] at e19;clear hF hlim hJ;go_simp;exact hk
      | 9,ho =>
       simp only [gA,gB,gC,gD] at ho;subst ho;have e20:=hF.pure 8 20 (.slice pA np pc) rfl rfl rfl rfl;simp only [Act.eval] at e20;clear hF hlim hJ;go_simp;exact hk
      | 10,ho=>simp at hc
      | 11,ho =>
       simp only [gA,gB,gC,gD] at ho;subst ho;have e5:=hF.old 5 (.pointer (some ⟨gx,0,none⟩)) rfl rfl;simp only [Act.eval] at e5;clear hF hlim hJ;go_simp;exact hk
      | 12,ho =>
       simp only [gA,gB,gC,gD] at ho;subst ho;have e23:=hF.pure 11 23 (.pointer (some ⟨gx,3,none⟩)) rfl rfl rfl rfl;have hcl:w'.cell? ⟨gx,3,none⟩=some (.int .i64 f.lost):=(hJ.fate HBf.out).cell 3;simp only [Act.eval] at e23;clear hF hlim hJ;go_simp;exact hk
      | 13,ho=>simp at hc
      | 14,ho =>
       simp only [gA,gB,gC,gD] at ho;subst ho;have e5:=hF.old 5 (.pointer (some ⟨gx,0,none⟩)) rfl rfl;simp only [Act.eval] at e5;clear hF hlim hJ;go_simp;exact hk
      | 15,ho =>
       simp only [gA,gB,gC,gD] at ho;subst ho;have e26:=hF.pure 14 26 (.pointer (some ⟨gx,4,none⟩)) rfl rfl rfl rfl;have hcl:w'.cell? ⟨gx,4,none⟩=some (.slice sA ns sc):=(hJ.fate HBf.out).cell 4;simp only [Act.eval] at e26;clear hF hlim hJ;go_simp;exact hk
      | 16,ho =>
       simp only [gA,gB,gC,gD] at ho;subst ho;have e27:=hF.pure 15 27 (.slice sA ns sc) rfl rfl rfl rfl;simp only [Act.eval] at e27;clear hF hlim hJ;go_simp;exact hk
      | 17,ho | 18,ho | 19,ho=>simp at hc
      | 20,ho =>
       simp only [gA,gB,gC,gD] at ho;subst ho;obtain ⟨v31,hv31⟩:=qBq (hF.did 6 19 rfl rfl);have e31:=hF.link 6 19 31 _ rfl rfl rfl hv31;have hu:=hJ.val 6 v31 hv31 (by decide);obtain rfl:v31 = .string (lineJ f):=(Option.some.inj hu).symm;exact wp_concat rfl e31 rfl (by show ¬ _<((lineJ f).size:Int)+1;omega) hk
      | 21,ho=>simp at hc
      | i+22,ho=>simp at ho
    · intro p c' o hp ho a w' us K' hl hJ hF hk
      match p,hp with
      | 0,hp =>
       (obtain rfl:4=c':=by simpa using hp);simp only [gA,gB,gC,gD] at ho;subst ho;obtain rfl:us=[]:=List.eq_nil_of_length_eq_zero hl;have e15:=hF.pure 3 15 (.int .i64 f.id) rfl rfl rfl rfl;exact qDz rfl e15 Tryz.call63 (qHn _ _ hid.1 hid.2 (HTu.out _ (HXf.out.trans (hJ.ext (by simp))))) (fun en w5 h5=>⟨_,h5.1,hk _ w5 (hJ.call (by simp) h5.2 rfl)⟩)
      | 1,hp =>
       (obtain rfl:6=c':=by simpa using hp);simp only [gA,gB,gC,gD] at ho;subst ho;obtain ⟨u0,rfl⟩:=qEq hl;have e17:=hF.pure 5 17 (.agg #[.string f.reel,.int .i64 f.id,.slice pA np pc,.int .i64 f.lost,.slice sA ns sc]) rfl rfl rfl rfl;exact qDz rfl e17 Tryz.call64 (Word_any _ _ _ _ _ _ _ _ _ _) (fun en w5 h5=>⟨_,h5.1,hk _ w5 (hJ.call (by simp) h5.2 rfl)⟩)
      | 2,hp =>
       (obtain rfl:10=c':=by simpa using hp);simp only [gA,gB,gC,gD] at ho;subst ho;obtain ⟨u0,u1,rfl⟩:=qEo hl;have e21:=hF.pure 9 21 (.int .i64 (np:Int)) rfl rfl rfl rfl;exact qDz rfl e21 Tryz.call63 (qHn _ _ (by omega) (by omega) (HTu.out _ (HXf.out.trans (hJ.ext (by simp))))) (fun en w5 h5=>⟨_,h5.1,hk _ w5 (hJ.call (by simp) h5.2 rfl)⟩)
      | 3,hp =>
       (obtain rfl:13=c':=by simpa using hp);simp only [gA,gB,gC,gD] at ho;subst ho;obtain ⟨u0,u1,u2,rfl⟩:=qHg hl;have e24:=hF.pure 12 24 (.int .i64 f.lost) rfl rfl rfl rfl;exact qDz rfl e24 Tryz.call63 (qHn _ _ hlo.1 hlo.2 (HTu.out _ (HXf.out.trans (hJ.ext (by simp))))) (fun en w5 h5=>⟨_,h5.1,hk _ w5 (hJ.call (by simp) h5.2 rfl)⟩)
      | 4,hp =>
       (obtain rfl:17=c':=by simpa using hp);simp only [gA,gB,gC,gD] at ho;subst ho;obtain ⟨u0,u1,u2,u3,rfl⟩:=qLr hl;have e28:=hF.pure 16 28 (.int .i64 (ns:Int)) rfl rfl rfl rfl;exact qDz rfl e28 Tryz.call63 (qHn _ _ (by omega) (by omega) (HTu.out _ (HXf.out.trans (hJ.ext (by simp))))) (fun en w5 h5=>⟨_,h5.1,hk _ w5 (hJ.call (by simp) h5.2 rfl)⟩)
      | 5,hp =>
       (obtain rfl:18=c':=by simpa using hp);simp only [gA,gB,gC,gD] at ho;subst ho;obtain ⟨u0,u1,u2,u3,u4,rfl⟩:=list_5 hl;obtain rfl:u0 = .string (decB f.id):=(Option.some.inj (hJ.val 0 u0 rfl (by decide))).symm;obtain rfl:u1 = .string (wordN np f.lost):=(Option.some.inj (hJ.val 1 u1 rfl (by decide))).symm;obtain rfl:u2 = .string (decB (np:Int)):=(Option.some.inj (hJ.val 2 u2 rfl (by decide))).symm;obtain rfl:u3 = .string (decB f.lost):=(Option.some.inj (hJ.val 3 u3 rfl (by decide))).symm;obtain rfl:u4 = .string (decB (ns:Int)):=(Option.some.inj (hJ.val 4 u4 rfl (by decide))).symm;have e13:=hF.pure 1 13 (.string f.reel) rfl rfl rfl rfl;have e16:=hF.link 0 4 16 _ rfl rfl rfl rfl;have e18:=hF.link 1 6 18 _ rfl rfl rfl rfl;have e22:=hF.link 2 10 22 _ rfl rfl rfl rfl;have e25:=hF.link 3 13 25 _ rfl rfl rfl rfl;have e29:=hF.link 4 17 29 _ rfl rfl rfl rfl;have HK:=gH (hk (.slice (some ⟨w'.heap.size,0,none⟩) 6 6) (w'.alloc (.cells #[.string f.reel,.string (decB f.id),.string (wordN np f.lost),.string (decB (np:Int)),.string (decB f.lost),.string (decB (ns:Int))] 9)) (hJ.build rfl));simp [Act.eval] at e13 e16 e18 e22 e25 e29;clear hk hF hJ;go_simp;exact HK.out
      | 6,hp =>
       (obtain rfl:19=c':=by simpa using hp);simp only [gA,gB,gC,gD] at ho;subst ho;obtain ⟨u0,u1,u2,u3,u4,u5,rfl⟩:=list_6 hl;obtain ⟨g8,hg8,hB8⟩:=hJ.sl rfl;obtain rfl:u5 = .slice (some ⟨g8,0,none⟩) 6 6:=Option.some.inj hg8;have e30:=hF.link 5 18 30 _ rfl rfl rfl rfl
       have hcj:∀ (j:Nat) x,(lineW f)[j]?=some x→w'.cell? ⟨g8,0+j,none⟩=some (.string x):=fun j x hx=>by
        rw [Nat.zero_add,hB8.cell];rw [HLW.out] at hx
        match j,hx with
        | 0,hx | 1,hx | 2,hx | 3,hx | 4,hx | 5,hx=>cases hx;rfl
        | j+6,hx=>simp at hx
       exact qDc rfl e30 rfl Tryz.call62 ((Tryz.strings_Join g8 0 6 (lineW f) ⟨#[32]⟩ w' hcj hB8.lt (by rw [HLW.out];simp) (by rw [HLW.out];simp) HJl.out).mono (fun en w5 h5=>⟨h5.1,h5.2⟩)) (fun w5 hx5=>hk _ w5 (hJ.call (.inr rfl) hx5 rfl))
      | 7,hp =>
       (obtain rfl:21=c':=by simpa using hp);simp only [gA,gB,gC,gD] at ho;subst ho;obtain ⟨u0,u1,u2,u3,u4,u5,u6,rfl⟩:=list_7 hl;have e3:=hF.old 3 (.pointer (some ⟨w.heap.size,0,none⟩)) rfl rfl;have e32:=hF.pure 20 32 (.string (qMf f)) rfl rfl rfl rfl;refine wp_call2P rfl (hF.old 3 (.pointer (some ⟨w.heap.size,0,none⟩)) rfl rfl) e32 Tryz.call61 (WriteString_kb w.heap.size _ _ (qMf f) w' (qKx HBd.out (hJ.ext (by simp))) HLen.out (by have:=(hJ.ext (by simp)).size;omega)) (fun en w5 h5=>⟨_,h5.1,hk _ w5 (hJ.write rfl rfl h5.2.1 h5.2.2.1 h5.2.2.2)⟩)
      | p+8,hp=>simp at hp
    intro us w9 hl hJ;obtain ⟨q0,q1,q2,q3,q4,q5,q6,q7,rfl⟩:=list_8 hl
    first | (rename_i hK;refine hK _ _ ?_;clear hK) | (rename_i hK hK_1;refine hK _ _ ?_;clear hK) | (rename_i hK hK_1 hK_2;refine hK _ _ ?_;clear hK) | (rename_i hK hK_1 hK_2 hK_3;refine hK _ _ ?_;clear hK)
    generalize hL:qDx _ _ _ _=L;obtain rfl:L=[(12,.pointer (some ⟨gx,0,none⟩)),(13,.string f.reel),(14,.pointer (some ⟨gx,1,none⟩)),(15,.int .i64 f.id),(16,q0),(17,.agg #[.string f.reel,.int .i64 f.id,.slice pA np pc,.int .i64 f.lost,.slice sA ns sc]),(18,q1),(19,.pointer (some ⟨gx,2,none⟩)),(20,.slice pA np pc),(21,.int .i64 (np:Int)),(22,q2),(23,.pointer (some ⟨gx,3,none⟩)),(24,.int .i64 f.lost),(25,q3),(26,.pointer (some ⟨gx,4,none⟩)),(27,.slice sA ns sc),(28,.int .i64 (ns:Int)),(29,q4),(30,q5),(31,q6),(32,.string (qMf f)),(33,q7)]:=hL.symm.trans (by kernel_rfl);clear hL hl;simp only [Act.put,List.foldl_cons,List.foldl_nil,List.setIfInBounds_toArray,List.set_cons_zero,List.set_cons_succ];obtain ⟨w5,hx5,hb5,hbl,-⟩:=hJ.fin rfl;have HX9:Hid (Ext w w9):=((HX.out.trans HXf.out).trans hx5).below hbl (Nat.le_refl _)
    have HB9:Hid (Lib.IsBuilder 122 5 w.heap.size w.heap.size (Lib.byteCells (qJf (l.take (k+1)))) w9):=by
     show Lib.IsBuilder _ _ _ _ _ _
     rw [HTx.out,qIb,← strCells_eq];exact .inr hb5
    (have hz9:w.heap.size<w9.heap.size:=by have h1:=hx5.size;have h2:=hbl.size;omega);clear hJ hx5 hb5 hbl;go_wp2_with fail;exact ⟨⟨k+1,by omega,by go_num,HX9.out,hz9,HB9.out⟩,by simp [intOf];omega⟩
  · have hkn:k=n:=by omega
    subst hkn;have HT:Hid (l.take k=l):=List.take_of_length_le (by rw [HLn.out];omega);go_wp2_with fail;refine (Tryz.Builder_String_any w.heap.size _ _ _ HB.out (by omega)).mono ?_;rintro e w2 ⟨rfl,hx2⟩;go_wp2_with fail;go_ret;exact ⟨by rw [HT.out];rfl,HX.out.below hx2 (by omega)⟩
end
section
open Go.RowKit
theorem less_tr {x y z:Ev} (h:qEl x y=true) (k:qEl y z=true):qEl x z=true:=by
 unfold qEl at *;simp only [decide_eq_true_eq] at *;omega
structure EvsV (regs:List Reg) (last:Int) (l:List Ev):Prop where
 each:∀ x∈l,x.err regs=0∧x.id≤last
 srt:l.Pairwise fun x y=>qEl x y=true
 ids:l.Pairwise fun x y=>x.id≠y.id
theorem findE_none {l:List Ev} {id:Int} (h:qBu l id=none):∀ e∈l,e.id≠id:=fun e he=>by
 have:=List.findIdx?_eq_none_iff.1 h e he;simpa using this
theorem evs_v {regs:List Reg} {last:Int} {l:List Ev} (h:qCe regs last [] l=0):EvsV regs last l:=by
 have hk:=evs_ok h
 have hids:∀ i j (hi:i<l.length) (hj:j<l.length),i<j→l[i].id≠l[j].id:=fun i j hi hj hij=>by
  have:=(hk j l[j] (List.getElem?_eq_getElem hj)).2.2.2;rw [List.nil_append] at this;exact findE_none this l[i] (List.mem_of_getElem? (i:=i) (by rw [List.getElem?_take,if_pos hij];exact List.getElem?_eq_getElem hi))
 refine ⟨fun x hx=>?_,?_,List.pairwise_iff_getElem.2 hids⟩
 · obtain ⟨i,hi⟩:=List.getElem?_of_mem hx
   exact ⟨(hk i x hi).1,(hk i x hi).2.1⟩
 · have hs:∀ j (hj:j+1<l.length),qEl l[j] l[j+1]=true:=fun j hj=>by
    have h1:=(hk (j+1) l[j+1] (List.getElem?_eq_getElem hj)).2.2.1;rw [List.nil_append,List.getLast?_eq_getElem?,List.length_take,Nat.min_eq_left (by omega),List.getElem?_take,if_pos (by omega),Nat.add_sub_cancel,List.getElem?_eq_getElem (show j<l.length by omega)] at h1;simpa using h1
   have hd:∀ d i (hj:i+d+1<l.length),qEl (l[i]'(by omega)) l[i+d+1]=true:=by
    intro d
    induction d with
    | zero=>intro i hj;exact hs i hj
    | succ d ih=>intro i hj;exact less_tr (ih i (by omega)) (hs (i+d+1) hj)
   (refine List.pairwise_iff_getElem.2 fun i j hi hj hij=>?_);have:=hd (j-i-1) i (by omega);(have e:i+(j-i-1)+1=j:=by omega);simp only [e] at this;exact this
end
section
open Go.RowKit
def qDv (r:ByteArray) (id:Int) (pid:Int) (sh:Bool) (l:List Fat):List Fat:=l.map fun f=>if f.reel=r∧f.id=id then f.note pid sh else f
def Fat.key (f:Fat):ByteArray × Int:=(f.reel,f.id)
theorem note_key (f:Fat) (id:Int) (sh:Bool):(f.note id sh).key=f.key:=rfl
theorem keys_modify (l:List Fat) (i:Nat) (id:Int) (sh:Bool):(l.modify i fun f=>f.note id sh).map Fat.key=l.map Fat.key:=by
 apply List.ext_getElem?;intro j;rw [List.getElem?_map,List.getElem?_map,List.getElem?_modify]
 cases l[j]? with
 | none=>simp
 | some f=>by_cases h:i=j<;>simp [h,note_key]
theorem nodup_inj {α:Type} {l:List α} (h:l.Nodup) {i j:Nat} (hi:i<l.length) (hj:j<l.length) (he:l[i]=l[j]):i=j:=by
 have hp:=List.pairwise_iff_getElem.1 h
 rcases Nat.lt_trichotomy i j with c | c | c
 · exact absurd he (hp i j hi hj c)
 · exact c
 · exact absurd he.symm (hp j i hj hi c)
theorem note_modify {l:List Fat} {i:Nat} {r:ByteArray} {x id:Int} {sh:Bool} (hn:(l.map Fat.key).Nodup) (hi:(l.map Fat.key)[i]?=some (r,x)) :
 qDv r x id sh l=l.modify i fun f=>f.note id sh:=by
 unfold qDv;apply List.ext_getElem?;intro j;rw [List.getElem?_map,List.getElem?_modify]
 cases hj:l[j]? with
 | none=>simp
 | some f =>
  simp only [Option.map_some];(have hkj:(l.map Fat.key)[j]?=some f.key:=by rw [List.getElem?_map,hj];rfl)
  by_cases h:i=j
  · subst h
    (have:f.key=(r,x):=by rw [hkj] at hi;exact Option.some.inj hi);have h1:f.reel=r∧f.id=x:=⟨congrArg Prod.fst this,congrArg Prod.snd this⟩;simp [h1]
  · have:¬ (f.reel=r∧f.id=x):=fun h1=>by
     (have h2:f.key=(r,x):=by unfold Fat.key;rw [h1.1,h1.2]);rw [h2] at hkj;obtain ⟨a1,a2⟩:=List.getElem?_eq_some_iff.1 hi;obtain ⟨b1,b2⟩:=List.getElem?_eq_some_iff.1 hkj;exact h (nodup_inj hn a1 b1 (a2.trans b2.symm))
    simp [h,this]
theorem conStep_keys (c:Cut) (least:Int) (i:Nat) (x:Ev) (s:qCv):(qDn c least i x s).fats.map Fat.key=s.fats.map Fat.key:=by
 unfold qDn
 split
 · rfl
 · exact keys_modify _ _ _ _
theorem qJz (c:Cut) (least:Int):∀ (l:List Ev) (i:Nat) (s:qCv),(qCr c least i l s).fats.map Fat.key=s.fats.map Fat.key
 | [],_,_=>rfl
 | x :: l,i,s=>(qJz c least l (i+1) _).trans (conStep_keys c least i x s)
theorem conCut_keys (docs:List RDoc) (least:Int) (s:qCv) (c:Cut):(qFi docs least s c).fats.map Fat.key=s.fats.map Fat.key:=by
 unfold qFi
 split
 · rfl
 · exact qJz _ _ _ _ _
def qMj (docs:List RDoc):List (ByteArray × Int):=docs.flatMap fun d=>d.doc.evs.map fun x=>(d.reel,x.id)
theorem keys_fats (e:Edl) (docs:List RDoc):(qBx e docs).map Fat.key=qMj docs:=by
 unfold qBx qMj;rw [List.map_flatMap]
 congr 1
 funext d
 unfold qFj;rw [List.map_map];rfl
theorem keys_at:∀ {docs:List RDoc} {k j:Nat} {d:RDoc} {x:Ev},docs[k]?=some d→d.doc.evs[j]?=some x→(qMj docs)[offR docs k+j]?=some (d.reel,x.id)
 | [],k,j,d,x,h,_=>by simp at h
 | y :: docs,0,j,d,x,h,hx=>by
  (simp at h;subst h);have hj:=(List.getElem?_eq_some_iff.1 hx).1;unfold qMj offR;rw [List.flatMap_cons,List.take_zero,List.map_nil,List.sum_nil,Nat.zero_add,List.getElem?_append_left (by simpa using hj),List.getElem?_map,hx];rfl
 | y :: docs,k+1,j,d,x,h,hx=>by
  rw [List.getElem?_cons_succ] at h;have ih:=keys_at h hx;(have ho:offR (y :: docs) (k+1)=y.doc.evs.length+offR docs k:=by unfold offR;simp);(have hk:qMj (y :: docs)=(y.doc.evs.map fun x=>(y.reel,x.id))++qMj docs:=by unfold qMj;rw [List.flatMap_cons]);rw [hk,ho,Nat.add_assoc,List.getElem?_append_right (by simp),List.length_map,Nat.add_sub_cancel_left];exact ih
theorem findRd_at {docs:List RDoc} {s:ByteArray} {k:Nat} (h:qHi docs s=some k):∃ d,docs[k]?=some d∧d.reel=s:=by
 obtain ⟨hk,h1,-⟩:=List.findIdx?_eq_some_iff_getElem.1 h;exact ⟨docs[k],List.getElem?_eq_getElem hk,by simpa using h1⟩
theorem rd_reels {rate:Int} {drop:Bool}:∀ {l:List RDoc} {p:Option ByteArray},qDy rate drop p l=0→(∀ q,p=some q→∀ d∈l,q.toList<d.reel.toList)∧l.Pairwise fun a b=>a.reel.toList<b.reel.toList
 | [],p,_=>⟨fun _ _ d hd=>by simp at hd,List.Pairwise.nil⟩
 | x :: l,p,h=>by
  unfold qDy at h
  split at h
  · rename_i h1;exact absurd h h1
  · rename_i h1
    (have h1:qBz rate drop p x=0:=by simpa using h1);obtain ⟨k1,k2⟩:=rd_reels h
    have hlt:∀ q,p=some q→q.toList<x.reel.toList:=fun q hq=>by
     subst hq;unfold qBz at h1
     split at h1
     · omega
     · split at h1
       · omega
       · rename_i h3
         simp only [Option.map_some,Option.some.injEq,Bool.or_eq_true,beq_iff_eq,not_or,Bool.not_eq_true] at h3;obtain ⟨h4,h5⟩:=h3;rw [Go.Proofs.bytesLess_eq] at h4;(have h6:¬ x.reel.toList<q.toList:=by simpa using h4);exact Bs.lt_of_le_of_ne (List.not_lt.1 h6) (fun e=>h5 e.symm)
    refine ⟨fun q hq d hd=>?_,List.pairwise_cons.2 ⟨fun d hd=>k1 x.reel rfl d hd,k2⟩⟩
    rcases List.mem_cons.1 hd with rfl | hd
    · exact hlt q hq
    · exact Bs.lt_trans (hlt q hq) (k1 x.reel rfl d hd)
theorem keys_nodup {rate:Int} {drop:Bool} {l:List RDoc} {p:Option ByteArray} (h:qDy rate drop p l=0):(qMj l).Nodup:=by
 have h1:=(rd_reels h).2;(have h2:=fun d hd=>(qIr h d hd).2.1);clear h;unfold qMj;rw [List.Nodup,List.pairwise_flatMap];refine ⟨fun d hd=>?_,h1.imp ?_⟩
 · have:=(evs_v (qEp (h2 d hd)).2.2.2.1).ids
   exact List.pairwise_map.2 (this.imp fun hne he=>hne (congrArg Prod.snd he))
 · intro a b hab x hx y hy
   obtain ⟨_,_,rfl⟩:=List.mem_map.1 hx;obtain ⟨_,_,rfl⟩:=List.mem_map.1 hy;intro he;have:=congrArg Prod.fst he;simp only at this;rw [this] at hab;exact Bs.lt_irrefl _ hab
end
end Go.Proofs.YtablhmobekmflaaGreatDoor