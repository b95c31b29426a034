/- Texts laid together. -/
import Derived.Test.YtneffpbodfjceaaGreatDoorTa20
set_option linter.unusedVariables false
set_option linter.unusedSimpArgs false
set_option maxRecDepth 100000
set_option maxHeartbeats 16000000
namespace Go.Proofs.YtneffpbodfjceaaGreatDoor
section
open Go.RowKit
theorem qNo (id:Int) (A:Option Addr) (n c:Nat) (l:List Row) (w:World) (hE:Env w) (hl:qCb w A n l) (hb:∀ r∈l,qDn r) (hn:n<=1000000):Calls Tryz.prog 22 #[.agg (edC 4 id 0 0 ⟨#[]⟩ ⟨#[]⟩ (.slice A n c))] w fun e w'=>e = .returned (.int .i64 (qDd id l))/\Ext w w':=by
 obtain ⟨W1,hW1⟩:∃ W1,W1=w.alloc (.cells (edC 4 id 0 0 ⟨#[]⟩ ⟨#[]⟩ (.slice A n c)) 48):=⟨_,rfl⟩;have HX1:Hid (Ext w W1):=gH (by rw [hW1];exact (Ext.refl w).alloc _);have HB1:Hid (Blk W1 w.heap.size 48 #[.int .u8 4,.int .i64 id,.int .i64 0,.int .i64 0,.int .i64 0,.int .i64 0,.int .i64 0,.int .i64 0,.int .i64 0,.int .u8 0,.int .u8 0,.bool false,.bool false,.string ⟨#[]⟩,.string ⟨#[]⟩,.string ⟨#[]⟩,.int .i64 0,.int .i64 0,.int .i64 0,.int .i64 0,.int .u8 0,.bool false,.slice A n c]):=gH (by rw [hW1];exact Blk.new w _ _);have HRw:=gH (fun w' (hx:Ext w w')=>zFs A n c l w' (hE.ext hx) (hl.ext hx) hb hn);clear hE hl hb;unfold edC at hW1 ⊢;(have hcb:=fun o=>HB1.out.cell o);go_enter Tryz.func22,Tryz.ntmps22;go_wp2_with fail;rw [← hW1];clear hW1;go_wp2_with fail;have kop:=hcb 0;simp only [List.getElem?_toArray,List.getElem?_cons_zero] at kop;clear hcb;refine qBb [some 14,some 15,some 16,some 17,some 18,some 19,some 20,some 3,none] [[],[],[1],[2],[0,3],[4],[5],[],[7,6,0,0,1,2,3,4,5,6,7]] [0,4,5,6,8] [7] [undef,.pointer (some ⟨w.heap.size,0,none⟩),.int .u8 4,.int .u8 3,undef,undef,undef,undef,undef] (fun _=>.cells #[.int .i64 0] 3) (FmJ 3 2049 W1) (by kernel_rfl) (by kernel_rfl) (by kernel_rfl) (by kernel_rfl) (by kernel_rfl) (by kernel_rfl) (by kernel_rfl) (by decide) (by kernel_rfl) ?_ ?_ ?_ ?_ ?_ ?_
 . exact FmJ.start W1
 . intro i o ho ha a w' K' hk
   match i,ho with
   | 0,ho | 1,ho | 2,ho | 3,ho | 4,ho | 5,ho | 6,ho=>simp at ha
   | 7,ho =>
    simp only [gA,gB,gC,gD] at ho;subst ho;exact qJw rfl Tryz.zeroValue3 hk
   | 8,ho=>simp at ha
   | i+9,ho=>simp at ho
 . intro i ha us gs w' hJ hn hlim
   match i,ha with
   | 0,ha | 1,ha | 2,ha | 3,ha | 4,ha | 5,ha | 6,ha=>simp at ha
   | 7,ha=>exact hJ.alloc (by have:=hlim 4 8 rfl rfl;omega)
   | 8,ha=>simp at ha
   | i+9,ha=>simp at ha
 . intro i o ho hc ha a w' us gs K' hJ hF hlim hk
   match i,ho with
   | 0,ho=>simp at hc
   | 1,ho =>
    simp only [gA,gB,gC,gD] at ho;subst ho;have e1:=hF.old 1 (.pointer (some ⟨w.heap.size,0,none⟩)) rfl rfl;simp only [Act.eval] at e1;clear hF hlim hJ;go_simp;exact hk
   | 2,ho =>
    simp only [gA,gB,gC,gD] at ho;subst ho;have e15:=hF.pure 1 15 (.pointer (some ⟨w.heap.size,0,none⟩)) rfl rfl rfl rfl rfl;have hcl:=hJ.ext.cell (kop);simp only [Act.eval] at e15;clear hF hlim hJ;go_simp;exact hk
   | 3,ho =>
    simp only [gA,gB,gC,gD] at ho;subst ho;have e16:=hF.pure 2 16 (.int .u8 4) rfl rfl rfl rfl rfl;simp only [Act.eval] at e16;clear hF hlim hJ;go_simp;exact hk
   | 4,ho | 5,ho | 6,ho=>simp at hc
   | 7,ho=>simp at ha
   | 8,ho=>simp at hc
   | i+9,ho=>simp at ho
 . intro p c' o hp ho a w' us gs K' hl hJ hF hk
   match p,hp with
   | 0,hp =>
    (obtain rfl:0=c':=by simpa using hp);simp only [gA,gB,gC,gD] at ho;subst ho;obtain rfl:us=[]:=List.eq_nil_of_length_eq_zero hl;refine qLa rfl Tryz.call59 (qHw w') ?_;rintro en w4 ⟨f,rfl,-,hB,hx⟩;exact ⟨_,rfl,hk _ _ (hJ.call hx hB)⟩
   | 1,hp =>
    (obtain rfl:4=c':=by simpa using hp);simp only [gA,gB,gC,gD] at ho;subst ho;obtain ⟨u0,rfl⟩:=qBv hl;obtain ⟨f,rfl,hBf,-⟩:=hJ.fs _ rfl;have e14:=hF.link 0 0 14 _ rfl rfl rfl rfl;have e17:=hF.pure 3 17 (.int .u8 3) rfl rfl rfl rfl rfl;have HK:=gH (hk _ _ hJ.idx);simp only [Nat.reduceMul] at HK;simp [Act.eval] at e14 e17;clear hk hF hJ;go_simp;exact HK.out
   | 2,hp =>
    (obtain rfl:5=c':=by simpa using hp);simp only [gA,gB,gC,gD] at ho;subst ho;obtain ⟨u0,u1,rfl⟩:=qCm hl;obtain ⟨f,rfl,hBf,h1,-⟩:=hJ.fs _ rfl;obtain rfl:=h1 _ rfl;have e18:=hF.link 1 4 18 _ rfl rfl rfl rfl;have HK:=gH (hk _ _ hJ.fld);simp only [Nat.reduceMul,Nat.reduceAdd] at HK;simp [Act.eval] at e18;clear hk hF hJ h1;go_simp;exact HK.out
   | 3,hp =>
    (obtain rfl:6=c':=by simpa using hp);simp only [gA,gB,gC,gD] at ho;subst ho;obtain ⟨u0,u1,u2,rfl⟩:=qCn hl;obtain ⟨f,rfl,hBf,h1,h2,-⟩:=hJ.fs _ rfl;obtain rfl:=h1 _ rfl;obtain rfl:=h2 _ rfl;have e19:=hF.link 2 5 19 _ rfl rfl rfl rfl;have hcl:=hBf.cell 7;unfold qFn at hcl;simp only [gA,gB,gC] at hcl;have HK:=gH (hk _ _ hJ.ld);simp [Act.eval] at e19;clear hk hF hJ h1 h2;go_simp;exact HK.out
   | 4,hp =>
    (obtain rfl:8=c':=by simpa using hp);simp only [gA,gB,gC,gD] at ho;subst ho;obtain ⟨u0,u1,u2,u3,rfl⟩:=qEm hl;obtain ⟨f,rfl,hBf,h1,h2,h3⟩:=hJ.fs _ rfl;obtain rfl:=h1 _ rfl;obtain rfl:=h2 _ rfl;obtain rfl:=h3 _ rfl;obtain ⟨g3,hg3,e3⟩:=hF.ptr 7 3 rfl rfl rfl rfl;have e20:=hF.link 3 6 20 _ rfl rfl rfl rfl;have hbk:=hJ.blk hg3 (by simp);have hcl:=hbk.cell 0;simp only [List.getElem?_toArray,List.getElem?_cons_zero] at hcl;have hfz:=hbk.frozen 0;have hsl:_=putB w' g3 3 #[.int .i64 2049]:=qAd hbk 0 (.int .i64 2049);have HK:=gH (hk undef _ (hJ.store hg3));simp [Act.eval] at e3 e20;clear hk hF hJ h1 h2 h3;go_simp;exact HK.out
   | p+5,hp=>simp at hp
 intro us gs w4 hl hgs hJ;obtain ⟨u0,u1,u2,u3,u4,rfl⟩:=qHz hl;obtain ⟨g7,hg7⟩:=Option.isSome_iff_exists.1 (hgs 7 rfl)
 first | (rename_i hK;refine hK _ _ ?_;clear hK) | (rename_i hK hK_1;refine hK _ _ ?_;clear hK) | (rename_i hK hK_1 hK_2;refine hK _ _ ?_;clear hK) | (rename_i hK hK_1 hK_2 hK_3;refine hK _ _ ?_;clear hK)
 generalize hL:qFy _ _ _ _ _ _=L;obtain rfl:L=[(14,u0),(15,.pointer (some ⟨w.heap.size,0,none⟩)),(16,.int .u8 4),(17,.int .u8 3),(18,u1),(19,u2),(20,u3),(3,.pointer ((gs 7).map fun g=>⟨g,0,none⟩))]:=hL.symm.trans (by kernel_rfl);rw [hg7];clear hL hl;simp only [Act.put,Option.map_some,List.foldl_cons,List.foldl_nil,List.setIfInBounds_toArray,List.set_cons_zero,List.set_cons_succ];have HG4:=gH (hJ.va g7 hg7).2;rw [if_neg (by simp)] at HG4;have HX4:=gH (HX1.out.trans hJ.ext);have HB4:=gH (HB1.out.ext hJ.ext);clear hJ hgs hg7 HX1 HB1 kop;(have hb4:=fun o=>HB4.out.cell o);(have hg4:=fun o=>HG4.out.cell o);go_wp2_with (refine qAa rfl 48 (.tmp 1) rfl w.heap.size 48 _ _ (by exact rfl) (by exact HB4.out) Tryz.underlying48 rfl (by exact qBq) ?_);clear hb4 hg4;refine (zDn id A n c _).mono ?_;rintro e w5 ⟨rfl,hx5⟩;have HX5:=gH (HX4.out.trans hx5);have HB5:=gH (HB4.out.ext hx5);have HG5:=gH (HG4.out.ext hx5);clear hx5 HX4 HB4 HG4;(have hb5:=fun o=>HB5.out.cell o);(have hg5:=fun o=>HG5.out.cell o);go_wp2_with (refine qAa rfl 48 (.tmp 1) rfl w.heap.size 48 _ _ (by exact rfl) (by exact HB5.out) Tryz.underlying48 rfl (by exact qBq) ?_);clear hb5 hg5;refine (qYq id A n c _).mono ?_;rintro e w6 ⟨rfl,hx6⟩;have HX6:=gH (HX5.out.trans hx6);have HB6:=gH (HB5.out.ext hx6);have HG6:=gH (HG5.out.ext hx6);clear hx6 HX5 HB5 HG5
 cases hR:inB id 1 1099511627776
 . have HQ:Hid (qDd id l=2):=gH (by unfold qDd;simp [hR])
   clear hR;go_wp2_with fail;go_ret;exact ⟨by rw [HQ.out];rfl,HX6.out⟩
 have HR:=gH hR;clear hR;(have hb6:=fun o=>HB6.out.cell o);(have hg6:=fun o=>HG6.out.cell o);go_wp2_with fail;clear hb6 hg6;refine (qUs g7 _ HG6.out).mono ?_;rintro e w7 ⟨rfl,hx7⟩;have HX7:=gH (HX6.out.trans hx7);have HB7:=gH (HB6.out.ext hx7);have HG7:=gH (HG6.out.ext hx7);clear hx7 HX6 HB6 HG6;(have hb7:=fun o=>HB7.out.cell o);(have hg7:=fun o=>HG7.out.cell o);go_wp2_with fail;clear hb7 hg7;refine (qRv g7 _ HG7.out).mono ?_;rintro e w8 ⟨rfl,hx8⟩;have HX8:=gH (HX7.out.trans hx8);have HB8:=gH (HB7.out.ext hx8);have HG8:=gH (HG7.out.ext hx8);clear hx8 HX7 HB7 HG7;(have hb8:=fun o=>HB8.out.cell o);(have hg8:=fun o=>HG8.out.cell o);go_wp2_with fail;clear hb8 hg8;refine (qRw g7 _ HG8.out).mono ?_;rintro e w9 ⟨rfl,hx9⟩;have HX9:=gH (HX8.out.trans hx9);have HB9:=gH (HB8.out.ext hx9);have HG9:=gH (HG8.out.ext hx9);clear hx9 HX8 HB8 HG8;(have hb9:=fun o=>HB9.out.cell o);(have hg9:=fun o=>HG9.out.cell o);go_wp2_with fail;clear hb9 hg9;refine (qRx g7 _ HG9.out).mono ?_;rintro e w10 ⟨rfl,hx10⟩;have HX10:=gH (HX9.out.trans hx10);have HB10:=gH (HB9.out.ext hx10);have HG10:=gH (HG9.out.ext hx10);clear hx10 HX9 HB9 HG9;(have hb10:=fun o=>HB10.out.cell o);(have hg10:=fun o=>HG10.out.cell o);go_wp2_with fail;clear hb10 hg10;refine (qPg g7 _ HG10.out).mono ?_;rintro e w11 ⟨rfl,hx11⟩;have HX11:=gH (HX10.out.trans hx11);have HB11:=gH (HB10.out.ext hx11);have HG11:=gH (HG10.out.ext hx11);clear hx11 HX10 HB10 HG10
 (have hb11:=fun o=>HB11.out.cell o);(have hg11:=fun o=>HG11.out.cell o);go_wp2_with fail;clear hb11 hg11;refine (qPh g7 _ HG11.out).mono ?_;rintro e w12 ⟨rfl,hx12⟩;have HX12:=gH (HX11.out.trans hx12);have HB12:=gH (HB11.out.ext hx12);have HG12:=gH (HG11.out.ext hx12);clear hx12 HX11 HB11 HG11;(have hb12:=fun o=>HB12.out.cell o);(have hg12:=fun o=>HG12.out.cell o);go_wp2_with fail;clear hb12 hg12;refine (HRw.out _ HX12.out).mono ?_;rintro e wz ⟨rfl,hxz⟩;have HXz:=gH (HX12.out.trans hxz);have HQ:Hid (qDd id l=qKs l):=gH (by unfold qDd;simp [HR.out]);clear hxz;go_wp2_with fail;go_ret;exact ⟨by rw [HQ.out];rfl,HXz.out⟩
theorem qXu (id fr til:Int) (nm tx:ByteArray) (w:World) (hE:Env w) (hn:nm.size<=9223372036854775807) (ht:tx.size<=9223372036854775807):Calls Tryz.prog 22 #[.agg (edC 17 id fr til nm tx (.slice none 0 0))] w fun e w'=>e = .returned (.int .i64 (qCq id fr til nm tx))/\Ext w w':=by
 obtain ⟨W1,hW1⟩:∃ W1,W1=w.alloc (.cells (edC 17 id fr til nm tx (.slice none 0 0)) 48):=⟨_,rfl⟩;have HX1:Hid (Ext w W1):=gH (by rw [hW1];exact (Ext.refl w).alloc _);have HB1:Hid (Blk W1 w.heap.size 48 #[.int .u8 17,.int .i64 id,.int .i64 0,.int .i64 0,.int .i64 0,.int .i64 0,.int .i64 0,.int .i64 fr,.int .i64 til,.int .u8 0,.int .u8 0,.bool false,.bool false,.string nm,.string tx,.string ⟨#[]⟩,.int .i64 0,.int .i64 0,.int .i64 0,.int .i64 0,.int .u8 0,.bool false,.slice none 0 0]):=gH (by rw [hW1];exact Blk.new w _ _);have HTx:=gH (fun w' (hx:Ext w w')=>zCf id fr til nm tx w' (hE.ext hx) ht);have HNm:Hid (∀ w',Calls Tryz.prog 107 #[.string nm] w' fun e w2=>e = .returned (.bool (qCt nm))/\Ext w' w2):=gH (fun w'=>(qDc nm w' hn).mono (fun e w2 h=>⟨h.1,h.2 ▸ Ext.refl _⟩));clear hE;unfold edC at hW1 ⊢;(have hcb:=fun o=>HB1.out.cell o);go_enter Tryz.func22,Tryz.ntmps22;go_wp2_with fail;rw [← hW1];clear hW1;go_wp2_with fail;have kop:=hcb 0;simp only [List.getElem?_toArray,List.getElem?_cons_zero] at kop;clear hcb
 refine qBb [some 14,some 15,some 16,some 17,some 18,some 19,some 20,some 3,none] [[],[],[1],[2],[0,3],[4],[5],[],[7,6,0,0,1,2,3,4,5,6,7]] [0,4,5,6,8] [7] [undef,.pointer (some ⟨w.heap.size,0,none⟩),.int .u8 17,.int .u8 16,undef,undef,undef,undef,undef] (fun _=>.cells #[.int .i64 0] 3) (FmJ 16 801 W1) (by kernel_rfl) (by kernel_rfl) (by kernel_rfl) (by kernel_rfl) (by kernel_rfl) (by kernel_rfl) (by kernel_rfl) (by decide) (by kernel_rfl) ?_ ?_ ?_ ?_ ?_ ?_
 . exact FmJ.start W1
 . intro i o ho ha a w' K' hk
   match i,ho with
   | 0,ho | 1,ho | 2,ho | 3,ho | 4,ho | 5,ho | 6,ho=>simp at ha
   | 7,ho =>
    simp only [gA,gB,gC,gD] at ho;subst ho;exact qJw rfl Tryz.zeroValue3 hk
   | 8,ho=>simp at ha
   | i+9,ho=>simp at ho
 . intro i ha us gs w' hJ hn hlim
   match i,ha with
   | 0,ha | 1,ha | 2,ha | 3,ha | 4,ha | 5,ha | 6,ha=>simp at ha
   | 7,ha=>exact hJ.alloc (by have:=hlim 4 8 rfl rfl;omega)
   | 8,ha=>simp at ha
   | i+9,ha=>simp at ha
 . intro i o ho hc ha a w' us gs K' hJ hF hlim hk
   match i,ho with
   | 0,ho=>simp at hc
   | 1,ho =>
    simp only [gA,gB,gC,gD] at ho;subst ho;have e1:=hF.old 1 (.pointer (some ⟨w.heap.size,0,none⟩)) rfl rfl;simp only [Act.eval] at e1;clear hF hlim hJ;go_simp;exact hk
   | 2,ho =>
    simp only [gA,gB,gC,gD] at ho;subst ho;have e15:=hF.pure 1 15 (.pointer (some ⟨w.heap.size,0,none⟩)) rfl rfl rfl rfl rfl;have hcl:=hJ.ext.cell (kop);simp only [Act.eval] at e15;clear hF hlim hJ;go_simp;exact hk
   | 3,ho =>
    simp only [gA,gB,gC,gD] at ho;subst ho;have e16:=hF.pure 2 16 (.int .u8 17) rfl rfl rfl rfl rfl;simp only [Act.eval] at e16;clear hF hlim hJ;go_simp;exact hk
   | 4,ho | 5,ho | 6,ho=>simp at hc
   | 7,ho=>simp at ha
   | 8,ho=>simp at hc
   | i+9,ho=>simp at ho
 . intro p c' o hp ho a w' us gs K' hl hJ hF hk
   match p,hp with
   | 0,hp =>
    (obtain rfl:0=c':=by simpa using hp);simp only [gA,gB,gC,gD] at ho;subst ho;obtain rfl:us=[]:=List.eq_nil_of_length_eq_zero hl;refine qLa rfl Tryz.call59 (qHw w') ?_;rintro en w4 ⟨f,rfl,-,hB,hx⟩;exact ⟨_,rfl,hk _ _ (hJ.call hx hB)⟩
   | 1,hp =>
    (obtain rfl:4=c':=by simpa using hp);simp only [gA,gB,gC,gD] at ho;subst ho;obtain ⟨u0,rfl⟩:=qBv hl;obtain ⟨f,rfl,hBf,-⟩:=hJ.fs _ rfl;have e14:=hF.link 0 0 14 _ rfl rfl rfl rfl;have e17:=hF.pure 3 17 (.int .u8 16) rfl rfl rfl rfl rfl;have HK:=gH (hk _ _ hJ.idx);simp only [Nat.reduceMul] at HK;simp [Act.eval] at e14 e17;clear hk hF hJ;go_simp;exact HK.out
   | 2,hp =>
    (obtain rfl:5=c':=by simpa using hp);simp only [gA,gB,gC,gD] at ho;subst ho;obtain ⟨u0,u1,rfl⟩:=qCm hl;obtain ⟨f,rfl,hBf,h1,-⟩:=hJ.fs _ rfl;obtain rfl:=h1 _ rfl;have e18:=hF.link 1 4 18 _ rfl rfl rfl rfl;have HK:=gH (hk _ _ hJ.fld);simp only [Nat.reduceMul,Nat.reduceAdd] at HK;simp [Act.eval] at e18;clear hk hF hJ h1;go_simp;exact HK.out
   | 3,hp =>
    (obtain rfl:6=c':=by simpa using hp);simp only [gA,gB,gC,gD] at ho;subst ho;obtain ⟨u0,u1,u2,rfl⟩:=qCn hl;obtain ⟨f,rfl,hBf,h1,h2,-⟩:=hJ.fs _ rfl;obtain rfl:=h1 _ rfl;obtain rfl:=h2 _ rfl;have e19:=hF.link 2 5 19 _ rfl rfl rfl rfl;have hcl:=hBf.cell 33;unfold qFn at hcl;simp only [gA,gB,gC] at hcl;have HK:=gH (hk _ _ hJ.ld);simp [Act.eval] at e19;clear hk hF hJ h1 h2;go_simp;exact HK.out
   | 4,hp =>
    (obtain rfl:8=c':=by simpa using hp);simp only [gA,gB,gC,gD] at ho;subst ho;obtain ⟨u0,u1,u2,u3,rfl⟩:=qEm hl;obtain ⟨f,rfl,hBf,h1,h2,h3⟩:=hJ.fs _ rfl;obtain rfl:=h1 _ rfl;obtain rfl:=h2 _ rfl;obtain rfl:=h3 _ rfl;obtain ⟨g3,hg3,e3⟩:=hF.ptr 7 3 rfl rfl rfl rfl;have e20:=hF.link 3 6 20 _ rfl rfl rfl rfl;have hbk:=hJ.blk hg3 (by simp);have hcl:=hbk.cell 0;simp only [List.getElem?_toArray,List.getElem?_cons_zero] at hcl;have hfz:=hbk.frozen 0;have hsl:_=putB w' g3 3 #[.int .i64 801]:=qAd hbk 0 (.int .i64 801);have HK:=gH (hk undef _ (hJ.store hg3));simp [Act.eval] at e3 e20;clear hk hF hJ h1 h2 h3;go_simp;exact HK.out
   | p+5,hp=>simp at hp
 intro us gs w4 hl hgs hJ;obtain ⟨u0,u1,u2,u3,u4,rfl⟩:=qHz hl;obtain ⟨g7,hg7⟩:=Option.isSome_iff_exists.1 (hgs 7 rfl)
 first | (rename_i hK;refine hK _ _ ?_;clear hK) | (rename_i hK hK_1;refine hK _ _ ?_;clear hK) | (rename_i hK hK_1 hK_2;refine hK _ _ ?_;clear hK) | (rename_i hK hK_1 hK_2 hK_3;refine hK _ _ ?_;clear hK)
 generalize hL:qFy _ _ _ _ _ _=L;obtain rfl:L=[(14,u0),(15,.pointer (some ⟨w.heap.size,0,none⟩)),(16,.int .u8 17),(17,.int .u8 16),(18,u1),(19,u2),(20,u3),(3,.pointer ((gs 7).map fun g=>⟨g,0,none⟩))]:=hL.symm.trans (by kernel_rfl);rw [hg7];clear hL hl;simp only [Act.put,Option.map_some,List.foldl_cons,List.foldl_nil,List.setIfInBounds_toArray,List.set_cons_zero,List.set_cons_succ];have HG4:=gH (hJ.va g7 hg7).2;rw [if_neg (by simp)] at HG4;have HX4:=gH (HX1.out.trans hJ.ext);have HB4:=gH (HB1.out.ext hJ.ext);clear hJ hgs hg7 HX1 HB1 kop;(have hb4:=fun o=>HB4.out.cell o);(have hg4:=fun o=>HG4.out.cell o);go_wp2_with (refine qAa rfl 48 (.tmp 1) rfl w.heap.size 48 _ _ (by exact rfl) (by exact HB4.out) Tryz.underlying48 rfl (by exact qBq) ?_);clear hb4 hg4;refine (zDm id fr til nm tx _).mono ?_;rintro e w5 ⟨rfl,hx5⟩;have HX5:=gH (HX4.out.trans hx5);have HB5:=gH (HB4.out.ext hx5);have HG5:=gH (HG4.out.ext hx5);clear hx5 HX4 HB4 HG4;(have hb5:=fun o=>HB5.out.cell o);(have hg5:=fun o=>HG5.out.cell o);go_wp2_with (refine qAa rfl 48 (.tmp 1) rfl w.heap.size 48 _ _ (by exact rfl) (by exact HB5.out) Tryz.underlying48 rfl (by exact qBq) ?_);clear hb5 hg5;refine (qYp id fr til nm tx _).mono ?_;rintro e w6 ⟨rfl,hx6⟩;have HX6:=gH (HX5.out.trans hx6);have HB6:=gH (HB5.out.ext hx6);have HG6:=gH (HG5.out.ext hx6);clear hx6 HX5 HB5 HG5
 cases hR:(inB id 1 1099511627776 && (inB fr 0 262144 && inB til 0 262144))
 . have HQ:Hid (qCq id fr til nm tx=2):=gH (by unfold qCq;simp [hR])
   clear hR;go_wp2_with fail;go_ret;exact ⟨by rw [HQ.out];rfl,HX6.out⟩
 have HR:=gH hR;clear hR;(have hb6:=fun o=>HB6.out.cell o);(have hg6:=fun o=>HG6.out.cell o);go_wp2_with fail;clear hb6 hg6;refine (qXk g7 _ HG6.out).mono ?_;rintro e w7 ⟨rfl,hx7⟩;have HX7:=gH (HX6.out.trans hx7);have HB7:=gH (HB6.out.ext hx7);have HG7:=gH (HG6.out.ext hx7);clear hx7 HX6 HB6 HG6;(have hb7:=fun o=>HB7.out.cell o);(have hg7:=fun o=>HG7.out.cell o);go_wp2_with fail;clear hb7 hg7;refine (qUt g7 _ HG7.out).mono ?_;rintro e w8 ⟨rfl,hx8⟩;have HX8:=gH (HX7.out.trans hx8);have HB8:=gH (HB7.out.ext hx8);have HG8:=gH (HG7.out.ext hx8);clear hx8 HX7 HB7 HG7;(have hb8:=fun o=>HB8.out.cell o);(have hg8:=fun o=>HG8.out.cell o);go_wp2_with fail;clear hb8 hg8;refine (qUu g7 _ HG8.out).mono ?_;rintro e w9 ⟨rfl,hx9⟩;have HX9:=gH (HX8.out.trans hx9);have HB9:=gH (HB8.out.ext hx9);have HG9:=gH (HG8.out.ext hx9);clear hx9 HX8 HB8 HG8;(have hb9:=fun o=>HB9.out.cell o);(have hg9:=fun o=>HG9.out.cell o);go_wp2_with fail;clear hb9 hg9;refine (HNm.out _).mono ?_;rintro e w10 ⟨rfl,hx10⟩;have HX10:=gH (HX9.out.trans hx10);have HB10:=gH (HB9.out.ext hx10);have HG10:=gH (HG9.out.ext hx10);clear hx10 HX9 HB9 HG9
 cases hN:qCt nm
 . have HN:=gH hN
   have HQ:Hid (qCq id fr til nm tx=5):=gH (by unfold qCq;simp [HR.out,hN]);clear hN;(have hb10:=fun o=>HB10.out.cell o);(have hg10:=fun o=>HG10.out.cell o)
   cases hem:nm.toList.isEmpty
   . have hem2:(!nm.toList.isEmpty)=true:=by rw [hem];rfl
     go_wp2_with fail;go_ret;exact ⟨by rw [HQ.out];rfl,HX10.out⟩
   . have hem2:(!nm.toList.isEmpty)=false:=by rw [hem];rfl
     go_wp2_with fail;refine (qSa g7 _ HG10.out).mono ?_;rintro e wz ⟨rfl,hxz⟩;have HXz:=gH (HX10.out.trans hxz);clear hxz;go_wp2_with fail;go_ret;exact ⟨by rw [HQ.out];rfl,HXz.out⟩
 have HN:=gH hN;clear hN;(have hb10:=fun o=>HB10.out.cell o);(have hg10:=fun o=>HG10.out.cell o);go_wp2_with fail;clear hb10 hg10;refine (qUv g7 _ HG10.out).mono ?_;rintro e w11 ⟨rfl,hx11⟩;have HX11:=gH (HX10.out.trans hx11);have HB11:=gH (HB10.out.ext hx11);have HG11:=gH (HG10.out.ext hx11);clear hx11 HX10 HB10 HG10;(have hb11:=fun o=>HB11.out.cell o);(have hg11:=fun o=>HG11.out.cell o);go_wp2_with (refine qAa rfl 48 (.tmp 1) rfl w.heap.size 48 _ _ (by exact rfl) (by exact HB11.out) Tryz.underlying48 rfl (by exact qBq) ?_);clear hb11 hg11;refine (HTx.out _ HX11.out).mono ?_;rintro e wt ⟨rfl,hxt⟩;have HXt:=gH (HX11.out.trans hxt);have HGt:=gH (HG11.out.ext hxt);clear hxt
 by_cases h0:tErr tx=0
 case neg =>
  (have q1:(tErr tx != 0)=true:=by simpa using h0);have HQ:Hid (qCq id fr til nm tx=tErr tx):=gH (by unfold qCq;simp [HR.out,HN.out]);clear h0;go_wp2_with fail;go_ret;exact ⟨by rw [HQ.out];rfl,HXt.out⟩
 have HQ:Hid (qCq id fr til nm tx=0):=gH (by unfold qCq;simp [HR.out,HN.out,h0]);rw [h0];clear h0;go_wp2_with fail;refine (qRy g7 _ HGt.out).mono ?_;rintro e wu ⟨rfl,hxu⟩;have HXu:=gH (HXt.out.trans hxu);have HGu:=gH (HGt.out.ext hxu);clear hxu;go_wp2_with fail;refine (qRz g7 _ HGu.out).mono ?_;rintro e wv ⟨rfl,hxv⟩;have HXv:=gH (HXu.out.trans hxv);clear hxv;go_wp2_with fail;go_ret;exact ⟨by rw [HQ.out];rfl,HXv.out⟩
theorem qWz (c:Com) (before after:ByteArray) (w:World) (hb:before.size<=35184372088831) (ha:after.size<=35184372088831) :
 Calls Tryz.prog 191 #[.agg c.vals.toArray,.string before,.string after] w fun en w'=>en = .returned (.agg (c.fol (qAo before 0) (qAo after 0)).vals.toArray)/\Ext w w':=by
 have HRa:=gH (fun w'=>qPt before w' hb);have HRb:=gH (fun w'=>qPt after w' ha);have hna:=qGr before;have hnb:=qGr after;have HX:Hid (Ext w ((w.alloc (.cells #[.int .i64 c.id,.int .i64 c.ev,.int .i64 c.fr,.int .i64 c.til,.string c.author,.string c.text,.bool c.done,.bool c.lost] 95)).alloc (.cells #[.int .i64 0,.int .i64 0,.int .i64 0,.int .i64 0,.string ⟨#[]⟩,.string ⟨#[]⟩,.bool false,.bool false] 95))):=((Ext.refl w).alloc _).alloc _;have HB:Hid (Blk ((w.alloc (.cells #[.int .i64 c.id,.int .i64 c.ev,.int .i64 c.fr,.int .i64 c.til,.string c.author,.string c.text,.bool c.done,.bool c.lost] 95)).alloc (.cells #[.int .i64 0,.int .i64 0,.int .i64 0,.int .i64 0,.string ⟨#[]⟩,.string ⟨#[]⟩,.bool false,.bool false] 95)) w.heap.size 95 #[.int .i64 c.id,.int .i64 c.ev,.int .i64 c.fr,.int .i64 c.til,.string c.author,.string c.text,.bool c.done,.bool c.lost]):=(Blk.new w _ _).alloc _;have HZ:Hid (Blk ((w.alloc (.cells #[.int .i64 c.id,.int .i64 c.ev,.int .i64 c.fr,.int .i64 c.til,.string c.author,.string c.text,.bool c.done,.bool c.lost] 95)).alloc (.cells #[.int .i64 0,.int .i64 0,.int .i64 0,.int .i64 0,.string ⟨#[]⟩,.string ⟨#[]⟩,.bool false,.bool false] 95)) (w.heap.size+1) 95 #[.int .i64 0,.int .i64 0,.int .i64 0,.int .i64 0,.string ⟨#[]⟩,.string ⟨#[]⟩,.bool false,.bool false]):=Blk.new' (by simp);unfold qHq at HRa HRb;unfold Com.vals;generalize qAo before 0=a at *
 generalize qAo after 0=b at *;go_enter Tryz.func191,Tryz.ntmps191;(have hcb:=fun o=>HB.out.cell o)
 cases hlo:c.lost
 case true =>
  (have HF:Hid (c.fol a b=c):=by show _=_;unfold Com.fol;rw [if_pos hlo]);have HLo:=gH hlo;rw [hlo] at HB HX HZ hcb;clear hlo;go_wp2_with (first | (refine qAa rfl 95 (.tmp 3) rfl (w.heap.size) 95 _ _ (by exact rfl) (by exact HB.out) Tryz.underlying95 rfl (by exact qDa) ?_) | (refine qAc rfl 95 (.tmp 6) _ rfl (w.heap.size+1) 95 _ _ (by exact rfl) (by exact rfl) (by exact HZ.out) (by exact rfl) (by exact qDa) (by simp [Value.oneCell']) ?_));refine bodyPost_ret (v:=.agg #[.int .i64 c.id,.int .i64 c.ev,.int .i64 c.fr,.int .i64 c.til,.string c.author,.string c.text,.bool c.done,.bool true]) ?_ rfl ⟨?_,HX.out.put (by omega) _ _⟩
  . exact qBz (P:=Tryz.prog) Tryz.results191 (g:=w.heap.size+1) rfl (by exact HZ.out.put _) Tryz.underlying95 rfl qDa
  . rw [HF.out,HLo.out]
 have HLo:=gH hlo;rw [hlo] at HB HX HZ hcb;clear hlo;go_wp2_with fail;clear hcb;refine (HRa.out _).mono ?_;rintro en w1 ⟨A,n,c1,rfl,hat1,hc1,hx1⟩;go_wp2_with fail;refine (HRb.out _).mono ?_;rintro en W ⟨B,m,c2,rfl,hat2,hc2,hx2⟩;have HXW:=gH (HX.out.trans (hx1.trans hx2));have HBW:=gH (HB.out.ext (hx1.trans hx2));have HZW:=gH (HZ.out.ext (hx1.trans hx2));have HA:=gH (hat1.ext hx2);have HBr:=gH hat2;have HLa:=gH hat1.len;have HLb:=gH hat2.len;(have hn9:n<=35184372088831:=by have:=hat1.len;omega);(have hm9:m<=35184372088831:=by have:=hat2.len;omega);clear hx1 hx2 hat1 hat2 hna hnb HRa HRb HX HB HZ;have hpl:=Mv.pre_le a b;have hsl:=Mv.suf_le a b (Mv.pre a b);have hla:=HLa.out;have hlb:=HLb.out;obtain ⟨P0,hP0⟩:∃ P0,P0=Mv.pre a b:=⟨_,rfl⟩;obtain ⟨S0,hS0⟩:∃ S0,S0=Mv.suf a b (Mv.pre a b):=⟨_,rfl⟩;(have hp1:P0<=n/\P0<=m:=by omega);(have hs1:P0+S0<=n/\P0+S0<=m:=by rw [hP0,hS0];omega);have HP0:=gH hP0;have HS0:=gH hS0;clear hpl hsl hP0 hS0 hla hlb;obtain ⟨hpn,hpm⟩:=hp1;obtain ⟨hsn,hsm⟩:=hs1;go_upto_block 0 with fail
 go_cut [11] (fun s11 wr=>s11 = .int .i64 P0/\Ext W wr)
 case first =>
  go_wp2_with fail;go_loopg [11] n (fun kx v wr=>∃ k:Nat,v = .int .i64 k/\k<=P0/\n-k<=kx/\Hid (Ext W wr))
  case atStart=>exact ⟨0,rfl,Nat.zero_le _,by omega,(show Hid _ from Ext.refl _)⟩
  case round =>
   obtain ⟨k,rfl,hkP,hkx,HX⟩:=hrel;(have HK:Hid (k<=Mv.pre a b):=by show _<=_;rw [← HP0.out];exact hkP)
   by_cases hlt:k<n/\k<m
   . obtain ⟨hn1,hm1⟩:=hlt
     obtain ⟨b1,o1,x,hA1,hx1,c1⟩:=(HA.out.ext HX.out).cell hn1;obtain ⟨b2,o2,y,hA2,hx2,c2⟩:=(HBr.out.ext HX.out).cell hm1;subst hA1 hA2;(have hmn:(k:Int)<min (n:Int) (m:Int):=by omega);(have hn1i:(k:Int)<(n:Int):=by omega);(have hm1i:(k:Int)<(m:Int):=by omega);(have hk0:(0:Int)<=(k:Int):=by omega);(have fc1:=fun (y:EW wr)=>y.ext.cell c1);(have fc2:=fun (y:EW wr)=>y.ext.cell c2);clear c1 c2
     by_cases he:x=y
     . have heb:(x == y)=true:=by simpa using he
       have HN:=gH (Mv.pre_step HK.out hx1 hx2 he);clear hx1 hx2 he;go_wp2_with fail;refine qBr wr (Ext.refl _) (by kernel_rfl) (by kernel_rfl) ?_
       repeat (go_big_quiet_step ((fail)))
       refine wpQuiet_nil ?_;rintro w9 ⟨⟨_,hx9⟩,rfl⟩;clear fc1 fc2;go_wp2_with fail;go_roundg (n-(k+1))
       case measure=>omega
       case rel=>exact ⟨k+1,by go_num,by rw [HP0.out];exact HN.out,Nat.le_refl _,(show Hid _ from HX.out.trans hx9)⟩
     (have heb:(x == y)=false:=by simpa using he);(have hkp:k=P0:=by rw [HP0.out];exact Mv.pre_stop HK.out (.inr (.inr ⟨x,y,hx1,hx2,he⟩)));clear hx1 hx2 he;have HKP:=gH hkp;clear hkp;go_wp2_with fail;refine qBr wr (Ext.refl _) (by kernel_rfl) (by kernel_rfl) ?_
     repeat (go_big_quiet_step ((fail)))
     refine wpQuiet_nil ?_;rintro w9 ⟨⟨_,hx9⟩,rfl⟩;clear fc1 fc2 hmn hn1i hm1i hk0 heb;go_wp2_with fail;go_meet
     case rel=>exact ⟨by rw [HKP.out],HX.out.trans hx9⟩
   have hkp:k=P0:=by
    rw [HP0.out];refine Mv.pre_stop HK.out ?_;have h1:=HLa.out;have h2:=HLb.out
    by_cases h:k<n
    . exact .inr (.inl (by omega))
    . exact .inl (by omega)
   have HKP:=gH hkp;clear hkp;have hmn:decide ((k:Int)<min (n:Int) (m:Int))=false:=decide_eq_false (by omega);go_wp2_with fail;refine qBr wr (Ext.refl _) (by kernel_rfl) (by kernel_rfl) ?_
   repeat (go_big_quiet_step ((fail)))
   refine wpQuiet_nil ?_;rintro w9 ⟨⟨_,hx9⟩,rfl⟩;clear hmn hlt;go_wp2_with fail;go_meet
   case rel=>exact ⟨by rw [HKP.out],HX.out.trans hx9⟩
 case rest =>
 obtain ⟨rfl,hxc⟩:=hcut;have HX2:=gH (HXW.out.trans hxc);have HB2:=gH (HBW.out.ext hxc);have HZ2:=gH (HZW.out.ext hxc);have HA2:=gH (HA.out.ext hxc);have HBr2:=gH (HBr.out.ext hxc);clear hxc HXW HBW HZW HA HBr;go_upto_block 2 with fail
 go_cut [12] (fun s12 wr=>s12 = .int .i64 S0/\Ext wc wr)
 case first =>
  go_wp2_with fail;go_loopg [12] n (fun kx v wr=>∃ j:Nat,v = .int .i64 j/\j<=S0/\n-j<=kx/\Hid (Ext wc wr))
  case atStart=>exact ⟨0,rfl,Nat.zero_le _,by omega,(show Hid _ from Ext.refl _)⟩
  case round =>
   obtain ⟨j,rfl,hjS,hkx,HXo⟩:=hrel;(have HJ:Hid (j<=Mv.suf a b (Mv.pre a b)):=by show _<=_;rw [← HS0.out];exact hjS);(have hj0:(0:Int)<=(j:Int):=by omega)
   by_cases hlt2:j<n-P0/\j<m-P0
   . obtain ⟨hn2,hm2⟩:=hlt2
     obtain ⟨b1,o1,x,hA1,hx1,c1⟩:=(HA2.out.ext HXo.out).cell (i:=n-1-j) (by omega);obtain ⟨b2,o2,y,hA2,hx2,c2⟩:=(HBr2.out.ext HXo.out).cell (i:=m-1-j) (by omega);(have hmn:(j:Int)<min (n:Int) (m:Int)-(P0:Int):=by omega);(have hd1:(j:Int)<(n:Int)-(P0:Int):=by omega);(have hd2:(j:Int)<(m:Int)-(P0:Int):=by omega);(have hi1:(n:Int)-1-(j:Int)=((n-1-j:Nat):Int):=by omega);(have hi2:(m:Int)-1-(j:Int)=((m-1-j:Nat):Int):=by omega);(have hi3:((n:Int)-1-(j:Int)).toNat=n-1-j:=by omega);(have hi4:((m:Int)-1-(j:Int)).toNat=m-1-j:=by omega);(have hi5:(0:Int)<=(n:Int)-1-(j:Int)/\(n:Int)-1-(j:Int)<(n:Int):=by omega);(have hi6:(0:Int)<=(m:Int)-1-(j:Int)/\(m:Int)-1-(j:Int)<(m:Int):=by omega);obtain ⟨hi7,hi8⟩:=hi5;obtain ⟨hi9,hi10⟩:=hi6;(have hi11:n-1-j<n:=by omega);(have hi12:m-1-j<m:=by omega);(have fc1:=fun (y:EW wr)=>y.ext.cell c1);(have fc2:=fun (y:EW wr)=>y.ext.cell c2);clear c1 c2
     by_cases he:x=y
     . have heb:(x == y)=true:=by simpa using he
       have HN:=gH (Mv.suf_step HJ.out (by have:=HLa.out;have:=HP0.out;omega) (by have:=HLb.out;have:=HP0.out;omega) (by rw [HLa.out];exact hx1) (by rw [HLb.out];exact hx2) he);clear hx1 hx2 he;subst hA1 hA2;go_wp2_with fail;refine qBr wr (Ext.refl _) (by kernel_rfl) (by kernel_rfl) ?_
       repeat (go_big_quiet_step ((fail)))
       refine wpQuiet_nil ?_;rintro w9 ⟨⟨_,hx9⟩,rfl⟩;clear fc1 fc2;go_wp2_with fail;go_roundg (n-(j+1))
       case measure=>omega
       case rel=>exact ⟨j+1,by go_num,by rw [HS0.out];exact HN.out,Nat.le_refl _,(show Hid _ from HXo.out.trans hx9)⟩
     have heb:(x == y)=false:=by simpa using he
     have hjs:j=S0:=by
      rw [HS0.out];exact Mv.suf_stop HJ.out (.inr (.inr ⟨x,y,by have:=HLa.out;have:=HP0.out;omega,by have:=HLb.out;have:=HP0.out;omega,by rw [HLa.out];exact hx1,by rw [HLb.out];exact hx2,he⟩))
     have HJS:=gH hjs;clear hx1 hx2 he hjs;subst hA1 hA2;go_wp2_with fail;refine qBr wr (Ext.refl _) (by kernel_rfl) (by kernel_rfl) ?_
     repeat (go_big_quiet_step ((fail)))
     refine wpQuiet_nil ?_;rintro w9 ⟨⟨_,hx9⟩,rfl⟩;clear fc1 fc2 hmn hd1 hd2 hi1 hi2 hi3 hi4 hi7 hi8 hi9 hi10 hi11 hi12 heb;go_wp2_with fail;go_meet
     case rel=>exact ⟨by rw [HJS.out],HXo.out.trans hx9⟩
   have hjs:j=S0:=by
    rw [HS0.out];refine Mv.suf_stop HJ.out ?_;have h1:=HLa.out;have h2:=HLb.out;have h3:=HP0.out
    by_cases h:j<n-P0
    . exact .inr (.inl (by omega))
    . exact .inl (by omega)
   have HJS:=gH hjs;clear hjs;have hmn:decide ((j:Int)<min (n:Int) (m:Int)-(P0:Int))=false:=decide_eq_false (by omega);go_wp2_with fail;refine qBr wr (Ext.refl _) (by kernel_rfl) (by kernel_rfl) ?_
   repeat (go_big_quiet_step ((fail)))
   refine wpQuiet_nil ?_;rintro w9 ⟨⟨_,hx9⟩,rfl⟩;clear hmn hlt2;go_wp2_with fail;go_meet
   case rel=>exact ⟨by rw [HJS.out],HXo.out.trans hx9⟩
 case rest =>
 obtain ⟨rfl,hxc⟩:=hcut;have HX3:=gH (HX2.out.trans hxc);have HB3:=gH (HB2.out.ext hxc);have HZ3:=gH (HZ2.out.ext hxc);clear hxc HX2 HB2 HZ2 HA2 HBr2;obtain ⟨F,hF⟩:∃ F,F=qPb n m P0 S0 c.fr:=⟨_,rfl⟩;obtain ⟨G,hG⟩:∃ G,G=wto n m P0 S0 c.til:=⟨_,rfl⟩;have HFf:=gH hF;have HGg:=gH hG;clear hF hG;go_upto_block 4 with fail
 go_cut [68] (fun s68 wr=>Ext w wr/\Blk wr w.heap.size 95 #[.int .i64 c.id,.int .i64 c.ev,.int .i64 F,.int .i64 c.til,.string c.author,.string c.text,.bool c.done,.bool false]/\Blk wr (w.heap.size+1) 95 #[.int .i64 0,.int .i64 0,.int .i64 0,.int .i64 0,.string ⟨#[]⟩,.string ⟨#[]⟩,.bool false,.bool false])
 case first =>
  (have hcb:=fun o=>HB3.out.cell o);(have hfb:=fun o=>HB3.out.frozen o);have hsb:=qAd HB3.out 2 (.int .i64 F);simp at hsb
  by_cases z1:(n:Int)-(S0:Int)<=c.fr
  . have hw:IntKind.i64.wrap (c.fr+((m:Int)-(n:Int)))=F:=by rw [HFf.out];unfold qPb;rw [if_pos z1]
    go_wp2_with fail;go_meet
    case rel=>exact ⟨HX3.out.put (Nat.le_refl _) _ _,HB3.out.put _,HZ3.out.put_other (by omega) _⟩
  by_cases z2:(P0:Int)<=c.fr
  . have hw:(m:Int)-(S0:Int)=F:=by rw [HFf.out];unfold qPb;rw [if_neg z1,if_neg (by omega)]
    go_wp2_with fail;go_meet
    case rel=>exact ⟨HX3.out.put (Nat.le_refl _) _ _,HB3.out.put _,HZ3.out.put_other (by omega) _⟩
  (have hw:Hid (F=c.fr):=by show _=_;rw [HFf.out];unfold qPb;rw [if_neg z1,if_pos (by omega)]);go_wp2_with fail;go_meet
  case rel=>exact ⟨HX3.out,by rw [hw.out];exact HB3.out,HZ3.out⟩
 case rest =>
 obtain ⟨hx4,hb4,hz4⟩:=hcut;have HX4:=gH hx4;have HB4:=gH hb4;have HZ4:=gH hz4;clear hx4 hb4 hz4 HX3 HB3 HZ3;go_upto_block 5 with fail
 go_cut [93] (fun s93 wr=>Ext w wr/\Blk wr w.heap.size 95 #[.int .i64 c.id,.int .i64 c.ev,.int .i64 F,.int .i64 G,.string c.author,.string c.text,.bool c.done,.bool false]/\Blk wr (w.heap.size+1) 95 #[.int .i64 0,.int .i64 0,.int .i64 0,.int .i64 0,.string ⟨#[]⟩,.string ⟨#[]⟩,.bool false,.bool false])
 case first =>
  (have hcb:=fun o=>HB4.out.cell o);(have hfb:=fun o=>HB4.out.frozen o);(have hsb:=fun u=>qAd HB4.out 3 u);simp at hsb
  by_cases z1:c.til<=(P0:Int)
  . have hw:Hid (G=c.til):=by show _=_;rw [HGg.out];unfold wto;rw [if_pos z1]
    go_wp2_with fail;go_meet
    case rel=>exact ⟨HX4.out,by rw [hw.out];exact HB4.out,HZ4.out⟩
  by_cases z2:(n:Int)-(S0:Int)<c.til
  . have hw:IntKind.i64.wrap (c.til+((m:Int)-(n:Int)))=G:=by rw [HGg.out];unfold wto;rw [if_neg z1,if_pos z2]
    go_wp2_with fail;go_meet
    case rel=>exact ⟨HX4.out.put (Nat.le_refl _) _ _,HB4.out.put _,HZ4.out.put_other (by omega) _⟩
  (have hw:Hid (G=(P0:Int)):=by show _=_;rw [HGg.out];unfold wto;rw [if_neg z1,if_neg z2]);go_wp2_with fail;go_meet
  case rel=>rw [hw.out];exact ⟨HX4.out.put (Nat.le_refl _) _ _,HB4.out.put _,HZ4.out.put_other (by omega) _⟩
 case rest =>
 obtain ⟨hx5,hb5,hz5⟩:=hcut;have HX5:=gH hx5;have HB5:=gH hb5;have HZ5:=gH hz5;(have hcb:=fun o=>HB5.out.cell o);(have hfb:=fun o=>HB5.out.frozen o);clear hx5 hb5 hz5 HX4 HB4 HZ4
 have HFol:Hid (c.fol a b=c.moved F G):=by
  show _=_
  unfold Com.fol;rw [if_neg (by rw [HLo.out];decide),HFf.out,HGg.out,HLa.out,HLb.out,← HS0.out,← HP0.out]
 by_cases hge:G<=F
 . have HM:Hid (c.moved F G=⟨c.id,c.ev,0,0,c.author,c.text,c.done,true⟩):=by show _=_;unfold Com.moved;rw [if_pos hge]
   have s1:=qAd HB5.out 2 (.int .i64 0);have HB6:=gH (HB5.out.put #[.int .i64 c.id,.int .i64 c.ev,.int .i64 0,.int .i64 G,.string c.author,.string c.text,.bool c.done,.bool false]);have s2:=qAd HB6.out 3 (.int .i64 0);have HB7:=gH (HB6.out.put #[.int .i64 c.id,.int .i64 c.ev,.int .i64 0,.int .i64 0,.string c.author,.string c.text,.bool c.done,.bool false]);have s3:=qAd HB7.out 7 (.bool true);(have hc6:=fun o=>HB6.out.cell o);(have hc7:=fun o=>HB7.out.cell o);(have hf6:=fun o=>HB6.out.frozen o);(have hf7:=fun o=>HB7.out.frozen o);simp at s1 s2 s3;have HZ8:=gH (((HZ5.out.put_other (g':=w.heap.size) (t':=95) (by omega) #[.int .i64 c.id,.int .i64 c.ev,.int .i64 0,.int .i64 G,.string c.author,.string c.text,.bool c.done,.bool false]).put_other (g':=w.heap.size) (t':=95) (by omega) #[.int .i64 c.id,.int .i64 c.ev,.int .i64 0,.int .i64 0,.string c.author,.string c.text,.bool c.done,.bool false]).put_other (g':=w.heap.size) (t':=95) (by omega) #[.int .i64 c.id,.int .i64 c.ev,.int .i64 0,.int .i64 0,.string c.author,.string c.text,.bool c.done,.bool true])
   have HX8:=gH (((HX5.out.put (g:=w.heap.size) (Nat.le_refl _) 95 #[.int .i64 c.id,.int .i64 c.ev,.int .i64 0,.int .i64 G,.string c.author,.string c.text,.bool c.done,.bool false]).put (g:=w.heap.size) (Nat.le_refl _) 95 #[.int .i64 c.id,.int .i64 c.ev,.int .i64 0,.int .i64 0,.string c.author,.string c.text,.bool c.done,.bool false]).put (g:=w.heap.size) (Nat.le_refl _) 95 #[.int .i64 c.id,.int .i64 c.ev,.int .i64 0,.int .i64 0,.string c.author,.string c.text,.bool c.done,.bool true]);have HB8:=gH (HB7.out.put #[.int .i64 c.id,.int .i64 c.ev,.int .i64 0,.int .i64 0,.string c.author,.string c.text,.bool c.done,.bool true]);go_wp2_with (first | (refine qAa rfl 95 (.tmp 3) rfl (w.heap.size) 95 _ _ (by exact rfl) (by exact HB8.out) Tryz.underlying95 rfl (by exact qDa) ?_) | (refine qAc rfl 95 (.tmp 6) _ rfl (w.heap.size+1) 95 _ _ (by exact rfl) (by exact rfl) (by exact HZ8.out) (by exact rfl) (by exact qDa) (by simp [Value.oneCell']) ?_));refine bodyPost_ret (v:=.agg #[.int .i64 c.id,.int .i64 c.ev,.int .i64 0,.int .i64 0,.string c.author,.string c.text,.bool c.done,.bool true]) ?_ rfl ⟨?_,HX8.out.put (by omega) _ _⟩
   . exact qBz (P:=Tryz.prog) Tryz.results191 (g:=w.heap.size+1) rfl (by exact HZ8.out.put _) Tryz.underlying95 rfl qDa
   . rw [HFol.out,HM.out]
 . have HM:Hid (c.moved F G=⟨c.id,c.ev,F,G,c.author,c.text,c.done,c.lost⟩):=by show _=_;unfold Com.moved;rw [if_neg hge]
   go_wp2_with (first | (refine qAa rfl 95 (.tmp 3) rfl (w.heap.size) 95 _ _ (by exact rfl) (by exact HB5.out) Tryz.underlying95 rfl (by exact qDa) ?_) | (refine qAc rfl 95 (.tmp 6) _ rfl (w.heap.size+1) 95 _ _ (by exact rfl) (by exact rfl) (by exact HZ5.out) (by exact rfl) (by exact qDa) (by simp [Value.oneCell']) ?_));refine bodyPost_ret (v:=.agg #[.int .i64 c.id,.int .i64 c.ev,.int .i64 F,.int .i64 G,.string c.author,.string c.text,.bool c.done,.bool false]) ?_ rfl ⟨?_,HX5.out.put (by omega) _ _⟩
   . exact qBz (P:=Tryz.prog) Tryz.results191 (g:=w.heap.size+1) rfl (by exact HZ5.out.put _) Tryz.underlying95 rfl qDa
   . rw [HFol.out,HM.out,HLo.out]
section
variable {g:Nat} {cur2:Array Value} {v:Value} {W w':World}
end
section
variable {g:Nat} {cur2:Array Value} {v:Value} {W w':World}
end
theorem qAw.com_at {w:World} {L k:Nat} {d:Doc} {h:DocH} (o:qAw w L d h) (hk:k<h.cn):∃ g,h.ca=some ⟨g,0,none⟩/\L<=g:=by
 rcases o.coms.2 with ⟨hv,hn⟩ | ⟨g,cap,cur,hv,hg,hb,hnc,hcm,hcs,ht⟩
 . omega
 . exact ⟨g,by injection hv,hg⟩
section
variable {d:Doc} {id:Int} {k:Nat}
end
section
variable {g G8:Nat} {cur2 cs8 cs:Array Value} {v:Value} {W w':World} {us:List Value}
end
theorem qAw.ev_row {w:World} {L k g:Nat} {d:Doc} {h:DocH} {e:Ev} (o:qAw w L d h) (hea:h.ea=some ⟨g,0,none⟩) (he:d.evs[k]?=some e):∃ A n c,qFu w L (EH.of e A n c) e/\qBc w 54 g/\∀ j u,(e.cells A n c).toList[j]?=some u->w.cell? ⟨g,k*7+j,none⟩=some u:=by
 obtain ⟨hs,h1,h2,h3,h4⟩:=o.evs;rw [hea] at h1;have hty:qBc w 54 g:=qAt h1 g rfl;have hk:=(List.getElem?_eq_some_iff.1 he).1;obtain ⟨x,hx⟩:∃ x,hs[k]?=some x:=⟨_,List.getElem?_eq_getElem (by omega)⟩;have hg:=h4 k x e hx he;refine ⟨x.A,x.n,x.c,⟨rfl,hg.2.1,hg.2.2.1,hg.2.2.2⟩,hty,fun j u hu=>?_⟩;have hj:j<7:=(List.getElem?_eq_some_iff.1 hu).1;rw [h1.cellAt (k*7+j) (by omega),qDr EH.vals 7 EH.len hs k x j hx hj,hg.1,EH.of_vals];exact hu
end
end Go.Proofs.YtneffpbodfjceaaGreatDoor