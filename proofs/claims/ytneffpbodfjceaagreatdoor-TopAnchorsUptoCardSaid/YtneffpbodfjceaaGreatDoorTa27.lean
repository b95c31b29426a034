/- Texts laid together. -/
import Derived.Test.YtneffpbodfjceaaGreatDoorTa26
import Derived.Lib.AppendZeros
import Derived.Shelf.SlGeneric
import Derived.Shelf.SlLaysNS
import Derived.Ground.SlgnProg
import Derived.Shelf.SortG.AssemblyIn
import Derived.Shelf.SlicesG.CompactI
import Derived.Sort.EveryDepth
import Derived.Lib.OwnBridge
set_option linter.unusedVariables false
set_option linter.unusedSimpArgs false
set_option maxRecDepth 100000
set_option maxHeartbeats 16000000
namespace Go.Proofs.YtneffpbodfjceaaGreatDoor
section
open Go.RowKit
structure DoJ (X:Doc) (W:World) (us:List Value) (gs:Nat->Option Nat) (w:World):Prop where
 ext:Ext W w
 va:∀ g,gs 9=some g->W.heap.size<=g/\(us.length<=3->Blk w g 27 qAl)/\(us.length=4->∃ h',Blk w g 27 (X.cells h')/\qAw w W.heap.size X h')
 u0:∀ u,us[0]?=some u->∃ h',u = .tuple #[.agg (X.cells h'),.int .i64 0]/\qAw w W.heap.size X h'
 u1:∀ u,us[1]?=some u->∃ h',u = .tuple #[.agg (X.cells h'),.int .i64 0]/\qAw w W.heap.size X h'
 u2:∀ u,us[2]?=some u->∃ h',u = .agg (X.cells h')/\qAw w W.heap.size X h'
section
variable {X:Doc} {W w w2:World} {us:List Value} {gs:Nat->Option Nat} {a0 a1 a2 v:Value} {h':DocH}
theorem DoJ.start (W:World):DoJ X W [] (fun _=>none) W.drew:=⟨(Ext.refl W).drew,fun g h=>(by cases h),fun u h=>(by simp at h),fun u h=>(by simp at h),fun u h=>(by simp at h)⟩
theorem DoJ.alloc (h:DoJ X W us gs w) (hl:us.length<=3):DoJ X W us (upd gs 9 w.heap.size) (w.alloc (.cells qAl 27)):=by
 refine ⟨h.ext.alloc _,fun g hg=>?_,fun u hu=>?_,fun u hu=>?_,fun u hu=>?_⟩
 . rw [qCv] at hg
   obtain rfl:w.heap.size=g:=Option.some.inj hg;exact ⟨h.ext.size,fun _=>Blk.new w _ _,fun h4=>by omega⟩
 . obtain ⟨h',a,b⟩:=h.u0 u hu
   exact ⟨h',a,b.ext ((Ext.refl w).alloc _)⟩
 . obtain ⟨h',a,b⟩:=h.u1 u hu
   exact ⟨h',a,b.ext ((Ext.refl w).alloc _)⟩
 . obtain ⟨h',a,b⟩:=h.u2 u hu
   exact ⟨h',a,b.ext ((Ext.refl w).alloc _)⟩
theorem DoJ.blk {g:Nat} (h:DoJ X W us gs w) (hg:gs 9=some g) (hl:us.length<=3):Blk w g 27 qAl:=(h.va g hg).2.1 hl
theorem DoJ.call (h:DoJ X W [] gs w) (hx:Ext w w2) (ho:qAw w2 w.heap.size X h'):DoJ X W ([]++[.tuple #[.agg (X.cells h'),.int .i64 0]]) gs w2:=by
 refine ⟨h.ext.trans hx,fun g hg=>?_,fun u hu=>?_,fun u hu=>by simp at hu,fun u hu=>by simp at hu⟩
 . exact ⟨(h.va g hg).1,fun _=>(h.blk hg (by simp)).ext hx,fun h4=>by simp at h4⟩
 . simp at hu
   exact ⟨h',hu.symm,ho.le h.ext.size⟩
theorem DoJ.mv (h:DoJ X W [a0] gs w) (ho:qAw w W.heap.size X h'):DoJ X W ([a0]++[.tuple #[.agg (X.cells h'),.int .i64 0]]) gs w:=by
 refine ⟨h.ext,fun g hg=>⟨(h.va g hg).1,fun _=>h.blk hg (by simp),fun h4=>by simp at h4⟩,fun u hu=>h.u0 u (by simpa using hu),fun u hu=>?_,fun u hu=>by simp at hu⟩;simp at hu;exact ⟨h',hu.symm,ho⟩
theorem DoJ.ex (h:DoJ X W [a0,a1] gs w) (ho:qAw w W.heap.size X h'):DoJ X W ([a0,a1]++[.agg (X.cells h')]) gs w:=by
 refine ⟨h.ext,fun g hg=>⟨(h.va g hg).1,fun _=>h.blk hg (by simp),fun h4=>by simp at h4⟩,fun u hu=>h.u0 u (by simpa using hu),fun u hu=>h.u1 u (by simpa using hu),fun u hu=>?_⟩;simp at hu;exact ⟨h',hu.symm,ho⟩
theorem DoJ.store {g:Nat} (h:DoJ X W [a0,a1,a2] gs w) (hg:gs 9=some g) (ho:qAw w W.heap.size X h'):DoJ X W ([a0,a1,a2]++[v]) gs (putB w g 27 (X.cells h')):=by
 have hb:=h.blk hg (by simp);refine ⟨h.ext.put (h.va g hg).1 _ _,fun g' hg'=>?_,fun u hu=>?_,fun u hu=>?_,fun u hu=>?_⟩
 . rw [hg] at hg'
   cases hg'
   exact ⟨(h.va g hg).1,fun h4=>by simp at h4,fun _=>⟨h',hb.put _,ho.put hb _⟩⟩
 . obtain ⟨h1,a,b⟩:=h.u0 u (by simpa using hu)
   exact ⟨h1,a,b.put hb _⟩
 . obtain ⟨h1,a,b⟩:=h.u1 u (by simpa using hu)
   exact ⟨h1,a,b.put hb _⟩
 . obtain ⟨h1,a,b⟩:=h.u2 u (by simpa using hu)
   exact ⟨h1,a,b.put hb _⟩
end
theorem zKg (d s X:Doc) (h k:DocH) (g:Nat) (id:Int) (B:Option Addr) (m q:Nat) (rows:List Row) (w:World) (hE:Env w) (hat:qCx w d h) (hf:qCf d) (hs:DSm d) (hsX:DSm X) (hX:d.apRows id rows=(X,0))
 (hrw:qCb w B m rows) (hmq:m<=q) (hm:m<=1000000) (hsm:∀ r∈rows,qDn r) (hby:(rows.map qAe).sum<=1099511627776) (hB:Blk w g 128 (hisC d h s k (.slice none 0 0) (.slice none 0 0))) :
 Calls Tryz.prog 15 #[.pointer (some ⟨g,0,none⟩),.agg (edC 4 id 0 0 ⟨#[]⟩ ⟨#[]⟩ (.slice B m q))] w fun e w'=>e = .returned (.int .i64 0)/\∃ gu cu h' w1,Ext w w1/\Blk w1 g 128 (hisC d h s k (.slice none 0 0) (.slice none 0 0)) /\
  w'=putB w1 g 128 (hisC X h' s k (.slice (some ⟨gu,0,none⟩) 1 cu) (.slice none 0 0))/\qAw w' w.heap.size X h'/\w'.ownsRow w.heap.size 27 8 (.slice (some ⟨gu,0,none⟩) 1 cu) 1 (d.cells h).toList:=by
 have HX:=gH ((Ext.refl w).alloc (.cells (edC 4 id 0 0 ⟨#[]⟩ ⟨#[]⟩ (.slice B m q)) 48));have HD:=gH (Blk.new w 48 (edC 4 id 0 0 ⟨#[]⟩ ⟨#[]⟩ (.slice B m q)));have HB:=gH (hB.ext HX.out);have hl1:h.rn=d.regs.length:=hat.regs.len.symm;have hl2:h.en=d.evs.length:=hat.evs.len.symm;have hl3:h.cn=d.coms.length:=hat.coms.len.symm;have hs1:=hs.r;have hs2:=hs.e;have hs3:=hs.c
 have HAp:Hid (∀ w',Ext w w'->Calls Tryz.prog 6 #[.agg (d.cells h),.agg (edC 4 id 0 0 ⟨#[]⟩ ⟨#[]⟩ (.slice B m q))] w' fun en w2=>∃ h',en = .returned (.tuple #[.agg (X.cells h'),.int .i64 0])/\qAw w2 w'.heap.size X h'/\Ext w' w2) :=
  gH (fun w' hx=>by
   have:=qQc d h id B m q rows w' (hE.ext hx) (hat.ext hx) hf (by omega) (by omega) (by omega) (by omega) (hrw.ext hx) hmq hm hsm hby;rw [hX] at this
   exact this)
 have HSX:=gH hsX;have HPt:=gH (fun (h4:DocH) w' (hb:Blk w' g 128 (hisC d h s k (.slice none 0 0) (.slice none 0 0)))=>zOg d X s h h4 k g w' hb);clear hE hat hf hs hsX hX hrw hmq hm hsm hby hB hl1 hl2 hl3 hs1 hs2 hs3;have HBf:=HB;unfold Doc.cells at HAp;unfold hisC at HB;unfold edC at *;go_enter Tryz.func15,Tryz.ntmps15;go_wp2_with fail;obtain ⟨W1,hW1⟩:∃ W1,W1=w.alloc (.cells #[.int .u8 4,.int .i64 id,.int .i64 0,.int .i64 0,.int .i64 0,.int .i64 0,.int .i64 0,.int .i64 0,.int .i64 0,.int .u8 0,.int .u8 0,.bool false,.bool false,.string ⟨#[]⟩,.string ⟨#[]⟩,.string ⟨#[]⟩,.int .i64 0,.int .i64 0,.int .i64 0,.int .i64 0,.int .u8 0,.bool false,.slice B m q] 48):=⟨_,rfl⟩;rw [← hW1] at HX HD HB HBf ⊢;have hsz:w.heap.size<=W1.heap.size:=HX.out.size;clear hW1
 refine qBb [some 10,some 11,some 12,some 13,some 14,some 15,some 9,some 16,some 17,some 5,none,some 6] [[],[0],[1],[2],[],[3,4],[5],[6],[6],[],[9,7,5,0,1,2,3,4,5,6,7,9],[8,10,0,1,2,3,4,5,6,7,8,9,10]] [5,6,7,10] [9] [.pointer (some ⟨g,0,none⟩),.pointer (some ⟨g,0,none⟩),.pointer (some ⟨g,0,none⟩),.agg #[.string d.title,.string d.lang,.int .u8 d.rate,.bool d.drop,.int .i64 d.last,.slice h.ra h.rn h.rc,.slice h.ea h.en h.ec,.slice h.ca h.cn h.cc],.agg #[.int .u8 4,.int .i64 id,.int .i64 0,.int .i64 0,.int .i64 0,.int .i64 0,.int .i64 0,.int .i64 0,.int .i64 0,.int .u8 0,.int .u8 0,.bool false,.bool false,.string ⟨#[]⟩,.string ⟨#[]⟩,.string ⟨#[]⟩,.int .i64 0,.int .i64 0,.int .i64 0,.int .i64 0,.int .u8 0,.bool false,.slice B m q],undef,undef,undef,.int .i64 0,undef,undef,.int .i64 0] (fun _=>.cells qAl 27) (DoJ X W1) (by kernel_rfl) (by kernel_rfl) (by kernel_rfl) (by kernel_rfl) (by kernel_rfl) (by kernel_rfl) (by kernel_rfl) (by decide) (by kernel_rfl) ?_ ?_ ?_ ?_ ?_ ?_
 . exact DoJ.start W1
 . intro i o ho ha a w' K' hk
   match i,ho with
   | 0,ho | 1,ho | 2,ho | 3,ho | 4,ho | 5,ho | 6,ho | 7,ho | 8,ho=>simp at ha
   | 9,ho =>
    simp only [gA,gB,gC,gD] at ho;subst ho;exact qDv rfl Tryz.zeroValue27 hk
   | 10,ho | 11,ho=>simp at ha
   | i+12,ho=>simp at ho
 . intro i ha us gs w' hJ hn hlim
   match i,ha with
   | 0,ha | 1,ha | 2,ha | 3,ha | 4,ha | 5,ha | 6,ha | 7,ha | 8,ha=>simp at ha
   | 9,ha=>exact hJ.alloc (by have:=hlim 3 10 rfl rfl;omega)
   | 10,ha | 11,ha=>simp at ha
   | i+12,ha=>simp at ha
 . intro i o ho hc ha a w' us gs K' hJ hF hlim hk
   match i,ho with
   | 0,ho =>
    simp only [gA,gB,gC,gD] at ho;subst ho;have e0:=hF.old 0 (.pointer (some ⟨g,0,none⟩)) rfl rfl;simp only [Act.eval] at e0;clear hF hlim hJ;go_simp;exact hk
   | 1,ho =>
    simp only [gA,gB,gC,gD] at ho;subst ho;have e10:=hF.pure 0 10 (.pointer (some ⟨g,0,none⟩)) rfl rfl rfl rfl rfl;simp only [Act.eval] at e10;clear hF hlim hJ;go_simp;exact hk
   | 2,ho =>
    simp only [gA,gB,gC,gD] at ho;subst ho;have e11:=hF.pure 1 11 (.pointer (some ⟨g,0,none⟩)) rfl rfl rfl rfl rfl;simp only [Act.eval] at e11;clear hF hlim hJ;go_simp;exact hk
   | 3,ho =>
    simp only [gA,gB,gC,gD] at ho;subst ho;have e12:=hF.pure 2 12 (.pointer (some ⟨g,0,none⟩)) rfl rfl rfl rfl rfl;exact qFs 27 _ rfl g 0 128 _ #[.string d.title,.string d.lang,.int .u8 d.rate,.bool d.drop,.int .i64 d.last,.slice h.ra h.rn h.rc,.slice h.ea h.en h.ec,.slice h.ca h.cn h.cc] _ e12 (HB.out.ext hJ.ext) (by exact rfl) Tryz.underlying27 rfl (by exact qAb) hk
   | 4,ho =>
    simp only [gA,gB,gC,gD] at ho;subst ho;have e3:=hF.old 3 (.pointer (some ⟨w.heap.size,0,none⟩)) rfl rfl;exact qBf 48 (.tmp 3) rfl _ 48 _ _ e3 (HD.out.ext hJ.ext) Tryz.underlying48 rfl (by exact qBq) hk
   | 5,ho | 6,ho | 7,ho=>simp at hc
   | 8,ho =>
    simp only [gA,gB,gC,gD] at ho;subst ho;obtain ⟨v9,hv9⟩:=qDp (hF.did 1 6 rfl rfl);have e9:=hF.link 1 6 9 _ rfl rfl rfl hv9;obtain ⟨h',rfl,-⟩:=hJ.u1 v9 hv9;simp only [Act.eval] at e9;clear hF hlim hJ;go_simp;exact hk
   | 9,ho=>simp at ha
   | 10,ho=>simp at hc
   | 11,ho =>
    simp only [gA,gB,gC,gD] at ho;subst ho;have e17:=hF.pure 8 17 (.int .i64 0) rfl rfl rfl rfl rfl;simp only [Act.eval] at e17;clear hF hlim hJ;go_simp;exact hk
   | i+12,ho=>simp at ho
 . intro p c' o hp ho a w' us gs K' hl hJ hF hk
   match p,hp with
   | 0,hp =>
    (obtain rfl:5=c':=by simpa using hp);simp only [gA,gB,gC,gD] at ho;subst ho;obtain rfl:us=[]:=List.eq_nil_of_length_eq_zero hl;have e13:=hF.pure 3 13 (.agg #[.string d.title,.string d.lang,.int .u8 d.rate,.bool d.drop,.int .i64 d.last,.slice h.ra h.rn h.rc,.slice h.ea h.en h.ec,.slice h.ca h.cn h.cc]) rfl rfl rfl rfl rfl;have e14:=hF.pure 4 14 (.agg #[.int .u8 4,.int .i64 id,.int .i64 0,.int .i64 0,.int .i64 0,.int .i64 0,.int .i64 0,.int .i64 0,.int .i64 0,.int .u8 0,.int .u8 0,.bool false,.bool false,.string ⟨#[]⟩,.string ⟨#[]⟩,.string ⟨#[]⟩,.int .i64 0,.int .i64 0,.int .i64 0,.int .i64 0,.int .u8 0,.bool false,.slice B m q]) rfl rfl rfl rfl rfl;refine qDm rfl e13 e14 Tryz.call6 (HAp.out w' (HX.out.trans hJ.ext)) ?_;rintro en w5 ⟨h',rfl,ho,hx5⟩;exact ⟨_,rfl,hk _ w5 (hJ.call hx5 ho)⟩
   | 1,hp =>
    (obtain rfl:6=c':=by simpa using hp);simp only [gA,gB,gC,gD] at ho;subst ho;obtain ⟨u0,rfl⟩:=qBv hl;obtain ⟨h',rfl,ho⟩:=hJ.u0 _ rfl;have e15:=hF.link 0 5 15 _ rfl rfl rfl rfl;have HK:=gH (hk _ w' (hJ.mv ho));simp [Act.eval] at e15;clear hk hF hJ;go_simp;exact HK.out
   | 2,hp =>
    (obtain rfl:7=c':=by simpa using hp);simp only [gA,gB,gC,gD] at ho;subst ho;obtain ⟨u0,u1,rfl⟩:=qCm hl;obtain ⟨h',rfl,ho⟩:=hJ.u1 _ rfl;have e9:=hF.link 1 6 9 _ rfl rfl rfl rfl;have HK:=gH (hk _ w' (hJ.ex ho));simp [Act.eval] at e9;clear hk hF hJ;go_simp;exact HK.out
   | 3,hp =>
    (obtain rfl:10=c':=by simpa using hp);simp only [gA,gB,gC,gD] at ho;subst ho;obtain ⟨u0,u1,u2,rfl⟩:=qCn hl;obtain ⟨h',rfl,ho⟩:=hJ.u2 _ rfl;obtain ⟨g5,hg5,e5⟩:=hF.ptr 9 5 rfl rfl rfl rfl;have e16:=hF.link 2 7 16 _ rfl rfl rfl rfl;exact qCh 27 (.tmp 5) (.tmp 16) rfl g5 27 _ _ e5 e16 (by exact qAb) (by simp [Doc.cells,Value.oneCell']) (hJ.blk hg5 (by simp)) rfl (hk undef _ (hJ.store hg5 ho))
   | p+4,hp=>simp at hp
 intro us gs W2 hl hgs hJ;obtain ⟨u0,u1,u2,u3,rfl⟩:=qEm hl;obtain ⟨g9,hg9⟩:=Option.isSome_iff_exists.1 (hgs 9 rfl)
 first | (rename_i hK;refine hK _ _ ?_;clear hK) | (rename_i hK hK_1;refine hK _ _ ?_;clear hK) | (rename_i hK hK_1 hK_2;refine hK _ _ ?_;clear hK) | (rename_i hK hK_1 hK_2 hK_3;refine hK _ _ ?_;clear hK)
 generalize hL:qFy _ _ _ _ _ _=L;obtain rfl:L=[(10,.pointer (some ⟨g,0,none⟩)),(11,.pointer (some ⟨g,0,none⟩)),(12,.pointer (some ⟨g,0,none⟩)),(13,.agg #[.string d.title,.string d.lang,.int .u8 d.rate,.bool d.drop,.int .i64 d.last,.slice h.ra h.rn h.rc,.slice h.ea h.en h.ec,.slice h.ca h.cn h.cc]),(14,.agg #[.int .u8 4,.int .i64 id,.int .i64 0,.int .i64 0,.int .i64 0,.int .i64 0,.int .i64 0,.int .i64 0,.int .i64 0,.int .u8 0,.int .u8 0,.bool false,.bool false,.string ⟨#[]⟩,.string ⟨#[]⟩,.string ⟨#[]⟩,.int .i64 0,.int .i64 0,.int .i64 0,.int .i64 0,.int .u8 0,.bool false,.slice B m q]),(15,u0),(9,u1),(16,u2),(17,.int .i64 0),(5,.pointer ((gs 9).map fun g=>⟨g,0,none⟩)),(6,.int .i64 0)]:=hL.symm.trans (by kernel_rfl);rw [hg9];clear hL hl;simp only [Act.put,Option.map_some,List.foldl_cons,List.foldl_nil,List.setIfInBounds_toArray,List.set_cons_zero,List.set_cons_succ];obtain ⟨hlo,-,h3⟩:=hJ.va g9 hg9;obtain ⟨h1,hbk,ho⟩:=h3 rfl;have HX2:=gH (HX.out.trans hJ.ext);have HB2:=gH (HBf.out.ext hJ.ext);have hs1:=HSX.out.r;have hs2:=HSX.out.e;have hs3:=HSX.out.c;have hl1:h1.rn=X.regs.length:=ho.at_.regs.len.symm;have hl2:h1.en=X.evs.length:=ho.at_.evs.len.symm;have hl3:h1.cn=X.coms.length:=ho.at_.coms.len.symm;have HCl:=gH (qGf X h1 W2 ho.at_ (by omega) (by omega) (by omega));have HBk:=gH hbk;have hsz2:=HX2.out.size;clear hJ h3 hlo ho hbk HX HD HB HBf HAp hs1 hs2 hs3 hl1 hl2 hl3 hsz
 unfold Doc.cells at HCl HBk;go_wp2_with (refine qAa rfl 27 _ rfl g9 27 _ _ (by exact rfl) (by exact HBk.out) Tryz.underlying27 rfl (by exact qAb) ?_);refine HCl.out.mono ?_;rintro en w3 ⟨h4,rfl,ho,hx3⟩;have HB3:=gH (HB2.out.ext hx3);have HX3:=gH (HX2.out.trans hx3);have HO3:=gH (ho.le hsz2);clear hx3 HB2 HX2 HCl HBk ho hg9;go_wp2_with fail;refine (HPt.out h4 w3 HB3.out).mono ?_;rintro en w4 ⟨rfl,gu,cu,w5,hx5,hb5,rfl,hrow⟩;have HX5:=gH (HX3.out.trans hx5);have HB5:=gH hb5;have HO5:=gH (HO3.out.ext hx5);have HR5:=gH (qBo hrow HX3.out.size);clear hx5 hb5 hrow HB3 HX3 HO3 HPt;go_wp2_with fail;go_ret;exact ⟨rfl,gu,cu,h4,w5,HX5.out,HB5.out,rfl,HO5.out.kb (KB.put HB5.out (by decide)) (KB.put HB5.out (by decide)) (KB.put HB5.out (by decide)) (KB.put HB5.out (by decide)) (KB.put HB5.out (by decide)),qBi HR5.out HB5.out (by decide)⟩
theorem zKf (d d0 s:Doc) (h h0 k:DocH) (g gu cu L:Nat) (w:World) (hB:Blk w g 128 (hisC d h s k (.slice (some ⟨gu,0,none⟩) 1 cu) (.slice none 0 0))) (hrow:w.ownsRow L 27 8 (.slice (some ⟨gu,0,none⟩) 1 cu) 1 (d0.cells h0).toList) :
 Calls Tryz.prog 93 #[.pointer (some ⟨g,0,none⟩),.pointer (some ⟨g,16,none⟩),.pointer (some ⟨g,17,none⟩)] w fun e w'=>e = .returned (.int .i64 0)/\∃ gr cr w1,Ext w w1/\Blk w1 g 128 (hisC d h s k (.slice (some ⟨gu,0,none⟩) 1 cu) (.slice none 0 0)) /\
  w'=putB w1 g 128 (hisC d0 h0 s k (.slice none 0 0) (.slice (some ⟨gr,0,none⟩) 1 cr)):=by
 have HB:=gH hB;have HR:=gH hrow;clear hB hrow;unfold Doc.cells at HR;unfold hisC at *;have h16:=HB.out.cell 16;simp only [gA,gB,gC] at h16;go_enter Tryz.func93,Tryz.ntmps93;go_wp2_with fail;clear h16;refine qDo [some 14,some 15,some 16,some 17,some 18,some 19,some 20,some 21,some 22,some 23,some 24,none] [[],[],[1],[2],[],[4],[5],[6],[7],[3,8],[0,0,1,2,3,4,5,6,7,8,9],[10,9,9,0,1,2,3,4,5,6,7,8,9]] [8,9,11] [.pointer (some ⟨g,17,none⟩),.pointer (some ⟨g,17,none⟩),.pointer (some ⟨g,17,none⟩),.slice none 0 0,.pointer (some ⟨g,0,none⟩),.pointer (some ⟨g,0,none⟩),.pointer (some ⟨g,0,none⟩),.agg #[.string d.title,.string d.lang,.int .u8 d.rate,.bool d.drop,.int .i64 d.last,.slice h.ra h.rn h.rc,.slice h.ea h.en h.ec,.slice h.ca h.cn h.cc],undef,undef,.pointer (some ⟨g,17,none⟩),undef] (ApQ 27 8 #[.string d.title,.string d.lang,.int .u8 d.rate,.bool d.drop,.int .i64 d.last,.slice h.ra h.rn h.rc,.slice h.ea h.en h.ec,.slice h.ca h.cn h.cc] w.heap.size (.slice none 0 0) 0 ([]) (⟨g,17,none⟩) w) (by kernel_rfl) (by kernel_rfl) (by kernel_rfl) (by kernel_rfl) (by kernel_rfl) (by kernel_rfl) (by kernel_rfl) (by decide) ?_ ?_ ?_ ?_
 . exact ApQ.start _
 . intro i o ho hc a w' us K' hJ hF hlim hk
   match i,ho with
   | 0,ho | 1,ho =>
    simp only [gA,gB,gC,gD] at ho;subst ho;have e2:=hF.old 2 (.pointer (some ⟨g,17,none⟩)) rfl rfl;simp only [Act.eval] at e2;clear hF hlim hJ;go_simp;exact hk
   | 2,ho =>
    simp only [gA,gB,gC,gD] at ho;subst ho;have e15:=hF.pure 1 15 (.pointer (some ⟨g,17,none⟩)) rfl rfl rfl rfl;simp only [Act.eval] at e15;clear hF hlim hJ;go_simp;exact hk
   | 3,ho =>
    simp only [gA,gB,gC,gD] at ho;subst ho;have e16:=hF.pure 2 16 (.pointer (some ⟨g,17,none⟩)) rfl rfl rfl rfl;have hcl:=(qGa HB.out (hJ.kb (hlim 2 11 rfl (by kernel_rfl)) 128 (by decide))).cell 17;simp only [gA,gB,gC] at hcl;simp only [Act.eval] at e16;clear hF hlim hJ;go_simp;exact hk
   | 4,ho =>
    simp only [gA,gB,gC,gD] at ho;subst ho;have e0:=hF.old 0 (.pointer (some ⟨g,0,none⟩)) rfl rfl;simp only [Act.eval] at e0;clear hF hlim hJ;go_simp;exact hk
   | 5,ho =>
    simp only [gA,gB,gC,gD] at ho;subst ho;have e18:=hF.pure 4 18 (.pointer (some ⟨g,0,none⟩)) rfl rfl rfl rfl;simp only [Act.eval] at e18;clear hF hlim hJ;go_simp;exact hk
   | 6,ho =>
    simp only [gA,gB,gC,gD] at ho;subst ho;have e19:=hF.pure 5 19 (.pointer (some ⟨g,0,none⟩)) rfl rfl rfl rfl;simp only [Act.eval] at e19;clear hF hlim hJ;go_simp;exact hk
   | 7,ho =>
    simp only [gA,gB,gC,gD] at ho;subst ho;have e20:=hF.pure 6 20 (.pointer (some ⟨g,0,none⟩)) rfl rfl rfl rfl;exact qFs 27 _ rfl g 0 128 _ #[.string d.title,.string d.lang,.int .u8 d.rate,.bool d.drop,.int .i64 d.last,.slice h.ra h.rn h.rc,.slice h.ea h.en h.ec,.slice h.ca h.cn h.cc] _ e20 (qGa HB.out (hJ.kb (hlim 2 11 rfl (by kernel_rfl)) 128 (by decide))) (by exact rfl) Tryz.underlying27 rfl (by exact qAb) hk
   | 8,ho | 9,ho=>simp at hc
   | 10,ho =>
    simp only [gA,gB,gC,gD] at ho;subst ho;have e14:=hF.pure 0 14 (.pointer (some ⟨g,17,none⟩)) rfl rfl rfl rfl;simp only [Act.eval] at e14;clear hF hlim hJ;go_simp;exact hk
   | 11,ho=>simp at hc
   | i+12,ho=>simp at ho
 . intro p c' o hp ho a w' us K' hl hJ hF hk
   match p,hp with
   | 0,hp =>
    (obtain rfl:8=c':=by simpa using hp);simp only [gA,gB,gC,gD] at ho;subst ho;obtain rfl:us=[]:=List.eq_nil_of_length_eq_zero hl;have e21:=hF.pure 7 21 (.agg #[.string d.title,.string d.lang,.int .u8 d.rate,.bool d.drop,.int .i64 d.last,.slice h.ra h.rn h.rc,.slice h.ea h.en h.ec,.slice h.ca h.cn h.cc]) rfl rfl rfl rfl;have HK:=gH (hk (.slice (some ⟨w'.heap.size,0,none⟩) 1 1) (w'.alloc (.cells #[.string d.title,.string d.lang,.int .u8 d.rate,.bool d.drop,.int .i64 d.last,.slice h.ra h.rn h.rc,.slice h.ea h.en h.ec,.slice h.ca h.cn h.cc] 27)) hJ.build);simp [Act.eval] at e21;clear hk hF hJ;go_simp;exact HK.out
   | 1,hp =>
    (obtain rfl:9=c':=by simpa using hp);simp only [gA,gB,gC,gD] at ho;subst ho;obtain ⟨u0,rfl⟩:=qBv hl;obtain ⟨⟨gu,rfl,hBu⟩,hxu⟩:=hJ.st;have e17:=hF.pure 3 17 (.slice none 0 0) rfl rfl rfl rfl;have e22:=hF.link 0 8 22 _ rfl rfl rfl rfl;exact qFq (.tmp 17) (.tmp 22) 126 rfl qVn Tryz.underlying126 rfl (by decide) (qAh (qFd w w.heap.size 27 8) hxu) e17 gu _ e22 hBu rfl (by simp [Value.oneCell']) (by first | omega | simp) (by first | (simp [maxLen];done) | (simp [maxLen];omega)) (by have:=hxu.size;omega) (fun v' wz hoz hgz hlz=>hk v' wz (hJ.app (qAt (qAh (qFd w w.heap.size 27 8) hxu)) hgz hoz))
   | 2,hp =>
    (obtain rfl:11=c':=by simpa using hp);simp only [gA,gB,gC,gD] at ho;subst ho;obtain ⟨u0,u1,rfl⟩:=qCm hl;obtain ⟨wq,hxq,hgq,hoq⟩:=hJ.st;obtain ⟨gv,cv,rfl,-,-⟩:=qBt hoq (by omega);have e24:=hF.pure 10 24 (.pointer (some ⟨g,17,none⟩)) rfl rfl rfl rfl;have e23:=hF.link 1 9 23 _ rfl rfl rfl rfl;have hbk:=qGa HB.out (hJ.kb (by simp) 128 (by decide));have hcl:=hbk.cell 17;simp only [gA,gB,gC] at hcl;have hfz:=hbk.frozen 17;have HK:=gH (hk undef _ (hJ.store (u2:=undef)));simp only [Nat.zero_add] at HK;simp [Act.eval] at e24 e23;clear hk hF hJ;go_simp;exact HK.out
   | p+3,hp=>simp at hp
 intro us Wf hl hJ;obtain ⟨u0,u1,u2,rfl⟩:=qCn hl;generalize hL:qCd _ _ _ _=L;obtain rfl:L=[(14,.pointer (some ⟨g,17,none⟩)),(15,.pointer (some ⟨g,17,none⟩)),(16,.pointer (some ⟨g,17,none⟩)),(17,.slice none 0 0),(18,.pointer (some ⟨g,0,none⟩)),(19,.pointer (some ⟨g,0,none⟩)),(20,.pointer (some ⟨g,0,none⟩)),(21,.agg #[.string d.title,.string d.lang,.int .u8 d.rate,.bool d.drop,.int .i64 d.last,.slice h.ra h.rn h.rc,.slice h.ea h.en h.ec,.slice h.ca h.cn h.cc]),(22,u0),(23,u1),(24,.pointer (some ⟨g,17,none⟩))]:=hL.symm.trans (by kernel_rfl);clear hL hl;simp only [Act.put,List.foldl_cons,List.foldl_nil,List.setIfInBounds_toArray,List.set_cons_zero,List.set_cons_succ];obtain ⟨w5,w6,hx5,hg6,ho6,rfl⟩:=hJ.st;obtain ⟨gr,cr,rfl,-,-⟩:=qBt ho6 (by omega);have hx6:=hx5.trans ((Ext.refl w5).grown hg6 (fun q hq=>by simp [Value.ownBlock] at hq));have HB6:=gH (HB.out.ext hx6);have HR6:=gH (qAh HR.out hx6);have HX6:=gH hx6;clear hx5 hg6 ho6 hJ hx6 HB HR
 have hsq:w6.setCell ⟨g,17,none⟩ (.slice (some ⟨gr,0,none⟩) (0+1) cr)=putB w6 g 128 #[.string d.title,.string d.lang,.int .u8 d.rate,.bool d.drop,.int .i64 d.last,.slice h.ra h.rn h.rc,.slice h.ea h.en h.ec,.slice h.ca h.cn h.cc,.string s.title,.string s.lang,.int .u8 s.rate,.bool s.drop,.int .i64 s.last,.slice k.ra k.rn k.rc,.slice k.ea k.en k.ec,.slice k.ca k.cn k.cc,.slice (some ⟨gu,0,none⟩) 1 cu,.slice (some ⟨gr,0,none⟩) 1 cr]:=qAd HB6.out 17 _;rw [hsq];clear hsq;have HB7:=gH (HB6.out.put #[.string d.title,.string d.lang,.int .u8 d.rate,.bool d.drop,.int .i64 d.last,.slice h.ra h.rn h.rc,.slice h.ea h.en h.ec,.slice h.ca h.cn h.cc,.string s.title,.string s.lang,.int .u8 s.rate,.bool s.drop,.int .i64 s.last,.slice k.ra k.rn k.rc,.slice k.ea k.en k.ec,.slice k.ca k.cn k.cc,.slice (some ⟨gu,0,none⟩) 1 cu,.slice (some ⟨gr,0,none⟩) 1 cr]);have HR7:=gH (qBi (cs:=#[.string d.title,.string d.lang,.int .u8 d.rate,.bool d.drop,.int .i64 d.last,.slice h.ra h.rn h.rc,.slice h.ea h.en h.ec,.slice h.ca h.cn h.cc,.string s.title,.string s.lang,.int .u8 s.rate,.bool s.drop,.int .i64 s.last,.slice k.ra k.rn k.rc,.slice k.ea k.en k.ec,.slice k.ca k.cn k.cc,.slice (some ⟨gu,0,none⟩) 1 cu,.slice (some ⟨gr,0,none⟩) 1 cr]) HR6.out HB6.out (by decide))
 obtain ⟨W7,hW7⟩:∃ W7,W7=putB w6 g 128 #[.string d.title,.string d.lang,.int .u8 d.rate,.bool d.drop,.int .i64 d.last,.slice h.ra h.rn h.rc,.slice h.ea h.en h.ec,.slice h.ca h.cn h.cc,.string s.title,.string s.lang,.int .u8 s.rate,.bool s.drop,.int .i64 s.last,.slice k.ra k.rn k.rc,.slice k.ea k.en k.ec,.slice k.ca k.cn k.cc,.slice (some ⟨gu,0,none⟩) 1 cu,.slice (some ⟨gr,0,none⟩) 1 cr]:=⟨_,rfl⟩;rw [← hW7] at HB7 HR7 ⊢;have HW7:=gH hW7;clear hW7;have h16:=HB7.out.cell 16;simp only [gA,gB,gC] at h16
 have hgu:∀ (j:Nat) (v:Value),#[.string d0.title,.string d0.lang,.int .u8 d0.rate,.bool d0.drop,.int .i64 d0.last,.slice h0.ra h0.rn h0.rc,.slice h0.ea h0.en h0.ec,.slice h0.ca h0.cn h0.cc][j]?=some v->W7.cell? ⟨gu,0+j,none⟩=some v:=fun j v hv=>by
  have hj:j<8:=(Array.getElem?_eq_some_iff.1 hv).1;have:=HR7.out.cellAt j (by omega);rw [← Array.getElem?_toList] at hv;rw [hv] at this;simpa using this
 (have q16:=fun o=>(HB7.out.put #[.string d0.title,.string d0.lang,.int .u8 d0.rate,.bool d0.drop,.int .i64 d0.last,.slice h0.ra h0.rn h0.rc,.slice h0.ea h0.en h0.ec,.slice h0.ca h0.cn h0.cc,.string s.title,.string s.lang,.int .u8 s.rate,.bool s.drop,.int .i64 s.last,.slice k.ra k.rn k.rc,.slice k.ea k.en k.ec,.slice k.ca k.cn k.cc,.slice (some ⟨gu,0,none⟩) 1 cu,.slice (some ⟨gr,0,none⟩) 1 cr]).cell o);(have f16:=fun o=>(HB7.out.put #[.string d0.title,.string d0.lang,.int .u8 d0.rate,.bool d0.drop,.int .i64 d0.last,.slice h0.ra h0.rn h0.rc,.slice h0.ea h0.en h0.ec,.slice h0.ca h0.cn h0.cc,.string s.title,.string s.lang,.int .u8 s.rate,.bool s.drop,.int .i64 s.last,.slice k.ra k.rn k.rc,.slice k.ea k.en k.ec,.slice k.ca k.cn k.cc,.slice (some ⟨gu,0,none⟩) 1 cu,.slice (some ⟨gr,0,none⟩) 1 cr]).frozen o)
 have e16:(putB W7 g 128 #[.string d0.title,.string d0.lang,.int .u8 d0.rate,.bool d0.drop,.int .i64 d0.last,.slice h0.ra h0.rn h0.rc,.slice h0.ea h0.en h0.ec,.slice h0.ca h0.cn h0.cc,.string s.title,.string s.lang,.int .u8 s.rate,.bool s.drop,.int .i64 s.last,.slice k.ra k.rn k.rc,.slice k.ea k.en k.ec,.slice k.ca k.cn k.cc,.slice (some ⟨gu,0,none⟩) 1 cu,.slice (some ⟨gr,0,none⟩) 1 cr]).setCell ⟨g,16,none⟩ (.slice none 0 0)=putB W7 g 128 #[.string d0.title,.string d0.lang,.int .u8 d0.rate,.bool d0.drop,.int .i64 d0.last,.slice h0.ra h0.rn h0.rc,.slice h0.ea h0.en h0.ec,.slice h0.ca h0.cn h0.cc,.string s.title,.string s.lang,.int .u8 s.rate,.bool s.drop,.int .i64 s.last,.slice k.ra k.rn k.rc,.slice k.ea k.en k.ec,.slice k.ca k.cn k.cc,.slice none 0 0,.slice (some ⟨gr,0,none⟩) 1 cr]:=by rw [qAd (HB7.out.put _) 16 _,qBa];rfl
 go_wp2_with (first | (refine qEz rfl 27 _ rfl gu 0 #[.string d0.title,.string d0.lang,.int .u8 d0.rate,.bool d0.drop,.int .i64 d0.last,.slice h0.ra h0.rn h0.rc,.slice h0.ea h0.en h0.ec,.slice h0.ca h0.cn h0.cc] _ (by exact rfl) hgu Tryz.underlying27 rfl (by exact qAb) ?_) | (refine qJg rfl 27 _ _ rfl g 0 128 _ #[.string d0.title,.string d0.lang,.int .u8 d0.rate,.bool d0.drop,.int .i64 d0.last,.slice h0.ra h0.rn h0.rc,.slice h0.ea h0.en h0.ec,.slice h0.ca h0.cn h0.cc] #[.string d0.title,.string d0.lang,.int .u8 d0.rate,.bool d0.drop,.int .i64 d0.last,.slice h0.ra h0.rn h0.rc,.slice h0.ea h0.en h0.ec,.slice h0.ca h0.cn h0.cc,.string s.title,.string s.lang,.int .u8 s.rate,.bool s.drop,.int .i64 s.last,.slice k.ra k.rn k.rc,.slice k.ea k.en k.ec,.slice k.ca k.cn k.cc,.slice (some ⟨gu,0,none⟩) 1 cu,.slice (some ⟨gr,0,none⟩) 1 cr] [] #[.string d.title,.string d.lang,.int .u8 d.rate,.bool d.drop,.int .i64 d.last,.slice h.ra h.rn h.rc,.slice h.ea h.en h.ec,.slice h.ca h.cn h.cc].toList [.string s.title,.string s.lang,.int .u8 s.rate,.bool s.drop,.int .i64 s.last,.slice k.ra k.rn k.rc,.slice k.ea k.en k.ec,.slice k.ca k.cn k.cc,.slice (some ⟨gu,0,none⟩) 1 cu,.slice (some ⟨gr,0,none⟩) 1 cr] (by exact rfl) (by exact rfl) (by exact HB7.out) (by exact rfl) rfl (by exact rfl) (by exact qAb) (by simp [Value.oneCell']) (by exact rfl) ?_));rw [HW7.out,qBa];go_ret
 exact ⟨rfl,gr,cr,w6,HX6.out,HB6.out,rfl⟩
def UnJ (R:World->Prop) (W:World):List Value->World->Prop
 | [],w'=>Ext W w'
 | [u0],w'=>u0 = .int .i64 0/\R w'
 | [_,u1],w'=>u1 = .int .i64 0/\R w'
 | _,_=>False
theorem zKj (d d0 s:Doc) (h h0 k:DocH) (g gu cu L:Nat) (w:World) (hB:Blk w g 128 (hisC d h s k (.slice (some ⟨gu,0,none⟩) 1 cu) (.slice none 0 0))) (hrow:w.ownsRow L 27 8 (.slice (some ⟨gu,0,none⟩) 1 cu) 1 (d0.cells h0).toList) :
 Calls Tryz.prog 19 #[.pointer (some ⟨g,0,none⟩)] w fun e w'=>e = .returned (.int .i64 0)/\∃ gr cr w1,Ext w w1/\Blk w1 g 128 (hisC d h s k (.slice (some ⟨gu,0,none⟩) 1 cu) (.slice none 0 0)) /\
  w'=putB w1 g 128 (hisC d0 h0 s k (.slice none 0 0) (.slice (some ⟨gr,0,none⟩) 1 cr)):=by
 have HBk:=gH (fun w' (hx:Ext w w')=>zKf d d0 s h h0 k g gu cu L w' (hB.ext hx) (qAh hrow hx));clear hB hrow;go_enter Tryz.func19,Tryz.ntmps19;go_wp2_with fail;refine qAr [some 5,some 6,some 7,some 8,some 9,some 10,some 11,some 12,some 2] [[],[],[1],[2],[],[4],[5],[0,3,6],[7,7,0,1,2,3,4,5,6,7]] [7,8] [.pointer (some ⟨g,0,none⟩),.pointer (some ⟨g,0,none⟩),.pointer (some ⟨g,0,none⟩),.pointer (some ⟨g,16,none⟩),.pointer (some ⟨g,0,none⟩),.pointer (some ⟨g,0,none⟩),.pointer (some ⟨g,17,none⟩),undef,undef] (UnJ (fun w'=>∃ gr cr w1,Ext w w1/\Blk w1 g 128 (hisC d h s k (.slice (some ⟨gu,0,none⟩) 1 cu) (.slice none 0 0))/\w'=putB w1 g 128 (hisC d0 h0 s k (.slice none 0 0) (.slice (some ⟨gr,0,none⟩) 1 cr))) w) (by kernel_rfl) (by kernel_rfl) (by kernel_rfl) (by kernel_rfl) (by kernel_rfl) (by kernel_rfl) (by kernel_rfl) (by decide) ?_ ?_ ?_ ?_
 . exact ((Ext.refl w).drew:Ext w w.drew)
 . intro i o ho hc a w' us K' hJ hF hlim hk
   match i,ho with
   | 0,ho | 1,ho =>
    simp only [gA,gB,gC,gD] at ho;subst ho;have e0:=hF.old 0 (.pointer (some ⟨g,0,none⟩)) rfl rfl;simp only [Act.eval] at e0;clear hF hlim hJ;go_simp;exact hk
   | 2,ho =>
    simp only [gA,gB,gC,gD] at ho;subst ho;have e6:=hF.pure 1 6 (.pointer (some ⟨g,0,none⟩)) rfl rfl rfl rfl;simp only [Act.eval] at e6;clear hF hlim hJ;go_simp;exact hk
   | 3,ho =>
    simp only [gA,gB,gC,gD] at ho;subst ho;have e7:=hF.pure 2 7 (.pointer (some ⟨g,0,none⟩)) rfl rfl rfl rfl;simp only [Act.eval] at e7;clear hF hlim hJ;go_simp;exact hk
   | 4,ho =>
    simp only [gA,gB,gC,gD] at ho;subst ho;have e0:=hF.old 0 (.pointer (some ⟨g,0,none⟩)) rfl rfl;simp only [Act.eval] at e0;clear hF hlim hJ;go_simp;exact hk
   | 5,ho =>
    simp only [gA,gB,gC,gD] at ho;subst ho;have e9:=hF.pure 4 9 (.pointer (some ⟨g,0,none⟩)) rfl rfl rfl rfl;simp only [Act.eval] at e9;clear hF hlim hJ;go_simp;exact hk
   | 6,ho =>
    simp only [gA,gB,gC,gD] at ho;subst ho;have e10:=hF.pure 5 10 (.pointer (some ⟨g,0,none⟩)) rfl rfl rfl rfl;simp only [Act.eval] at e10;clear hF hlim hJ;go_simp;exact hk
   | 7,ho | 8,ho=>simp at hc
   | i+9,ho=>simp at ho
 . intro p c' o hp ho a w' us K' hl hJ hF hk
   match p,hp with
   | 0,hp =>
    (obtain rfl:7=c':=by simpa using hp);simp only [gA,gB,gC,gD] at ho;subst ho;obtain rfl:us=[]:=List.eq_nil_of_length_eq_zero hl;have e5:=hF.pure 0 5 (.pointer (some ⟨g,0,none⟩)) rfl rfl rfl rfl;have e8:=hF.pure 3 8 (.pointer (some ⟨g,16,none⟩)) rfl rfl rfl rfl;have e11:=hF.pure 6 11 (.pointer (some ⟨g,17,none⟩)) rfl rfl rfl rfl;refine qIj rfl e5 e8 e11 Tryz.call93 (HBk.out w' hJ) ?_;rintro en w5 ⟨rfl,gr,cr,w1,hx,hb,rfl⟩;exact ⟨_,rfl,hk _ _ ⟨rfl,gr,cr,w1,hJ.trans hx,hb,rfl⟩⟩
   | 1,hp =>
    (obtain rfl:8=c':=by simpa using hp);simp only [gA,gB,gC,gD] at ho;subst ho;obtain ⟨u0,rfl⟩:=qBv hl;have e12:=hF.link 0 7 12 _ rfl rfl rfl rfl;obtain ⟨rfl,hR⟩:=hJ;have HK:=gH (hk (.int .i64 0) w' ⟨rfl,hR⟩);simp [Act.eval] at e12;clear hk hF hR;go_simp;exact HK.out
   | p+2,hp=>simp at hp
 intro us w9 hl hJ;obtain ⟨u0,u1,rfl⟩:=qCm hl
 first | (rename_i hK;refine hK _ _ ?_;clear hK) | (rename_i hK hK_1;refine hK _ _ ?_;clear hK) | (rename_i hK hK_1 hK_2;refine hK _ _ ?_;clear hK) | (rename_i hK hK_1 hK_2 hK_3;refine hK _ _ ?_;clear hK)
 generalize hL:qCd _ _ _ _=L;obtain rfl:L=[(5,.pointer (some ⟨g,0,none⟩)),(6,.pointer (some ⟨g,0,none⟩)),(7,.pointer (some ⟨g,0,none⟩)),(8,.pointer (some ⟨g,16,none⟩)),(9,.pointer (some ⟨g,0,none⟩)),(10,.pointer (some ⟨g,0,none⟩)),(11,.pointer (some ⟨g,17,none⟩)),(12,u0),(2,u1)]:=hL.symm.trans (by kernel_rfl);clear hL hl;simp only [Act.put,List.foldl_cons,List.foldl_nil,List.setIfInBounds_toArray,List.set_cons_zero,List.set_cons_succ];obtain ⟨rfl,gr,cr,w1,hx,hb,rfl⟩:=hJ;go_wp2_with fail;go_ret;exact ⟨rfl,gr,cr,w1,hx,hb,rfl⟩
theorem qNw:(Tryz.prog.info? 54).map (fun i=>(i.zero,i.size,i.bytes))=some (some (.agg #[.int .i64 0,.int .i64 0,.int .i64 0,.string ⟨#[]⟩,.int .u8 0,.string ⟨#[]⟩,.slice none 0 0]),7,88):=by kernel_rfl
theorem zKe (w:World):Calls Tryz.prog 222 #[.slice none 0 0,.int .i64 2] w fun e w'=>∃ g c,e = .returned (.slice (some ⟨g,0,none⟩) 0 c)/\w'.ownsRow w.heap.size 54 7 (.slice (some ⟨g,0,none⟩) 0 c) 0 []/\Ext w w':=by
 obtain ⟨i,hi,hz0,hz1,hz2⟩:=info_parts qNw;have hrun:=Lib.run_append_nil_zeros (P:=Tryz.prog) w 24 3 24 54 i _ .i64 .i64 Tryz.underlying24 Tryz.underlying3 hi hz0 2 (by decide) (by omega) (by decide) (by omega);have HR:=gH hrun;clear hrun;go_enter Tryz.func222,Tryz.ntmps222;go_wp2_with (at_builtin;refine Lib.wpList_append_run _ rfl _ _ _ _ rfl _ _ rfl rfl _ _ HR.out ?_);have hcap:=grownCap_ge w 2 0 54;go_ret;exact ⟨_,_,rfl,⟨rfl,.inr ⟨w.heap.size,_,_,rfl,Nat.le_refl _,Blk.drew (Blk.new w _ _),Nat.zero_le _,grownCap_le_maxLen w 2 0 _ (by decide),by rw [Array.size_append];simp only [Builtin.zeroCells,Array.size_map,Array.size_range];show 2*7+(grownCap w 2 0 54-2)*7=grownCap w 2 0 54*7;omega,rfl⟩⟩,((Ext.refl w).alloc _).drew⟩
theorem zBx (gs:Nat) (A1 A2:Option Addr) (c1 c2:Nat) (x y:EH) (w:World) (hB:Blk w gs 24 #[.slice A1 1 c1,.slice A2 1 c2]) (h1:Sl w 7 (Cells EH.vals) A1 1 [x]) (h2:Sl w 7 (Cells EH.vals) A2 1 [y]) :
 Calls Tryz.prog 170 #[.slice (some ⟨gs,0,none⟩) 2 2] w fun e w'=>∃ v,e = .returned v/\w'.ownsRow w.heap.size 54 7 v 2 (x.vals++y.vals)/\Ext w w':=by
 have HB:=gH hB;have H1:=gH h1;have H2:=gH h2;have k0:=hB.cell 0;have k1:=hB.cell 1;simp only [gA,gB,gC] at k0 k1;have HG:=gH (zKe w);clear hB h1 h2;go_enter Tryz.func170,Tryz.ntmps170;go_wp2_with fail;refine qBm 2 ?_;intro K hK;go_wp2_with fail;refine qBy.mk ?_;intro K hK;go_wp2_with fail;refine qBy.mk ?_;intro K hK;go_wp2_with fail;refine HG.out.mono ?_;rintro e w1 ⟨g1,cg,rfl,ho1,hx1⟩;have HO1:=gH ho1;have HX1:=gH hx1;have HB1:=gH (HB.out.ext hx1);have k0:=HB1.out.cell 0;have k1:=HB1.out.cell 1;simp only [gA,gB,gC] at k0 k1;clear ho1 hx1 HB HG;have hsz1:=HX1.out.size;go_wp2_with fail;refine qBm 2 ?_;intro K hK;go_wp2_with (at_builtin;refine qAx (f:=EH.vals) rfl (.tmp 31) (.tmp 32) 24 rfl qNw Tryz.underlying24 rfl (by decide) (base:=w.heap.size) (n:=0) (xs:=[]) HO1.out (by exact rfl) (A:=A1) (m:=1) (c:=c1) (l:=[x]) (by exact rfl) (Sl.ext (Cells.stays _) H1.out HX1.out) EH.len qXv (by omega) (by unfold maxLen;omega) hsz1 ?_;intro v2 w2 hown2 hgr2 _);have hx2:=HX1.out.grown hgr2 (fun q hq=>qBg HO1.out q hq);have HX2:=gH hx2;have HB2:=gH (HB1.out.kb (KB.grown hgr2 (qAt HO1.out) (by decide)));have HS2:=gH (Sl.ext (Cells.stays _) H2.out hx2);have HO2:=gH hown2;have k0:=HB2.out.cell 0;have k1:=HB2.out.cell 1;simp only [gA,gB,gC] at k0 k1;have hsz2:=hx2.size;clear hx2 hgr2 hown2 HO1 HX1 HB1;go_wp2_with fail;refine qBy.mk ?_;intro K hK
 go_wp2_with (at_builtin;refine qAx (f:=EH.vals) rfl (.tmp 31) (.tmp 32) 24 rfl qNw Tryz.underlying24 rfl (by decide) (base:=w.heap.size) (n:=1) (xs:=([]++[x].flatMap EH.vals)) HO2.out (by exact rfl) (A:=A2) (m:=1) (c:=c2) (l:=[y]) (by exact rfl) HS2.out EH.len qXv (by omega) (by unfold maxLen;omega) hsz2 ?_;intro v3 w3 hown3 hgr3 _);have hx3:=HX2.out.grown hgr3 (fun q hq=>qBg HO2.out q hq);have HX3:=gH hx3;have HO3:=gH hown3;clear hx3 hgr3 hown3 HO2 HX2;have HB3:=HB2;go_wp2_with fail;refine qBy.mk ?_;intro K hK;go_wp2_with fail;go_ret;exact ⟨v3,rfl,by simpa using HO3.out,HX3.out⟩
end
end Go.Proofs.YtneffpbodfjceaaGreatDoor
namespace Go.Proofs
open Go.Shelf
def Tryz.cmpT_ren:Go.Shelf.Ren:=⟨fun | 43=>172 | n=>n,fun | 22=>164 | 23=>2 | 3=>3 | 4=>4 | 0=>0 | n=>n,fun | n=>n⟩
theorem Tryz.cmpT:Go.Proofs.SlLaysN.n43 Tryz.prog Tryz.cmpT_ren:={
 mixed:=by kernel_rfl
 f43:=⟨Tryz.f172.name,by decide,Tryz.func172.trans (congrArg some (by kernel_rfl))⟩
 t0:=Tryz.underlying0
 a0:=Tryz.isAgg0
 z0:=Tryz.sizeOf0
 v0:=Tryz.zeroValue0
 t3:=Tryz.underlying3
 a3:=Tryz.isAgg3
 z3:=Tryz.sizeOf3
 v3:=Tryz.zeroValue3
 t4:=Tryz.underlying4
 a4:=Tryz.isAgg4
 z4:=Tryz.sizeOf4
 v4:=Tryz.zeroValue4
 t22:=Tryz.underlying164
 a22:=Tryz.isAgg164
 z22:=Tryz.sizeOf164
 v22:=Tryz.zeroValue164
 t23:=Tryz.underlying2
 a23:=Tryz.isAgg2
 z23:=Tryz.sizeOf2
 v23:=Tryz.zeroValue2
 i23:=by kernel_rfl }
def Tryz.srtT_ren:Go.Shelf.Ren:=⟨fun | 53=>171 | 64=>221 | 63=>223 | 78=>259 | 79=>260 | 70=>261 | 71=>262 | 72=>263 | 73=>264 | 74=>265 | 75=>266 | 59=>267 | 76=>268 | 77=>269 | 88=>294 | 89=>289 | 90=>290 | 91=>295 | 92=>296 | 68=>234 | 96=>312 | n=>n,fun | 22=>164 | 23=>2 | 3=>3 | 51=>58 | 0=>0 | 67=>353 | 69=>335 | 4=>4 | 61=>347 | 60=>346 | 44=>193 | 5=>5 | 9=>9 | 75=>379 | 79=>383 | 83=>395 | 84=>105 | n=>n,fun | n=>n⟩
theorem Tryz.srtT:Go.Proofs.SlLaysN.n53 Tryz.prog Tryz.srtT_ren:={
 mixed:=by kernel_rfl
 f53:=⟨Tryz.f171.name,by decide,Tryz.func171.trans (congrArg some (by kernel_rfl))⟩
 f59:=⟨Tryz.f267.name,by decide,Tryz.func267.trans (congrArg some (by kernel_rfl))⟩
 f63:=⟨Tryz.f223.name,by decide,Tryz.func223.trans (congrArg some (by kernel_rfl))⟩
 f64:=Tryz.func221.trans (congrArg some (by kernel_rfl))
 f68:=⟨Tryz.f234.name,by decide,Tryz.func234.trans (congrArg some (by kernel_rfl))⟩
 f70:=⟨Tryz.f261.name,by decide,Tryz.func261.trans (congrArg some (by kernel_rfl))⟩
 f71:=⟨Tryz.f262.name,by decide,Tryz.func262.trans (congrArg some (by kernel_rfl))⟩
 f72:=⟨Tryz.f263.name,by decide,Tryz.func263.trans (congrArg some (by kernel_rfl))⟩
 f73:=⟨Tryz.f264.name,by decide,Tryz.func264.trans (congrArg some (by kernel_rfl))⟩
 f74:=⟨Tryz.f265.name,by decide,Tryz.func265.trans (congrArg some (by kernel_rfl))⟩
 f75:=⟨Tryz.f266.name,by decide,Tryz.func266.trans (congrArg some (by kernel_rfl))⟩
 f76:=⟨Tryz.f268.name,by decide,Tryz.func268.trans (congrArg some (by kernel_rfl))⟩
 f77:=⟨Tryz.f269.name,by decide,Tryz.func269.trans (congrArg some (by kernel_rfl))⟩
 f78:=Tryz.func259.trans (congrArg some (by kernel_rfl))
 f79:=Tryz.func260.trans (congrArg some (by kernel_rfl))
 f88:=⟨Tryz.f294.name,by decide,Tryz.func294.trans (congrArg some (by kernel_rfl))⟩
 f89:=Tryz.func289.trans (congrArg some (by kernel_rfl))
 f90:=Tryz.func290.trans (congrArg some (by kernel_rfl))
 f91:=⟨Tryz.f295.name,by decide,Tryz.func295.trans (congrArg some (by kernel_rfl))⟩
 f92:=⟨Tryz.f296.name,by decide,Tryz.func296.trans (congrArg some (by kernel_rfl))⟩
 f96:=⟨Tryz.f312.name,by decide,Tryz.func312.trans (congrArg some (by kernel_rfl))⟩
 t0:=Tryz.underlying0
 a0:=Tryz.isAgg0
 z0:=Tryz.sizeOf0
 v0:=Tryz.zeroValue0
 t3:=Tryz.underlying3
 a3:=Tryz.isAgg3
 z3:=Tryz.sizeOf3
 v3:=Tryz.zeroValue3
 t4:=Tryz.underlying4
 a4:=Tryz.isAgg4
 z4:=Tryz.sizeOf4
 v4:=Tryz.zeroValue4
 t5:=Tryz.underlying5
 a5:=Tryz.isAgg5
 z5:=Tryz.sizeOf5
 v5:=Tryz.zeroValue5
 t9:=Tryz.underlying9
 a9:=Tryz.isAgg9
 z9:=Tryz.sizeOf9
 v9:=Tryz.zeroValue9
 t22:=Tryz.underlying164
 a22:=Tryz.isAgg164
 z22:=Tryz.sizeOf164
 v22:=Tryz.zeroValue164
 t23:=Tryz.underlying2
 a23:=Tryz.isAgg2
 z23:=Tryz.sizeOf2
 v23:=Tryz.zeroValue2
 t44:=Tryz.underlying193
 a44:=Tryz.isAgg193
 z44:=Tryz.sizeOf193
 v44:=Tryz.zeroValue193
 t51:=Tryz.underlying58
 a51:=Tryz.isAgg58
 z51:=Tryz.sizeOf58
 v51:=Tryz.zeroValue58
 t60:=Tryz.underlying346
 a60:=Tryz.isAgg346
 z60:=Tryz.sizeOf346
 v60:=Tryz.zeroValue346
 t61:=Tryz.underlying347
 a61:=Tryz.isAgg347
 z61:=Tryz.sizeOf347
 v61:=Tryz.zeroValue347
 t67:=Tryz.underlying353
 a67:=Tryz.isAgg353
 z67:=Tryz.sizeOf353
 v67:=Tryz.zeroValue353
 t69:=Tryz.underlying335
 a69:=Tryz.isAgg335
 z69:=Tryz.sizeOf335
 v69:=Tryz.zeroValue335
 t75:=Tryz.underlying379
 a75:=Tryz.isAgg379
 z75:=Tryz.sizeOf379
 v75:=Tryz.zeroValue379
 t79:=Tryz.underlying383
 a79:=Tryz.isAgg383
 z79:=Tryz.sizeOf383
 v79:=Tryz.zeroValue383
 t83:=Tryz.underlying395
 a83:=Tryz.isAgg395
 z83:=Tryz.sizeOf395
 v83:=Tryz.zeroValue395
 t84:=Tryz.underlying105
 a84:=Tryz.isAgg105
 z84:=Tryz.sizeOf105
 v84:=Tryz.zeroValue105 }
end Go.Proofs
namespace Go.Proofs.YtneffpbodfjceaaGreatDoor
section
open Go.RowKit Go.Shelf Go.Sort
def srtT (zs:List Int):List Int:=zs.mergeSort fun x y=>decide (x<=y)
theorem qZw:(Tryz.prog.info? 2).map (fun i=>(i.zero,i.size,i.bytes))=some (some (.int .i64 0),1,8):=by kernel_rfl
theorem zOx (blk off cap:Nat) (zs:List Int) (w:World) (hH:Holds (Value.int .i64) w blk off zs.toArray) (hblk:blk<w.heap.size) (hsz:zs.length<4611686018427387904) :
 Calls Tryz.prog 171 #[.slice (some ⟨blk,off,none⟩) zs.length cap] w fun e w' =>
  e = .returned (.tuple #[])/\∃ n os,w'=grow (putRow (Value.int .i64) (Sort.ahead w n) blk off (srtT zs).toArray) os :=
 calls_of_every_depth fun D=>AnySG.slices_Sort_int_in Tryz.srtT D blk off cap zs w hH hblk hsz
theorem zBw (blk off cap:Nat) (zs:List Int) (w:World) (hH:Holds (Value.int .i64) w blk off zs.toArray) (hsz:zs.length<=9223372036854775807) (hcap:zs.length<=cap) :
 Calls Tryz.prog 172 #[.slice (some ⟨blk,off,none⟩) zs.length cap] w fun e w'=>e = .returned (.slice (some ⟨blk,off,none⟩) (Lib.compact zs).length cap)/\∃ q,w'=putRow (Value.int .i64) (Sort.ahead w q) blk off (Lib.compact zs++List.replicate (zs.length-(Lib.compact zs).length) 0).toArray :=
 AnyG.slices_Compact_int Tryz.cmpT blk off cap zs w hH hsz hcap
theorem qSc (a:Option Addr) (cap:Nat) (w:World):Calls Tryz.prog 172 #[.slice a 0 cap] w fun e w'=>e = .returned (.slice a 0 cap)/\w'=w :=
 AnyG.slices_Compact_int_empty Tryz.cmpT a cap w
theorem zGn (p:Option Addr) (cap:Nat) (w:World):Calls Tryz.prog 261 #[.slice p 0 cap,.int .i64 0,.int .i64 0] w fun e w'=>e = .returned (.tuple #[])/\Ext w w':=by
 go_enter Tryz.func261,Tryz.ntmps261;go_wp2_with fail;refine qBm 1 ?_;intro K hK;go_wp2_with fail;go_end0;exact ⟨rfl,Ext.refl _⟩
theorem zHn (p:Option Addr) (cap:Nat) (w:World):Calls Tryz.prog 223 #[.slice p 0 cap,.int .i64 0,.int .i64 0,.int .i64 0] w fun e w'=>e = .returned (.tuple #[])/\Ext w w':=by
 have HI:=gH (fun w'=>zGn p cap w');go_enter Tryz.func223,Tryz.ntmps223;go_wp2_with fail;refine qBm 1 ?_;intro K hK;go_wp2_with fail;refine (HI.out _).mono ?_;rintro en w2 ⟨rfl,hx⟩;have HX:=gH hx;clear hx;go_wp2_with fail
 (try simp only [Exit.inBlock,Exit.then])
 refine bodyPost_ret (results_none rfl _ _ _) rfl ?_;exact ⟨rfl,HX.out⟩
theorem zDl (p:Option Addr) (cap:Nat) (w:World):Calls Tryz.prog 171 #[.slice p 0 cap] w fun e w'=>e = .returned (.tuple #[])/\Ext w w':=by
 have HP:=gH (fun w'=>zHn p cap w');have HB:=gH (fun w'=>Tryz.bits_Len 0 w' (by decide) (by decide));go_enter Tryz.func171,Tryz.ntmps171;go_wp2_with fail;refine (HB.out _).mono ?_;rintro en w2 ⟨rfl,rfl⟩;go_wp2_with fail;refine (HP.out _).mono ?_;rintro en w3 ⟨rfl,hx⟩;have HX:=gH hx;clear hx;go_wp2_with fail;go_end0;exact ⟨rfl,HX.out⟩
theorem qSo {w:World} {g n:Nat} {os:Array Obj} (d:Array Int):w.grownBy (grow (putRow (Value.int .i64) (Sort.ahead w n) g 0 d) os) (some g):=by
 refine ⟨rfl,rfl,rfl,by simp,fun k hk hne=>?_⟩;rw [heap_grow_old _ _ (by simpa using hk)];(have:g≠k:=fun e=>hne (by rw [e]));simp [putRow,mapBlock,Sort.ahead,Array.getElem?_modify,this]
theorem qYg (x:EH) (w:World):Calls Tryz.prog 82 #[.agg #[.int .i64 x.id,.int .i64 x.inn,.int .i64 x.out,.string x.region,.int .u8 x.kind,.string x.speaker,.slice x.A x.n x.c]] w fun e w'=>e = .returned (.int .i64 x.id)/\Ext w w':=by
 go_enter Tryz.func82,Tryz.ntmps82;go_wp2_with fail;go_ret;exact ⟨rfl,(Ext.refl w).alloc _⟩
theorem zRc:srtT [1,1]=[1,1]:=by
 have h:(srtT [1,1]).Perm (List.replicate 2 1):=List.mergeSort_perm _ _;exact List.perm_replicate.1 h
theorem zQk:Lib.compact [(1:Int),1]=[1]:=by kernel_rfl
theorem zKo (A1 A2:Option Addr) (c1 c2:Nat) (x y:EH) (w:World) (h1:Sl w 7 (Cells EH.vals) A1 1 [x]) (h2:Sl w 7 (Cells EH.vals) A2 1 [y]) (hx:x.id=1) (hy:y.id=1) :
 Calls Tryz.prog 81 #[.slice A1 1 c1,.slice A2 1 c2,.func (.func 82) #[] #[]] w fun e w'=>∃ g c,e = .returned (.slice (some ⟨g,0,none⟩) 1 c)/\w'.cell? ⟨g,0,none⟩=some (.int .i64 1)/\Ext w w':=by
 have HX0:=gH ((Ext.refl w).alloc (.cells #[.slice A1 1 c1,.slice A2 1 c2] 24));have HCc:=gH (zBx w.heap.size A1 A2 c1 c2 x y _ (Blk.new w 24 _) (Sl.ext (Cells.stays _) h1 HX0.out) (Sl.ext (Cells.stays _) h2 HX0.out));have Hx:=gH hx;have Hy:=gH hy;clear h1 h2 hx hy;go_enter Tryz.func81,Tryz.ntmps81;go_wp2_with fail;refine HCc.out.mono ?_;rintro e w1 ⟨v1,rfl,ho1,hx1⟩;obtain ⟨gv,cv,rfl,-,-⟩:=qBt ho1 (by decide)
 have hc1:∀ W,Ext w1 W->∀ (j:Nat) (v:Value),#[.int .i64 x.id,.int .i64 x.inn,.int .i64 x.out,.string x.region,.int .u8 x.kind,.string x.speaker,.slice x.A x.n x.c][j]?=some v->W.cell? ⟨gv,0+j,none⟩=some v:=fun W hX j v hv=>by
  have hj:j<7:=(Array.getElem?_eq_some_iff.1 hv).1;have:=ho1.cellAt j (by omega);rw [List.getElem?_append_left (by rw [EH.len];exact hj)] at this;rw [← Array.getElem?_toList] at hv;rw [Nat.zero_add];exact hX.cell (this.trans hv)
 have hc2:∀ W,Ext w1 W->∀ (j:Nat) (v:Value),#[.int .i64 y.id,.int .i64 y.inn,.int .i64 y.out,.string y.region,.int .u8 y.kind,.string y.speaker,.slice y.A y.n y.c][j]?=some v->W.cell? ⟨gv,7+j,none⟩=some v:=fun W hX j v hv=>by
  have hj:j<7:=(Array.getElem?_eq_some_iff.1 hv).1;have:=ho1.cellAt (7+j) (by omega);rw [List.getElem?_append_right (by rw [EH.len];omega),EH.len,Nat.add_sub_cancel_left] at this;rw [← Array.getElem?_toList] at hv;exact hX.cell (this.trans hv)
 have HC1:=gH hc1;have HC2:=gH hc2;have HX1:=gH (HX0.out.trans hx1);clear hc1 hc2 ho1 hx1 HX0 HCc;have hxa:=(Ext.refl w1).alloc (.cells #[.int .i64 x.id,.int .i64 x.inn,.int .i64 x.out,.string x.region,.int .u8 x.kind,.string x.speaker,.slice x.A x.n x.c] 54);go_wp2_with fail;refine qBm 2 ?_;intro K hK;go_wp2_with (refine qEz rfl 54 _ rfl gv 0 #[.int .i64 x.id,.int .i64 x.inn,.int .i64 x.out,.string x.region,.int .u8 x.kind,.string x.speaker,.slice x.A x.n x.c] _ (by exact rfl) (HC1.out w1 (Ext.refl w1)) Tryz.underlying54 rfl (by exact qAu) ?_);refine (qYg x _).mono ?_;rintro e w2 ⟨rfl,hx2⟩;rw [Hx.out];have hxb:=hxa.trans hx2;have HX2:=gH (hxb.alloc (.cells #[.int .i64 1] 2));have HN2:=gH (Blk.new w2 2 #[.int .i64 1]);have hsz2:=HX2.out.size;clear hxa hxb hx2;go_wp2_with (at_builtin;refine qAi rfl (.tmp 19) (.tmp 23) 164 rfl qZw Tryz.underlying164 rfl (by decide) (base:=w1.heap.size) (v:=.slice none 0 0) (n:=0) (xs:=[]) ⟨rfl,.inl ⟨rfl,rfl⟩⟩ (by exact rfl) w2.heap.size #[.int .i64 1] (by exact rfl) (by exact HN2.out) (by exact rfl) (by simp [Value.oneCell']) (by omega) (by unfold maxLen;omega) hsz2 ?_;intro v3 w3 hown3 hgr3;have HX3:=gH (HX2.out.grown hgr3 (fun q hq=>by simp [Value.ownBlock] at hq));have HO3:=gH hown3;clear hown3 hgr3);have hxa:=HX3.out.alloc (.cells #[.int .i64 y.id,.int .i64 y.inn,.int .i64 y.out,.string y.region,.int .u8 y.kind,.string y.speaker,.slice y.A y.n y.c] 54)
 have hoa:=qAh HO3.out ((Ext.refl w3).alloc (.cells #[.int .i64 y.id,.int .i64 y.inn,.int .i64 y.out,.string y.region,.int .u8 y.kind,.string y.speaker,.slice y.A y.n y.c] 54));clear HX2 HN2 hsz2;go_wp2_with fail;refine qBy.mk ?_;intro K hK;go_wp2_with (refine qEz rfl 54 _ rfl gv 7 #[.int .i64 y.id,.int .i64 y.inn,.int .i64 y.out,.string y.region,.int .u8 y.kind,.string y.speaker,.slice y.A y.n y.c] _ (by exact rfl) (HC2.out w3 HX3.out) Tryz.underlying54 rfl (by exact qAu) ?_);refine (qYg y _).mono ?_;rintro e w4 ⟨rfl,hx4⟩;rw [Hy.out];have hxb:=hxa.trans hx4;have HX4:=gH (hxb.alloc (.cells #[.int .i64 1] 2));have HN4:=gH (Blk.new w4 2 #[.int .i64 1]);have HO4:=gH (qAh (qAh hoa hx4) ((Ext.refl w4).alloc (.cells #[.int .i64 1] 2)));have hsz4:=HX4.out.size;clear hxa hxb hx4 hoa HX3 HO3;go_wp2_with (at_builtin;refine qAi rfl (.tmp 19) (.tmp 23) 164 rfl qZw Tryz.underlying164 rfl (by decide) (base:=w1.heap.size) (v:=v3) (n:=1) (xs:=[.int .i64 1]) HO4.out (by exact rfl) w4.heap.size #[.int .i64 1] (by exact rfl) (by exact HN4.out) (by exact rfl) (by simp [Value.oneCell']) (by omega) (by unfold maxLen;omega) hsz4 ?_;intro v5 w5 hown5 hgr5;have HX5:=gH (HX1.out.trans (HX4.out.grown hgr5 (fun q hq=>qBg HO4.out q hq)));have HO5:=gH hown5;have HV5:=gH (show v5≠.slice none 0 0 from by obtain ⟨g,c,h,-,-⟩:=qBt hown5 (by omega);rw [h];simp);clear hown5 hgr5);have hown5:=HO5.out
 obtain ⟨g,cap,rfl,hbg,hgl,hncap,hcm,hlen,hH⟩:=Lib.holds_of_ownsRow (enc:=Value.int .i64) (zs:=[1,1]) hown5 HV5.out;have hg1:w.heap.size<=g:=Nat.le_trans HX1.out.size hbg;have HH:=gH hH;have hsort:=zOx g 0 cap [1,1] w5 hH hgl (by decide);rw [zRc] at hsort;have HSo:=gH hsort;clear HX4 HN4 HO4 hsz4 hH hsort hcm hlen hown5 HO5 HV5 HC1 HC2;go_wp2_with fail;refine qBy.mk ?_;intro K hK;go_wp2_with fail;refine HSo.out.mono ?_;rintro e w6 ⟨rfl,nn,os,rfl⟩
 have hH2:Holds (Value.int .i64) (grow (putRow (Value.int .i64) (Sort.ahead w5 nn) g 0 [(1:Int),1].toArray) os) g 0 [(1:Int),1].toArray :=
  holds_grow (Value.int .i64) _ os g 0 _ (by simpa [putRow,mapBlock,Sort.ahead] using hgl) (holds_putRow (Value.int .i64) _ g 0 _ _ (holds_ahead (Value.int .i64) w5 nn g 0 _ HH.out) (by simp))
 have hcomp:=zBw g 0 cap [1,1] _ hH2 (by decide) hncap;rw [zQk] at hcomp;have hx6:=HX5.out.grown (qSo (n:=nn) (os:=os) (g:=g) [(1:Int),1].toArray) (fun j hj=>by cases hj;exact hg1);generalize hw6:grow (putRow (Value.int .i64) (Sort.ahead w5 nn) g 0 [(1:Int),1].toArray) os=w6 at *;have HCp:=gH hcomp;have HH6:=gH hH2;have HX6:=gH hx6;clear hcomp hx6 hH2 hw6 HSo HX5 HH;go_wp2_with fail;refine HCp.out.mono ?_;rintro e w7 ⟨rfl,q,rfl⟩;have hH7:=holds_putRow (Value.int .i64) _ g 0 _ ([(1:Int)]++List.replicate (2-1) 0).toArray (holds_ahead (Value.int .i64) _ q g 0 _ HH6.out) (by simp);have hx7:Ext w (putRow (Value.int .i64) (Sort.ahead w6 q) g 0 ([(1:Int)]++List.replicate (2-1) 0).toArray):=Lib.below_putRow HX6.out hg1;have hc7:=(hH7 0 (by simp)).1;clear HCp HH6 HX6;generalize hw7:putRow (Value.int .i64) (Sort.ahead w6 q) g 0 _=w7 at *;clear hw7;go_wp2_with fail;go_ret;exact ⟨g,cap,rfl,by simpa using hc7,hx7⟩
theorem zDk (p:Option Addr) (cap:Nat) (w:World):Calls Tryz.prog 168 #[.slice p 0 cap] w fun e w'=>e = .returned (.tuple #[])/\w'=w :=
 calls_of_every_depth fun D=>AnyS.slices_Sort_string_none_alone Tryz.lays190 D p cap w
theorem zGa (w:World):Calls Tryz.prog 219 #[.slice none 0 0,.int .i64 0] w fun e w'=>e = .returned (.slice none 0 0)/\Ext w w':=by
 go_enter Tryz.func219,Tryz.ntmps219;go_wp2_with fail;go_ret;exact ⟨rfl,Ext.refl w⟩
theorem qXn (gs:Nat) (A1 A2:Option Addr) (c1 c2:Nat) (w:World) (hB:Blk w gs 23 #[.slice A1 0 c1,.slice A2 0 c2]) :
 Calls Tryz.prog 167 #[.slice (some ⟨gs,0,none⟩) 2 2] w fun e w'=>e = .returned (.slice none 0 0)/\Ext w w':=by
 have HB0:=gH hB;have k0:=hB.cell 0;have k1:=hB.cell 1;simp only [gA,gB,gC] at k0 k1;have HG:=gH (zGa w);clear hB;go_enter Tryz.func167,Tryz.ntmps167;go_wp2_with fail;refine qBm 2 ?_;intro K hK;go_wp2_with fail;refine qBy.mk ?_;intro K hK;go_wp2_with fail;refine qBy.mk ?_;intro K hK;go_wp2_with fail;refine HG.out.mono ?_;rintro e w1 ⟨rfl,hx1⟩;have HX:=gH hx1;have HB:=gH (HB0.out.ext hx1);clear hx1 HB0 HG k0 k1;have k0:=HB.out.cell 0;have k1:=HB.out.cell 1;simp only [gA,gB,gC] at k0 k1;go_wp2_with fail;refine qBm 2 ?_;intro K hK
 go_wp2_with
  (at_builtin
   refine qAx (f:=Reg.vals) rfl (.tmp 31) (.tmp 32) 23 rfl qNx Tryz.underlying23 rfl (by decide) (base:=w.heap.size) (v:=.slice none 0 0) (n:=0) (xs:=[]) ⟨rfl,.inl ⟨rfl,rfl⟩⟩ (by exact rfl) (A:=A1) (m:=0) (c:=c1) (l:=[]) (by exact rfl) ⟨rfl,fun h=>absurd h (by omega)⟩ (fun _=>rfl) qSz (by omega) (by unfold maxLen;omega) HX.out.size ?_;intro v' w' hown hgr hnil;obtain rfl:=hnil.2 ⟨rfl,rfl⟩;have hx':=HX.out.grown hgr (fun q hq=>by simp [Value.ownBlock] at hq);have hb':=HB.out.ext ((Ext.refl _).grown hgr (fun q hq=>by simp [Value.ownBlock] at hq));clear hown hgr hnil HX HB;have HX:=gH hx';have HB:=gH hb';clear hx' hb';have k0:=HB.out.cell 0;have k1:=HB.out.cell 1
   simp only [gA,gB,gC] at k0 k1)
 refine qBy.mk ?_;intro K hK
 go_wp2_with
  (at_builtin
   refine qAx (f:=Reg.vals) rfl (.tmp 31) (.tmp 32) 23 rfl qNx Tryz.underlying23 rfl (by decide) (base:=w.heap.size) (v:=.slice none 0 0) (n:=0) (xs:=[]) ⟨rfl,.inl ⟨rfl,rfl⟩⟩ (by exact rfl) (A:=A2) (m:=0) (c:=c2) (l:=[]) (by exact rfl) ⟨rfl,fun h=>absurd h (by omega)⟩ (fun _=>rfl) qSz (by omega) (by unfold maxLen;omega) HX.out.size ?_;intro v' w' hown hgr hnil;obtain rfl:=hnil.2 ⟨rfl,rfl⟩;have hx':=HX.out.grown hgr (fun q hq=>by simp [Value.ownBlock] at hq);have hb':=HB.out.ext ((Ext.refl _).grown hgr (fun q hq=>by simp [Value.ownBlock] at hq));clear hown hgr hnil HX HB;have HX:=gH hx';have HB:=gH hb';clear hx' hb';have k0:=HB.out.cell 0;have k1:=HB.out.cell 1
   simp only [gA,gB,gC] at k0 k1)
 refine qBy.mk ?_;intro K hK;go_wp2_with fail;go_ret;exact ⟨rfl,HX.out⟩
theorem zGq (A1 A2:Option Addr) (c1 c2:Nat) (w:World) :
 Calls Tryz.prog 78 #[.slice A1 0 c1,.slice A2 0 c2,.func (.func 79) #[] #[]] w fun e w'=>e = .returned (.slice none 0 0)/\Ext w w':=by
 have HX0:=gH ((Ext.refl w).alloc (.cells #[.slice A1 0 c1,.slice A2 0 c2] 23));have HCc:=gH (qXn w.heap.size A1 A2 c1 c2 _ (Blk.new w 23 _));have HSo:=gH (fun w'=>zDk none 0 w');have HCp:=gH (fun w'=>Tryz.slices_Compact_string_empty none 0 w');go_enter Tryz.func78,Tryz.ntmps78;go_wp2_with fail;refine HCc.out.mono ?_;rintro e w1 ⟨rfl,hx1⟩;have HX1:=gH (HX0.out.trans hx1);clear hx1 HX0 HCc;go_wp2_with fail;refine qBm 1 ?_;intro K hK;go_wp2_with fail;refine (HSo.out _).mono ?_;rintro e w2 ⟨rfl,hx2⟩;have HX2:=gH (HX1.out.trans (show Ext w1 w2 from by subst hx2;exact Ext.refl _));clear hx2 HX1 HSo;go_wp2_with fail;refine (HCp.out _).mono ?_;rintro e w3 ⟨rfl,rfl⟩;go_wp2_with fail;go_ret;exact ⟨rfl,HX2.out⟩
theorem zFz (w:World):Calls Tryz.prog 226 #[.slice none 0 0,.int .i64 0] w fun e w'=>e = .returned (.slice none 0 0)/\Ext w w':=by
 go_enter Tryz.func226,Tryz.ntmps226;go_wp2_with fail;go_ret;exact ⟨rfl,Ext.refl w⟩
theorem qXm (gs:Nat) (A1 A2:Option Addr) (c1 c2:Nat) (w:World) (hB:Blk w gs 25 #[.slice A1 0 c1,.slice A2 0 c2]) :
 Calls Tryz.prog 174 #[.slice (some ⟨gs,0,none⟩) 2 2] w fun e w'=>e = .returned (.slice none 0 0)/\Ext w w':=by
 have HB0:=gH hB;have k0:=hB.cell 0;have k1:=hB.cell 1;simp only [gA,gB,gC] at k0 k1;have HG:=gH (zFz w);clear hB;go_enter Tryz.func174,Tryz.ntmps174;go_wp2_with fail;refine qBm 2 ?_;intro K hK;go_wp2_with fail;refine qBy.mk ?_;intro K hK;go_wp2_with fail;refine qBy.mk ?_;intro K hK;go_wp2_with fail;refine HG.out.mono ?_;rintro e w1 ⟨rfl,hx1⟩;have HX:=gH hx1;have HB:=gH (HB0.out.ext hx1);clear hx1 HB0 HG k0 k1;have k0:=HB.out.cell 0;have k1:=HB.out.cell 1;simp only [gA,gB,gC] at k0 k1;go_wp2_with fail;refine qBm 2 ?_;intro K hK
 go_wp2_with
  (at_builtin
   refine qAx (f:=Com.vals) rfl (.tmp 31) (.tmp 32) 25 rfl qKj Tryz.underlying25 rfl (by decide) (base:=w.heap.size) (v:=.slice none 0 0) (n:=0) (xs:=[]) ⟨rfl,.inl ⟨rfl,rfl⟩⟩ (by exact rfl) (A:=A1) (m:=0) (c:=c1) (l:=[]) (by exact rfl) ⟨rfl,fun h=>absurd h (by omega)⟩ (fun _=>rfl) qMp (by omega) (by unfold maxLen;omega) HX.out.size ?_;intro v' w' hown hgr hnil;obtain rfl:=hnil.2 ⟨rfl,rfl⟩;have hx':=HX.out.grown hgr (fun q hq=>by simp [Value.ownBlock] at hq);have hb':=HB.out.ext ((Ext.refl _).grown hgr (fun q hq=>by simp [Value.ownBlock] at hq));clear hown hgr hnil HX HB;have HX:=gH hx';have HB:=gH hb';clear hx' hb';have k0:=HB.out.cell 0;have k1:=HB.out.cell 1
   simp only [gA,gB,gC] at k0 k1)
 refine qBy.mk ?_;intro K hK
 go_wp2_with
  (at_builtin
   refine qAx (f:=Com.vals) rfl (.tmp 31) (.tmp 32) 25 rfl qKj Tryz.underlying25 rfl (by decide) (base:=w.heap.size) (v:=.slice none 0 0) (n:=0) (xs:=[]) ⟨rfl,.inl ⟨rfl,rfl⟩⟩ (by exact rfl) (A:=A2) (m:=0) (c:=c2) (l:=[]) (by exact rfl) ⟨rfl,fun h=>absurd h (by omega)⟩ (fun _=>rfl) qMp (by omega) (by unfold maxLen;omega) HX.out.size ?_;intro v' w' hown hgr hnil;obtain rfl:=hnil.2 ⟨rfl,rfl⟩;have hx':=HX.out.grown hgr (fun q hq=>by simp [Value.ownBlock] at hq);have hb':=HB.out.ext ((Ext.refl _).grown hgr (fun q hq=>by simp [Value.ownBlock] at hq));clear hown hgr hnil HX HB;have HX:=gH hx';have HB:=gH hb';clear hx' hb';have k0:=HB.out.cell 0;have k1:=HB.out.cell 1
   simp only [gA,gB,gC] at k0 k1)
 refine qBy.mk ?_;intro K hK;go_wp2_with fail;go_ret;exact ⟨rfl,HX.out⟩
theorem zGp (A1 A2:Option Addr) (c1 c2:Nat) (w:World) :
 Calls Tryz.prog 86 #[.slice A1 0 c1,.slice A2 0 c2,.func (.func 87) #[] #[]] w fun e w'=>e = .returned (.slice none 0 0)/\Ext w w':=by
 have HX0:=gH ((Ext.refl w).alloc (.cells #[.slice A1 0 c1,.slice A2 0 c2] 25));have HCc:=gH (qXm w.heap.size A1 A2 c1 c2 _ (Blk.new w 25 _));have HSo:=gH (fun w'=>zDl none 0 w');have HCp:=gH (fun w'=>qSc none 0 w');go_enter Tryz.func86,Tryz.ntmps86;go_wp2_with fail;refine HCc.out.mono ?_;rintro e w1 ⟨rfl,hx1⟩;have HX1:=gH (HX0.out.trans hx1);clear hx1 HX0 HCc;go_wp2_with fail;refine qBm 1 ?_;intro K hK;go_wp2_with fail;refine (HSo.out _).mono ?_;rintro e w2 ⟨rfl,hx2⟩;have HX2:=gH (HX1.out.trans hx2);clear hx2 HX1 HSo;go_wp2_with fail;refine (HCp.out _).mono ?_;rintro e w3 ⟨rfl,rfl⟩;go_wp2_with fail;go_ret;exact ⟨rfl,HX2.out⟩
end
end Go.Proofs.YtneffpbodfjceaaGreatDoor