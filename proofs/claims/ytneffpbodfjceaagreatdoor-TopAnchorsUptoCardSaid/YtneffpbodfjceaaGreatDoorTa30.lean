/- Texts laid together. -/
import Derived.Test.YtneffpbodfjceaaGreatDoorTa29
import Derived.Laws.IdiomStrings
set_option linter.unusedVariables false
set_option linter.unusedSimpArgs false
set_option maxRecDepth 100000
set_option maxHeartbeats 16000000
namespace Go.Proofs.YtneffpbodfjceaaGreatDoor
section
open Go.RowKit
theorem zLe (w:World) (t:TypeId) (z cs:Array Value):putB (w.alloc (.cells z t)) w.heap.size t cs=w.alloc (.cells cs t):=by
 unfold putB World.alloc;simp only
 congr 1
 apply Array.ext_getElem?;intro j
 by_cases hj:w.heap.size=j
 . subst hj
   rw [Array.getElem?_setIfInBounds_self_of_lt (by simp)];simp
 . rw [Array.getElem?_setIfInBounds_ne hj]
   by_cases h2:j<w.heap.size
   . rw [Array.getElem?_push_lt h2,Array.getElem?_push_lt h2]
   . rw [Array.getElem?_eq_none (by simp;omega),Array.getElem?_eq_none (by simp;omega)]
theorem qTq {P:Program} {ops:Array Oper} {rest:List Oper} {op:Oper} {a:Act} {w:World} {Q:Exit->Act->World->Prop} (hw:Region.wanted op (yielded ops a.tmps)=true) (ty:TypeId) (x:Operand) (ho:op.op = .load ty x) (g:Nat) (t:TypeId) (cs:Array Value) (d:TypeDesc) (hx:a.eval x = .pointer (some ⟨g,0,none⟩))
 (hB:Blk w g t cs) (hu:P.underlying ty=some d) (hd:d.isRow=true) (hi:(P.info? ty).map (·.size)=some cs.size) (h:wpList P ops Q rest (a.put op.dst (.agg cs)) w):wpList P ops Q (op :: rest) a w :=
 BigFrame.wpList_want hw fun _ hK=>qBf ty x ho g t cs d hx hB hu hd hi (hK _ _ h)
theorem ea_bd {w:World} {h:DocH} (ha:qCx w (nDoc tHi) h):h.rn<=1000000000/\h.en<=1000000000/\h.cn<=1000000000:=by
 have h1:h.rn=0:=ha.regs.len.symm;have h2:h.en=1:=ha.evs.len.symm;have h3:h.cn=0:=ha.coms.len.symm;omega
def eaS (u:Value) (w:World):Prop:=∃ gc cc Ax nx cx Ay ny cy,u = .slice (some ⟨gc,0,none⟩) 1 cc/\(∀ (j:Nat) (v:Value),(chgC (evHi tHi) Ax nx cx (evHi qCk) Ay ny cy)[j]?=some v->w.cell? ⟨gc,0+j,none⟩=some v)/\EvAt w (evHi tHi) Ax nx cx/\EvAt w (evHi qCk) Ay ny cy
theorem eaS.ext {u:Value} {w w':World} (h:eaS u w) (hx:Ext w w'):eaS u w':=by
 obtain ⟨gc,cc,Ax,nx,cx,Ay,ny,cy,e,b,q1,q2⟩:=h;exact ⟨gc,cc,Ax,nx,cx,Ay,ny,cy,e,fun j v hv=>hx.cell (b j v hv),q1.ext hx,q2.ext hx⟩
def eaPs (L:Nat):List (Value->World->Prop):=[fun u w=>∃ k,u = .agg ((nDoc qCk).cells k)/\qAw w L (nDoc qCk) k,fun u w=>∃ s,u = .tuple #[s,.int .i64 0]/\eaS s w,fun u w=>∃ s,u = .tuple #[s,.int .i64 0]/\eaS s w,eaS,eaS]
theorem qNn (L:Nat):QSt (eaPs L):=by
 intro p hp u wa wb hx hh;simp only [eaPs,List.mem_cons,List.not_mem_nil,or_false] at hp
 rcases hp with rfl | rfl | rfl | rfl | rfl
 . obtain ⟨k,e,o⟩:=hh
   exact ⟨k,e,o.ext hx⟩
 . obtain ⟨s,e,o⟩:=hh
   exact ⟨s,e,o.ext hx⟩
 . obtain ⟨s,e,o⟩:=hh
   exact ⟨s,e,o.ext hx⟩
 . exact eaS.ext hh hx
 . exact eaS.ext hh hx
structure EaJ (L g B:Nat) (hd h1 h2:DocH) (dc:Array Value) (w0 W:World) (us:List Value) (w:World):Prop where
 ext0:Ext w0 w
 ext:us.length<=1->Ext W w
 blk:Blk w B 27 dc
 od:qAw w L (nDoc tHi) hd
 o1:qAw w L (nDoc tHi) h1
 v0:∀ u,us[0]?=some u->u = .string evtT
 v1:∀ u,us[1]?=some u->u = .int .i64 0
 v2:∀ u,us[2]?=some u->∃ k,u = .agg ((nDoc tHi).cells k)/\qCx w (nDoc tHi) k
 v3:∀ u,us[3]?=some u->u = .bool true
 his:us.length=2->∃ ga ca,Blk w g 128 (hisC (nDoc tHi) h1 (nDoc tHi) h2 (.slice none 0 0) (.slice (some ⟨ga,0,none⟩) 1 ca))
section
variable {L g B:Nat} {hd h1 h2:DocH} {dc:Array Value} {w0 W w w2:World} {a0 a1 a2:Value}
theorem EaJ.text (h:EaJ L g B hd h1 h2 dc w0 W [] w) (hx:Ext w w2):EaJ L g B hd h1 h2 dc w0 W ([]++[.string evtT]) w2 :=
 ⟨h.ext0.trans hx,fun _=>(h.ext (by simp)).trans hx,h.blk.ext hx,h.od.ext hx,h.o1.ext hx,fun u hu=>by simpa using hu.symm,fun u hu=>by simp at hu,fun u hu=>by simp at hu,fun u hu=>by simp at hu,fun hl=>by simp at hl⟩
theorem EaJ.undo {cs cs':Array Value} (h:EaJ L g B hd h1 h2 dc w0 W [a0] w) (hx:Ext w w2) (hb:Blk w2 g 128 cs) (hg:w0.heap.size<=g) (hB:B≠g) {ga ca:Nat} (hc:cs'=hisC (nDoc tHi) h1 (nDoc tHi) h2 (.slice none 0 0) (.slice (some ⟨ga,0,none⟩) 1 ca):=by rfl) :
 EaJ L g B hd h1 h2 dc w0 W ([a0]++[.int .i64 0]) (putB w2 g 128 cs'):=by
 refine ⟨(h.ext0.trans hx).put hg _ _,fun hl=>by simp at hl,(h.blk.ext hx).put_other (Ne.symm hB) _,?_,?_,fun u hu=>h.v0 u (by simpa using hu),fun u hu=>by simpa using hu.symm,fun u hu=>by simp at hu,fun u hu=>by simp at hu,fun _=>⟨ga,ca,by rw [← hc];exact hb.put _⟩⟩
 . exact (h.od.ext hx).kb (KB.put hb (by decide)) (KB.put hb (by decide)) (KB.put hb (by decide)) (KB.put hb (by decide)) (KB.put hb (by decide))
 . exact (h.o1.ext hx).kb (KB.put hb (by decide)) (KB.put hb (by decide)) (KB.put hb (by decide)) (KB.put hb (by decide)) (KB.put hb (by decide))
theorem EaJ.doc {k:DocH} (h:EaJ L g B hd h1 h2 dc w0 W [a0,a1] w) (hx:Ext w w2) (ho:qCx w2 (nDoc tHi) k):EaJ L g B hd h1 h2 dc w0 W ([a0,a1]++[.agg ((nDoc tHi).cells k)]) w2 :=
 ⟨h.ext0.trans hx,fun hl=>by simp at hl,h.blk.ext hx,h.od.ext hx,h.o1.ext hx,fun u hu=>h.v0 u (by simpa using hu),fun u hu=>h.v1 u (by simpa using hu),fun u hu=>⟨k,by simpa using hu.symm,ho⟩,fun u hu=>by simp at hu,fun hl=>by simp at hl⟩
theorem EaJ.same (h:EaJ L g B hd h1 h2 dc w0 W [a0,a1,a2] w) (hx:Ext w w2):EaJ L g B hd h1 h2 dc w0 W ([a0,a1,a2]++[.bool true]) w2 :=
 ⟨h.ext0.trans hx,fun hl=>by simp at hl,h.blk.ext hx,h.od.ext hx,h.o1.ext hx,fun u hu=>h.v0 u (by simpa using hu),fun u hu=>h.v1 u (by simpa using hu),fun u hu=>by obtain ⟨k,e,q⟩:=h.v2 u (by simpa using hu);exact ⟨k,e,q.ext hx⟩,fun u hu=>by simpa using hu.symm,fun hl=>by simp at hl⟩
end
theorem qVc (w:World) (hE:Env w) (hT:TabX w):Calls Tryz.prog 4 #[] w fun e w'=>e = .returned (.bool true)/\Ext w w':=by
 have HE:=gH hE;have HT:=gH hT;have HPn:=gH (zHd w hE);clear hE hT;go_enter Tryz.func4,Tryz.ntmps4;go_wp2_with fail;refine HPn.out.mono ?_;rintro e w1 ⟨ge,ce,rfl,ho1,hx1⟩;have HX1:=gH (hx1.alloc (.cells #[.string ⟨#[]⟩,.string ⟨#[]⟩,.int .u8 3,.bool false,.int .i64 1,.slice none 0 0,.slice (some ⟨ge,0,none⟩) 1 ce,.slice none 0 0] 27));have HO1:=gH (ho1.ext ((Ext.refl w1).alloc (.cells #[.string ⟨#[]⟩,.string ⟨#[]⟩,.int .u8 3,.bool false,.int .i64 1,.slice none 0 0,.slice (some ⟨ge,0,none⟩) 1 ce,.slice none 0 0] 27)));have HD1:=gH (Blk.new w1 27 #[.string ⟨#[]⟩,.string ⟨#[]⟩,.int .u8 3,.bool false,.int .i64 1,.slice none 0 0,.slice (some ⟨ge,0,none⟩) 1 ce,.slice none 0 0]);have hs1:=hx1.size;have HNw:Hid (Calls Tryz.prog 13 #[.agg #[.string ⟨#[]⟩,.string ⟨#[]⟩,.int .u8 3,.bool false,.int .i64 1,.slice none 0 0,.slice (some ⟨ge,0,none⟩) 1 ce,.slice none 0 0]] (w1.alloc (.cells #[.string ⟨#[]⟩,.string ⟨#[]⟩,.int .u8 3,.bool false,.int .i64 1,.slice none 0 0,.slice (some ⟨ge,0,none⟩) 1 ce,.slice none 0 0] 27)) _):=gH (zOf (nDoc tHi) (nH ge ce) _ (HE.out.ext HX1.out) HO1.out.at_ (qZp tHi (by decide)) (zFi _) zFh);rw [qLj];unfold qGb;clear hx1 ho1 HPn;go_wp2_with (refine qAa rfl 27 (.tmp 1) rfl w1.heap.size 27 _ _ (by exact rfl) (by exact HD1.out) Tryz.underlying27 rfl (by exact qAb) ?_);refine HNw.out.mono ?_;rintro e w2 ⟨g,h1,h2,rfl,hb2,ho2,hg2,hx2⟩;have HX2:=gH (HX1.out.trans hx2)
 have HO2:=gH (HO1.out.ext hx2);have HD2:=gH (HD1.out.ext hx2);have HB2:=gH hb2;have HP2:=gH (ho2.le (show w.heap.size<=_ from HX1.out.size));(have hgB:w1.heap.size≠g:=by simp at hg2;omega);(have hgw:w.heap.size<=g:=by simp at hg2;omega);clear hb2 ho2 hg2 hx2 HX1 HO1 HD1 HNw;go_wp2_with fail;refine (zFp w2 (HE.out.ext HX2.out) (HT.out.ext HX2.out)).mono ?_;rintro e w3 ⟨gr,cr,rfl,hcr,hrw,hx3⟩;have hy3:=hx3.alloc (.cells #[.int .u8 4,.int .i64 1,.int .i64 0,.int .i64 0,.int .i64 0,.int .i64 0,.int .i64 0,.int .i64 0,.int .i64 0,.int .u8 0,.int .u8 0,.bool false,.bool false,.string ⟨#[]⟩,.string ⟨#[]⟩,.string ⟨#[]⟩,.int .i64 0,.int .i64 0,.int .i64 0,.int .i64 0,.int .u8 0,.bool false,.slice (some ⟨gr,0,none⟩) 1 cr] 48);have HX3:=gH (HX2.out.trans hy3);have HO3:=gH (HO2.out.ext hy3);have HD3:=gH (HD2.out.ext hy3);have HB3:=gH (HB2.out.ext hy3);have HP3:=gH (HP2.out.ext hy3);have HR3:=gH (hrw.ext ((Ext.refl w3).alloc (.cells #[.int .u8 4,.int .i64 1,.int .i64 0,.int .i64 0,.int .i64 0,.int .i64 0,.int .i64 0,.int .i64 0,.int .i64 0,.int .u8 0,.int .u8 0,.bool false,.bool false,.string ⟨#[]⟩,.string ⟨#[]⟩,.string ⟨#[]⟩,.int .i64 0,.int .i64 0,.int .i64 0,.int .i64 0,.int .u8 0,.bool false,.slice (some ⟨gr,0,none⟩) 1 cr] 48)))
 have HE3:=gH (Blk.new w3 48 #[.int .u8 4,.int .i64 1,.int .i64 0,.int .i64 0,.int .i64 0,.int .i64 0,.int .i64 0,.int .i64 0,.int .i64 0,.int .u8 0,.int .u8 0,.bool false,.bool false,.string ⟨#[]⟩,.string ⟨#[]⟩,.string ⟨#[]⟩,.int .i64 0,.int .i64 0,.int .i64 0,.int .i64 0,.int .u8 0,.bool false,.slice (some ⟨gr,0,none⟩) 1 cr]);have HQ:=gH (Blk.new w3 48 #[.int .u8 0,.int .i64 0,.int .i64 0,.int .i64 0,.int .i64 0,.int .i64 0,.int .i64 0,.int .i64 0,.int .i64 0,.int .u8 0,.int .u8 0,.bool false,.bool false,.string ⟨#[]⟩,.string ⟨#[]⟩,.string ⟨#[]⟩,.int .i64 0,.int .i64 0,.int .i64 0,.int .i64 0,.int .u8 0,.bool false,.slice none 0 0]);clear hx3 hy3 hrw HX2 HO2 HD2 HB2 HP2;obtain ⟨W3,hW3⟩:∃ W3,W3=w3.alloc (.cells #[.int .u8 4,.int .i64 1,.int .i64 0,.int .i64 0,.int .i64 0,.int .i64 0,.int .i64 0,.int .i64 0,.int .i64 0,.int .u8 0,.int .u8 0,.bool false,.bool false,.string ⟨#[]⟩,.string ⟨#[]⟩,.string ⟨#[]⟩,.int .i64 0,.int .i64 0,.int .i64 0,.int .i64 0,.int .u8 0,.bool false,.slice (some ⟨gr,0,none⟩) 1 cr] 48):=⟨_,rfl⟩;rw [← hW3] at HX3 HO3 HD3 HB3 HP3 HR3 HE3;have HW3:=gH hW3;clear hW3;unfold edC
 go_wp2_with
  first
  | (refine qTq (by exact rfl) 48 (.tmp 5) rfl w3.heap.size 48 _ _ (by exact rfl) (by exact HE3.out) Tryz.underlying48 rfl (by exact qBq) ?_)
  | (refine qAc rfl 48 (.tmp 5) _ rfl w3.heap.size 48 _ _ (by exact rfl) (by exact rfl) (by exact HQ.out) (by exact rfl) (by exact qBq) (by simp [Value.oneCell']) ?_
     rw [zLe,← HW3.out]
     clear HQ HW3)
 have HDo:Hid (Calls Tryz.prog 15 #[.pointer (some ⟨g,0,none⟩),.agg #[.int .u8 4,.int .i64 1,.int .i64 0,.int .i64 0,.int .i64 0,.int .i64 0,.int .i64 0,.int .i64 0,.int .i64 0,.int .u8 0,.int .u8 0,.bool false,.bool false,.string ⟨#[]⟩,.string ⟨#[]⟩,.string ⟨#[]⟩,.int .i64 0,.int .i64 0,.int .i64 0,.int .i64 0,.int .u8 0,.bool false,.slice (some ⟨gr,0,none⟩) 1 cr]] W3 _) :=
  gH (zKg (nDoc tHi) (nDoc tHi) (nDoc qCk) h1 h2 g 1 (some ⟨gr,0,none⟩) 1 cr [[runP qCk]] W3 (HE.out.ext HX3.out) HP3.out.at_ (qZp tHi (by decide)) (zFi _) (zFi _) ea_ap HR3.out hcr (by omega) qVm (by decide) HB3.out)
 refine HDo.out.mono ?_;rintro e w5 ⟨rfl,gu,cu,h5,w4,hx4,hb4,rfl,ho5,hrow⟩;have hsW:w.heap.size<=W3.heap.size:=HX3.out.size;have HXw:=gH (HX3.out.trans hx4);have HD6:=gH ((HD3.out.ext hx4).put_other (g':=g) (t':=128) (Ne.symm hgB) (hisC (nDoc qCk) h5 (nDoc tHi) h2 (.slice (some ⟨gu,0,none⟩) 1 cu) (.slice none 0 0)));(have hkb:∀ T,T≠128->KB T w4 (putB w4 g 128 (hisC (nDoc qCk) h5 (nDoc tHi) h2 (.slice (some ⟨gu,0,none⟩) 1 cu) (.slice none 0 0))):=fun T hn=>KB.put hb4 hn);have HO6:=gH ((HO3.out.ext hx4).kb (hkb _ (by decide)) (hkb _ (by decide)) (hkb _ (by decide)) (hkb _ (by decide)) (hkb _ (by decide)));have HP6:=gH ((HP3.out.ext hx4).kb (hkb _ (by decide)) (hkb _ (by decide)) (hkb _ (by decide)) (hkb _ (by decide)) (hkb _ (by decide)));have HB6:=gH (hb4.put (hisC (nDoc qCk) h5 (nDoc tHi) h2 (.slice (some ⟨gu,0,none⟩) 1 cu) (.slice none 0 0)));have HX6:=gH (HXw.out.put hgw 128 (hisC (nDoc qCk) h5 (nDoc tHi) h2 (.slice (some ⟨gu,0,none⟩) 1 cu) (.slice none 0 0)));have HN6:=gH (ho5.le hsW);have HR6:=gH (qBo hrow hsW);clear hx4 hb4 ho5 hrow hkb hsW HXw HX3 HO3 HD3 HB3 HP3 HR3 HE3 HDo hcr;obtain ⟨w6,hw6⟩:∃ W,W=putB w4 g 128 (hisC (nDoc qCk) h5 (nDoc tHi) h2 (.slice (some ⟨gu,0,none⟩) 1 cu) (.slice none 0 0)):=⟨_,rfl⟩;rw [← hw6] at HD6 HO6 HP6 HB6 HX6 HN6 HR6 ⊢;clear hw6;have hsz6:=HX6.out.size
 have HDc:=gH (fun w' (hx:Ext w6 w')=>zGd (nDoc qCk) (nDoc tHi) h5 h2 _ _ g w' (HB6.out.ext hx) (HN6.out.ext hx).at_ (zFi _));unfold qJh at HDc
 have HDf:Hid (∀ w',Ext w6 w'->∀ k,qAw w' w.heap.size (nDoc qCk) k->Calls Tryz.prog 16 #[.agg #[.string ⟨#[]⟩,.string ⟨#[]⟩,.int .u8 3,.bool false,.int .i64 1,.slice none 0 0,.slice (some ⟨ge,0,none⟩) 1 ce,.slice none 0 0],.agg ((nDoc qCk).cells k)] w' (qXa (evHi tHi) (evHi qCk) w')) :=
  gH (fun w' hx k ho=>zJu (nDoc tHi) (nDoc qCk) (nH ge ce) k (evHi tHi) (evHi qCk) w' (HE.out.ext (HX6.out.trans hx)) (HO6.out.ext hx).at_ ho.at_ (qZp tHi (by decide)) (qZp qCk (by decide)) rfl rfl rfl rfl rfl rfl rfl rfl ea_ne rfl zFh zNu)
 unfold qXa at HDf;go_wp2_with fail;refine qAr [some 40,some 41,some 42,some 43,some 39,some 44,some 45,some 7,some 8] [[],[],[1],[0,2,2],[3],[4],[4],[5,3,0,1,2,3,4,5],[6,7,0,1,2,3,4,5,6,7]] [2,3,4,5,7] [.agg #[.string ⟨#[]⟩,.string ⟨#[]⟩,.int .u8 3,.bool false,.int .i64 1,.slice none 0 0,.slice (some ⟨ge,0,none⟩) 1 ce,.slice none 0 0],.pointer (some ⟨g,0,none⟩),undef,undef,undef,undef,.int .i64 0,undef,.int .i64 0] (QJ (eaPs w.heap.size) w6) (by kernel_rfl) (by kernel_rfl) (by kernel_rfl) (by kernel_rfl) (by kernel_rfl) (by kernel_rfl) (by kernel_rfl) (by decide) ?_ ?_ ?_ ?_
 . exact QJ.start _ w6
 . intro i o ho hc a w' us K' hJ hF hlim hk
   match i,ho with
   | 0,ho =>
     simp only [gA,gB,gC,gD] at ho;subst ho;have e1:=hF.old 1 (.pointer (some ⟨w1.heap.size,0,none⟩)) rfl rfl;exact qBf 27 (.tmp 1) rfl _ 27 _ _ e1 (HD6.out.ext hJ.ext) Tryz.underlying27 rfl (by exact qAb) hk
   | 1,ho =>
     simp only [gA,gB,gC,gD] at ho;subst ho;have e3:=hF.old 3 (.pointer (some ⟨g,0,none⟩)) rfl rfl;simp only [Act.eval] at e3;clear hF hlim hJ;go_simp;exact hk
   | 2,ho | 3,ho | 4,ho | 5,ho=>simp at hc
   | 6,ho =>
     simp only [gA,gB,gC,gD] at ho;subst ho;obtain ⟨v39,hv39⟩:=qDp (hF.did 2 4 rfl rfl);have e39:=hF.link 2 4 39 _ rfl rfl rfl hv39;obtain ⟨s,rfl,-⟩:=hJ.val 2 v39 _ hv39 rfl;simp only [Act.eval] at e39;clear hF hlim hJ;go_simp;exact hk
   | 7,ho=>simp at hc
   | 8,ho =>
     simp only [gA,gB,gC,gD] at ho;subst ho;have e45:=hF.pure 6 45 (.int .i64 0) rfl rfl rfl rfl;simp only [Act.eval] at e45;clear hF hlim hJ;go_simp;exact hk
   | i+9,ho=>simp at ho
 . intro p c' o hp ho a w' us K' hl hJ hF hk
   match p,hp with
   | 0,hp =>
     (obtain rfl:2=c':=by simpa using hp);simp only [gA,gB,gC,gD] at ho;subst ho;obtain rfl:us=[]:=List.eq_nil_of_length_eq_zero hl;have e41:=hF.pure 1 41 (.pointer (some ⟨g,0,none⟩)) rfl rfl rfl rfl;refine qDl rfl e41 Tryz.call17 (HDc.out w' hJ.ext) ?_;rintro en w5 ⟨k,rfl,ho,hx5⟩;exact ⟨_,rfl,hk _ w5 (hJ.push (qNn _) hx5 (fun p hp=>by cases hp;exact ⟨k,rfl,ho.le (Nat.le_trans hsz6 hJ.ext.size)⟩))⟩
   | 1,hp =>
     (obtain rfl:3=c':=by simpa using hp);simp only [gA,gB,gC,gD] at ho;subst ho;obtain ⟨u0,rfl⟩:=qBv hl;obtain ⟨k,rfl,ho⟩:=hJ.val 0 u0 _ rfl rfl;have e40:=hF.pure 0 40 (.agg #[.string ⟨#[]⟩,.string ⟨#[]⟩,.int .u8 3,.bool false,.int .i64 1,.slice none 0 0,.slice (some ⟨ge,0,none⟩) 1 ce,.slice none 0 0]) rfl rfl rfl rfl;have e42:=hF.link 0 2 42 _ rfl rfl rfl rfl;refine qDm rfl e40 e42 Tryz.call16 (HDf.out w' hJ.ext k ho) ?_;rintro en w5 ⟨gc,cc,Ax,nx,cx,Ay,ny,cy,rfl,hq,q1,q2,hx5⟩;exact ⟨_,rfl,hk _ w5 (hJ.push (qNn _) hx5 (fun p hp=>by cases hp;exact ⟨_,rfl,gc,cc,Ax,nx,cx,Ay,ny,cy,rfl,hq,q1,q2⟩))⟩
   | 2,hp =>
     (obtain rfl:4=c':=by simpa using hp);simp only [gA,gB,gC,gD] at ho;subst ho;obtain ⟨u0,u1,rfl⟩:=qCm hl;obtain ⟨s,rfl,hs⟩:=hJ.val 1 u1 _ rfl rfl;have e43:=hF.link 1 3 43 _ rfl rfl rfl rfl;have HK:=gH (hk (.tuple #[s,.int .i64 0]) w' (hJ.push (qNn _) (Ext.refl w') (fun p hp=>by cases hp;exact ⟨s,rfl,hs⟩)));simp [Act.eval] at e43;clear hk hF hJ;go_simp;exact HK.out
   | 3,hp =>
     (obtain rfl:5=c':=by simpa using hp);simp only [gA,gB,gC,gD] at ho;subst ho;obtain ⟨u0,u1,u2,rfl⟩:=qCn hl;obtain ⟨s,rfl,hs⟩:=hJ.val 2 u2 _ rfl rfl;have e39:=hF.link 2 4 39 _ rfl rfl rfl rfl;have HK:=gH (hk s w' (hJ.push (qNn _) (Ext.refl w') (fun p hp=>by cases hp;exact hs)));simp [Act.eval] at e39;clear hk hF hJ;go_simp;exact HK.out
   | 4,hp =>
     (obtain rfl:7=c':=by simpa using hp);simp only [gA,gB,gC,gD] at ho;subst ho;obtain ⟨u0,u1,u2,u3,rfl⟩:=qEm hl;have hs:eaS u3 w':=hJ.val 3 u3 _ rfl rfl;have e44:=hF.link 3 5 44 _ rfl rfl rfl rfl;have HK:=gH (hk u3 w' (hJ.push (qNn _) (Ext.refl w') (fun p hp=>by cases hp;exact hs)));simp [Act.eval] at e44;clear hk hF hJ;go_simp;exact HK.out
   | p+5,hp=>simp at hp
 intro us w7 hl hJ;obtain ⟨u0,u1,u2,u3,u4,rfl⟩:=qHz hl
 first | (rename_i hK;refine hK _ _ ?_;clear hK) | (rename_i hK hK_1;refine hK _ _ ?_;clear hK) | (rename_i hK hK_1 hK_2;refine hK _ _ ?_;clear hK) | (rename_i hK hK_1 hK_2 hK_3;refine hK _ _ ?_;clear hK)
 generalize hL:qCd _ _ _ _=L;obtain rfl:L=[(40,.agg #[.string ⟨#[]⟩,.string ⟨#[]⟩,.int .u8 3,.bool false,.int .i64 1,.slice none 0 0,.slice (some ⟨ge,0,none⟩) 1 ce,.slice none 0 0]),(41,.pointer (some ⟨g,0,none⟩)),(42,u0),(43,u1),(39,u2),(44,u3),(45,.int .i64 0),(7,u4),(8,.int .i64 0)]:=hL.symm.trans (by kernel_rfl);clear hL hl;simp only [Act.put,List.foldl_cons,List.foldl_nil,List.setIfInBounds_toArray,List.set_cons_zero,List.set_cons_succ];obtain ⟨gc,cc,Ax,nx,cx,Ay,ny,cy,rfl,hch,q1,q2⟩:eaS u4 w7:=hJ.val 4 u4 _ rfl rfl;have hx7:=hJ.ext
 have hEa:EaJ w.heap.size g w1.heap.size (nH ge ce) h1 h2 #[.string ⟨#[]⟩,.string ⟨#[]⟩,.int .u8 3,.bool false,.int .i64 1,.slice none 0 0,.slice (some ⟨ge,0,none⟩) 1 ce,.slice none 0 0] w w7 [] w7.drew :=
  ⟨(HX6.out.trans hx7).drew,fun _=>(Ext.refl w7).drew,(HD6.out.ext hx7).drew,(HO6.out.ext hx7).ext (Ext.refl w7).drew,(HP6.out.ext hx7).ext (Ext.refl w7).drew,fun u hu=>by simp at hu,fun u hu=>by simp at hu,fun u hu=>by simp at hu,fun u hu=>by simp at hu,fun hl=>by simp at hl⟩
 (have hnx:nx<=1000000:=by have:=q1.1.len;simp [evHi] at this;omega);have HTx:=gH (fun w' (hx:Ext w7 w')=>zBy (evHi tHi) [[runP qCk]] Ax nx cx Ay ny cy gc cc w' (HT.out.ext ((HX6.out.trans hx7).trans hx)) (fun j v hv=>hx.cell (hch j v hv)) (q1.1.ext hx) (q2.1.ext hx) zNv hnx);have HUn:=gH (fun w' (hx:Ext w7 w')=>zKj (nDoc qCk) (nDoc tHi) (nDoc tHi) h5 h1 h2 g gu cu w.heap.size w' (HB6.out.ext (hx7.trans hx)) (qAh HR6.out (hx7.trans hx)));clear hJ hch q1 q2 hx7 HDc HDf HB6 HR6 HN6 HO6 HP6 HD6 hnx;go_wp2_with fail
 refine qMl [(2,true),(7,true),(12,true)] [some 46,some 47,some 48,some 49,some 50,some 51,some 52,some 53,some 54,some 55,some 56,some 57,some 58,some 59,some 60,some 61,some 62,some 63,some 0] [[],[0],[1],[2],[3,2,2],[4,2],[2,5],[6,4],[7],[8,7,7],[9,7],[7,10],[11,9],[12],[13,12,12],[12],[14,15,14,12],[12,16],[17,16,0,1,2,3,4,5,6,7,8,9,10,11,12,13,14,15,16,17]] [4,9,14,16] [.int .i64 0,.bool true,.bool true,.slice (some ⟨gc,0,none⟩) 1 cc,undef,.bool true,.bool true,.bool true,.pointer (some ⟨g,0,none⟩),undef,.bool true,.bool true,.bool true,.pointer (some ⟨g,0,none⟩),undef,.agg #[.string ⟨#[]⟩,.string ⟨#[]⟩,.int .u8 3,.bool false,.int .i64 1,.slice none 0 0,.slice (some ⟨ge,0,none⟩) 1 ce,.slice none 0 0],undef,.bool true,.bool true] (EaJ w.heap.size g w1.heap.size (nH ge ce) h1 h2 #[.string ⟨#[]⟩,.string ⟨#[]⟩,.int .u8 3,.bool false,.int .i64 1,.slice none 0 0,.slice (some ⟨ge,0,none⟩) 1 ce,.slice none 0 0] w w7) (by intro g hg;simp only [List.mem_cons,List.not_mem_nil,or_false] at hg;rcases hg with rfl | rfl | rfl<;>rfl) (by kernel_rfl) (by kernel_rfl) (by kernel_rfl) (by kernel_rfl) (by kernel_rfl) (by kernel_rfl) (by kernel_rfl) (by decide) ?_ ?_ ?_ ?_
 . exact hEa
 . intro i o ho hc a w' us K' hJ hF hlim hk
   match i,ho with
   | 0,ho =>
     simp only [gA,gB,gC,gD] at ho;subst ho;have e8:=hF.old 8 (.int .i64 0) rfl rfl;simp only [Act.eval] at e8;clear hF hlim hJ;go_simp;exact hk
   | 1,ho =>
     simp only [gA,gB,gC,gD] at ho;subst ho;have e46:=hF.pure 0 46 (.int .i64 0) rfl rfl rfl rfl;simp only [Act.eval] at e46;clear hF hlim hJ;go_simp;exact hk
   | 2,ho =>
     simp only [gA,gB,gC,gD] at ho;subst ho;have e47:=hF.pure 1 47 (.bool true) rfl rfl rfl rfl;simp only [Act.eval] at e47;clear hF hlim hJ;go_simp;exact hk
   | 3,ho =>
     simp only [gA,gB,gC,gD] at ho;subst ho;have e7:=hF.old 7 (.slice (some ⟨gc,0,none⟩) 1 cc) rfl rfl;simp only [Act.eval] at e7;clear hF hlim hJ;go_simp;exact hk
   | 4,ho=>simp at hc
   | 5,ho =>
     simp only [gA,gB,gC,gD] at ho;subst ho;obtain ⟨v50,hv50⟩:=qDp (hF.did 0 4 rfl rfl);have e50:=hF.link 0 4 50 _ rfl rfl rfl hv50;obtain rfl:=hJ.v0 v50 hv50;unfold evtT at e50;simp only [Act.eval] at e50;clear hF hlim hJ;go_simp;exact hk
   | 6,ho =>
     simp only [gA,gB,gC,gD] at ho;subst ho;have e48:=hF.pure 2 48 (.bool true) rfl rfl rfl rfl;have e51:=hF.pure 5 51 (.bool true) rfl rfl rfl rfl;simp only [Act.eval] at e48 e51;clear hF hlim hJ;go_simp;exact hk
   | 7,ho =>
     simp only [gA,gB,gC,gD] at ho;subst ho;have e52:=hF.pure 6 52 (.bool true) rfl rfl rfl rfl;simp only [Act.eval] at e52;clear hF hlim hJ;go_simp;exact hk
   | 8,ho =>
     simp only [gA,gB,gC,gD] at ho;subst ho;have e3:=hF.old 3 (.pointer (some ⟨g,0,none⟩)) rfl rfl;simp only [Act.eval] at e3;clear hF hlim hJ;go_simp;exact hk
   | 9,ho=>simp at hc
   | 10,ho =>
     simp only [gA,gB,gC,gD] at ho;subst ho;obtain ⟨v55,hv55⟩:=qDp (hF.did 1 9 rfl rfl);have e55:=hF.link 1 9 55 _ rfl rfl rfl hv55;obtain rfl:=hJ.v1 v55 hv55;simp only [Act.eval] at e55;clear hF hlim hJ;go_simp;exact hk
   | 11,ho =>
     simp only [gA,gB,gC,gD] at ho;subst ho;have e53:=hF.pure 7 53 (.bool true) rfl rfl rfl rfl;have e56:=hF.pure 10 56 (.bool true) rfl rfl rfl rfl;simp only [Act.eval] at e56 e53;clear hF hlim hJ;go_simp;exact hk
   | 12,ho =>
     simp only [gA,gB,gC,gD] at ho;subst ho;have e57:=hF.pure 11 57 (.bool true) rfl rfl rfl rfl;simp only [Act.eval] at e57;clear hF hlim hJ;go_simp;exact hk
   | 13,ho =>
     simp only [gA,gB,gC,gD] at ho;subst ho;have e3:=hF.old 3 (.pointer (some ⟨g,0,none⟩)) rfl rfl;simp only [Act.eval] at e3;clear hF hlim hJ;go_simp;exact hk
   | 14,ho=>simp at hc
   | 15,ho =>
     simp only [gA,gB,gC,gD] at ho;subst ho;have e1:=hF.old 1 (.pointer (some ⟨w1.heap.size,0,none⟩)) rfl rfl;exact qBf 27 (.tmp 1) rfl _ 27 _ _ e1 hJ.blk Tryz.underlying27 rfl (by exact qAb) hk
   | 16,ho=>simp at hc
   | 17,ho =>
     simp only [gA,gB,gC,gD] at ho;subst ho;have e58:=hF.pure 12 58 (.bool true) rfl rfl rfl rfl;obtain ⟨v62,hv62⟩:=qDp (hF.did 3 16 rfl rfl);have e62:=hF.link 3 16 62 _ rfl rfl rfl hv62;obtain rfl:=hJ.v3 v62 hv62;simp only [Act.eval] at e58 e62;clear hF hlim hJ;go_simp;exact hk
   | 18,ho =>
     simp only [gA,gB,gC,gD] at ho;subst ho;have e63:=hF.pure 17 63 (.bool true) rfl rfl rfl rfl;simp only [Act.eval] at e63;clear hF hlim hJ;go_simp;exact hk
   | i+19,ho=>simp at ho
 . intro p c' o hp ho a w' us K' hl hJ hF hk
   match p,hp with
   | 0,hp =>
     (obtain rfl:4=c':=by simpa using hp);simp only [gA,gB,gC,gD] at ho;subst ho;obtain rfl:us=[]:=List.eq_nil_of_length_eq_zero hl;have e49:=hF.pure 3 49 (.slice (some ⟨gc,0,none⟩) 1 cc) rfl rfl rfl rfl;refine qDl rfl e49 Tryz.call18 (HTx.out w' (hJ.ext (by simp))) ?_;rintro en w5 ⟨rfl,hx5⟩;exact ⟨_,rfl,hk _ w5 (hJ.text hx5)⟩
   | 1,hp =>
     (obtain rfl:9=c':=by simpa using hp);simp only [gA,gB,gC,gD] at ho;subst ho;obtain ⟨u0,rfl⟩:=qBv hl;have e54:=hF.pure 8 54 (.pointer (some ⟨g,0,none⟩)) rfl rfl rfl rfl;refine qDl rfl e54 Tryz.call19 (HUn.out w' (hJ.ext (by simp))) ?_;rintro en w5 ⟨rfl,ga,ca,wa,hxa,hba,rfl⟩;exact ⟨_,rfl,hk _ _ (hJ.undo hxa hba hgw hgB)⟩
   | 2,hp =>
     (obtain rfl:14=c':=by simpa using hp);simp only [gA,gB,gC,gD] at ho;subst ho;obtain ⟨u0,u1,rfl⟩:=qCm hl;have e59:=hF.pure 13 59 (.pointer (some ⟨g,0,none⟩)) rfl rfl rfl rfl;obtain ⟨ga,ca,hbh⟩:=hJ.his rfl;refine qDl rfl e59 Tryz.call17 (zGd (nDoc tHi) (nDoc tHi) h1 h2 _ _ g w' hbh hJ.o1.at_ (zFi _)) ?_;rintro en w5 ⟨k,rfl,ho,hx5⟩;exact ⟨_,rfl,hk _ w5 (hJ.doc hx5 ho.at_)⟩
   | 3,hp =>
     (obtain rfl:16=c':=by simpa using hp);simp only [gA,gB,gC,gD] at ho;subst ho;obtain ⟨u0,u1,u2,rfl⟩:=qCn hl;have e60:=hF.link 2 14 60 _ rfl rfl rfl rfl;have e61:=hF.pure 15 61 (.agg #[.string ⟨#[]⟩,.string ⟨#[]⟩,.int .u8 3,.bool false,.int .i64 1,.slice none 0 0,.slice (some ⟨ge,0,none⟩) 1 ce,.slice none 0 0]) rfl rfl rfl rfl;obtain ⟨k,rfl,hd2⟩:=hJ.v2 u2 rfl;refine qDm rfl e60 e61 Tryz.call20 (show Calls Tryz.prog 20 #[.agg ((nDoc tHi).cells k),.agg #[.string ⟨#[]⟩,.string ⟨#[]⟩,.int .u8 3,.bool false,.int .i64 1,.slice none 0 0,.slice (some ⟨ge,0,none⟩) 1 ce,.slice none 0 0]] w' _ from zDx (nDoc tHi) (nDoc tHi) k (nH ge ce) w' hd2 hJ.od.at_ (ea_bd hd2)) ?_;rintro en w5 ⟨rfl,hx5⟩;rw [zNw];exact ⟨_,rfl,hk _ w5 (hJ.same hx5)⟩
   | p+4,hp=>simp at hp
 intro us w8 hl hJ;obtain ⟨u0,u1,u2,u3,rfl⟩:=qEm hl
 first | (rename_i hK;refine hK _ _ ?_;clear hK) | (rename_i hK hK_1;refine hK _ _ ?_;clear hK) | (rename_i hK hK_1 hK_2;refine hK _ _ ?_;clear hK) | (rename_i hK hK_1 hK_2 hK_3;refine hK _ _ ?_;clear hK)
 generalize hL:qCd _ _ _ _=L;obtain rfl:L=[(46,.int .i64 0),(47,.bool true),(48,.bool true),(49,.slice (some ⟨gc,0,none⟩) 1 cc),(50,u0),(51,.bool true),(52,.bool true),(53,.bool true),(54,.pointer (some ⟨g,0,none⟩)),(55,u1),(56,.bool true),(57,.bool true),(58,.bool true),(59,.pointer (some ⟨g,0,none⟩)),(60,u2),(61,.agg #[.string ⟨#[]⟩,.string ⟨#[]⟩,.int .u8 3,.bool false,.int .i64 1,.slice none 0 0,.slice (some ⟨ge,0,none⟩) 1 ce,.slice none 0 0]),(62,u3),(63,.bool true),(0,.bool true)]:=hL.symm.trans (by kernel_rfl);clear hL hl;simp only [Act.put,List.foldl_cons,List.foldl_nil,List.setIfInBounds_toArray,List.set_cons_zero,List.set_cons_succ];have hx8:=hJ.ext0;clear hJ;go_wp2_with fail;go_ret;exact ⟨rfl,hx8⟩
theorem qTh {α:Type} {C:World->Nat->Nat->α->Prop} {w:World} {size n:Nat} {A:Option Addr} {l:List α} (h:Sl w size C A n l) (m:Nat):Sl w size C A (min n m) (l.take m):=by
 refine ⟨by rw [List.length_take,h.len];omega,fun h0=>?_⟩;obtain ⟨b,off,hA,hc⟩:=h.2 (by omega);refine ⟨b,off,hA,fun i x hx=>hc i x ?_⟩;rw [List.getElem?_take] at hx
 split at hx
 . exact hx
 . cases hx
def Doc.six (d:Doc):Doc:=⟨d.title,d.lang,d.rate,d.drop,d.last,d.regs.take 4,d.evs.take 6,d.coms.take 4⟩
def DocH.six (h:DocH):DocH:=⟨h.ra,min h.rn 4,h.rc,h.ea,min h.en 6,h.ec,h.ca,min h.cn 4,h.cc⟩
theorem qWn {w:World} {d:Doc} {h:DocH} (hat:qCx w d h):qCx w d.six h.six:=⟨qTh hat.regs 4,qTh hat.evs 6,qTh hat.coms 4⟩
theorem zOv (d:Doc) (h:DocH) (w:World) (c1:h.rn<=h.rc) (c2:h.en<=h.ec) (c3:h.cn<=h.cc) :
 Calls Tryz.prog 5 #[.agg (d.cells h)] w fun e w'=>e = .returned (.agg (d.six.cells h.six))/\Ext w w':=by
 obtain ⟨ra,rn,rc,ea,en,ec,ca,cn,cc⟩:=h;dsimp only at c1 c2 c3;unfold Doc.six DocH.six Doc.cells;dsimp only;have HX:=gH (((Ext.refl w).alloc (.cells #[.string d.title,.string d.lang,.int .u8 d.rate,.bool d.drop,.int .i64 d.last,.slice ra rn rc,.slice ea en ec,.slice ca cn cc] 27)).alloc (.cells qAl 27));have HB:=gH ((Blk.new w 27 #[.string d.title,.string d.lang,.int .u8 d.rate,.bool d.drop,.int .i64 d.last,.slice ra rn rc,.slice ea en ec,.slice ca cn cc]).alloc (.cells qAl 27));have HZ:=gH (Blk.new' (w:=w.alloc (.cells #[.string d.title,.string d.lang,.int .u8 d.rate,.bool d.drop,.int .i64 d.last,.slice ra rn rc,.slice ea en ec,.slice ca cn cc] 27)) (g:=w.heap.size+1) (t:=27) (cs:=qAl) (by simp));unfold qAl at HX HB HZ;(have q1:min (en:Int) 6=((min en 6:Nat):Int):=by omega);(have q2:min (rn:Int) 4=((min rn 4:Nat):Int):=by omega);(have q3:min (cn:Int) 4=((min cn 4:Nat):Int):=by omega);(have p1:min en 6<=ec:=by omega);(have p2:min rn 4<=rc:=by omega);(have p3:min cn 4<=cc:=by omega);(have sc0:=fun o=>(HB.out).cell o);(have sf0:=fun o=>(HB.out).frozen o)
 have se0:((w.alloc (.cells #[.string d.title,.string d.lang,.int .u8 d.rate,.bool d.drop,.int .i64 d.last,.slice ra rn rc,.slice ea en ec,.slice ca cn cc] 27)).alloc (.cells #[.string ⟨#[]⟩,.string ⟨#[]⟩,.int .u8 0,.bool false,.int .i64 0,.slice none 0 0,.slice none 0 0,.slice none 0 0] 27)).setCell ⟨w.heap.size,6,none⟩ (.slice ea (min en 6) ec)=putB ((w.alloc (.cells #[.string d.title,.string d.lang,.int .u8 d.rate,.bool d.drop,.int .i64 d.last,.slice ra rn rc,.slice ea en ec,.slice ca cn cc] 27)).alloc (.cells #[.string ⟨#[]⟩,.string ⟨#[]⟩,.int .u8 0,.bool false,.int .i64 0,.slice none 0 0,.slice none 0 0,.slice none 0 0] 27)) w.heap.size 27 #[.string d.title,.string d.lang,.int .u8 d.rate,.bool d.drop,.int .i64 d.last,.slice ra rn rc,.slice ea (min en 6) ec,.slice ca cn cc]:=qAd (HB.out) 6 _;(have sc1:=fun o=>((HB.out).put #[.string d.title,.string d.lang,.int .u8 d.rate,.bool d.drop,.int .i64 d.last,.slice ra rn rc,.slice ea (min en 6) ec,.slice ca cn cc]).cell o);(have sf1:=fun o=>((HB.out).put #[.string d.title,.string d.lang,.int .u8 d.rate,.bool d.drop,.int .i64 d.last,.slice ra rn rc,.slice ea (min en 6) ec,.slice ca cn cc]).frozen o)
 (have se1:(putB ((w.alloc (.cells #[.string d.title,.string d.lang,.int .u8 d.rate,.bool d.drop,.int .i64 d.last,.slice ra rn rc,.slice ea en ec,.slice ca cn cc] 27)).alloc (.cells #[.string ⟨#[]⟩,.string ⟨#[]⟩,.int .u8 0,.bool false,.int .i64 0,.slice none 0 0,.slice none 0 0,.slice none 0 0] 27)) w.heap.size 27 #[.string d.title,.string d.lang,.int .u8 d.rate,.bool d.drop,.int .i64 d.last,.slice ra rn rc,.slice ea (min en 6) ec,.slice ca cn cc]).setCell ⟨w.heap.size,5,none⟩ (.slice ra (min rn 4) rc)=putB ((w.alloc (.cells #[.string d.title,.string d.lang,.int .u8 d.rate,.bool d.drop,.int .i64 d.last,.slice ra rn rc,.slice ea en ec,.slice ca cn cc] 27)).alloc (.cells #[.string ⟨#[]⟩,.string ⟨#[]⟩,.int .u8 0,.bool false,.int .i64 0,.slice none 0 0,.slice none 0 0,.slice none 0 0] 27)) w.heap.size 27 #[.string d.title,.string d.lang,.int .u8 d.rate,.bool d.drop,.int .i64 d.last,.slice ra (min rn 4) rc,.slice ea (min en 6) ec,.slice ca cn cc]:=by rw [qAd ((HB.out).put _) 5 _,qBa];rfl);(have sc2:=fun o=>((HB.out).put #[.string d.title,.string d.lang,.int .u8 d.rate,.bool d.drop,.int .i64 d.last,.slice ra (min rn 4) rc,.slice ea (min en 6) ec,.slice ca cn cc]).cell o);(have sf2:=fun o=>((HB.out).put #[.string d.title,.string d.lang,.int .u8 d.rate,.bool d.drop,.int .i64 d.last,.slice ra (min rn 4) rc,.slice ea (min en 6) ec,.slice ca cn cc]).frozen o)
 (have se2:(putB ((w.alloc (.cells #[.string d.title,.string d.lang,.int .u8 d.rate,.bool d.drop,.int .i64 d.last,.slice ra rn rc,.slice ea en ec,.slice ca cn cc] 27)).alloc (.cells #[.string ⟨#[]⟩,.string ⟨#[]⟩,.int .u8 0,.bool false,.int .i64 0,.slice none 0 0,.slice none 0 0,.slice none 0 0] 27)) w.heap.size 27 #[.string d.title,.string d.lang,.int .u8 d.rate,.bool d.drop,.int .i64 d.last,.slice ra (min rn 4) rc,.slice ea (min en 6) ec,.slice ca cn cc]).setCell ⟨w.heap.size,7,none⟩ (.slice ca (min cn 4) cc)=putB ((w.alloc (.cells #[.string d.title,.string d.lang,.int .u8 d.rate,.bool d.drop,.int .i64 d.last,.slice ra rn rc,.slice ea en ec,.slice ca cn cc] 27)).alloc (.cells #[.string ⟨#[]⟩,.string ⟨#[]⟩,.int .u8 0,.bool false,.int .i64 0,.slice none 0 0,.slice none 0 0,.slice none 0 0] 27)) w.heap.size 27 #[.string d.title,.string d.lang,.int .u8 d.rate,.bool d.drop,.int .i64 d.last,.slice ra (min rn 4) rc,.slice ea (min en 6) ec,.slice ca (min cn 4) cc]:=by rw [qAd ((HB.out).put _) 7 _,qBa];rfl);(have sc3:=fun o=>((HB.out).put #[.string d.title,.string d.lang,.int .u8 d.rate,.bool d.drop,.int .i64 d.last,.slice ra (min rn 4) rc,.slice ea (min en 6) ec,.slice ca (min cn 4) cc]).cell o);(have sf3:=fun o=>((HB.out).put #[.string d.title,.string d.lang,.int .u8 d.rate,.bool d.drop,.int .i64 d.last,.slice ra (min rn 4) rc,.slice ea (min en 6) ec,.slice ca (min cn 4) cc]).frozen o)
 have HB3:=gH (HB.out.put #[.string d.title,.string d.lang,.int .u8 d.rate,.bool d.drop,.int .i64 d.last,.slice ra (min rn 4) rc,.slice ea (min en 6) ec,.slice ca (min cn 4) cc]);have HZ3:=gH (HZ.out.put_other (g':=w.heap.size) (t':=27) (by omega) #[.string d.title,.string d.lang,.int .u8 d.rate,.bool d.drop,.int .i64 d.last,.slice ra (min rn 4) rc,.slice ea (min en 6) ec,.slice ca (min cn 4) cc]);have HX3:=gH (HX.out.put (Nat.le_refl _) 27 #[.string d.title,.string d.lang,.int .u8 d.rate,.bool d.drop,.int .i64 d.last,.slice ra (min rn 4) rc,.slice ea (min en 6) ec,.slice ca (min cn 4) cc]);go_enter Tryz.func5,Tryz.ntmps5;(go_wp2_with first | (refine qAa rfl 27 (.tmp 1) rfl w.heap.size 27 #[.string d.title,.string d.lang,.int .u8 d.rate,.bool d.drop,.int .i64 d.last,.slice ra (min rn 4) rc,.slice ea (min en 6) ec,.slice ca (min cn 4) cc] _ (by exact rfl) (by exact HB3.out) Tryz.underlying27 rfl (by exact qAb) ?_) | (refine qAc rfl 27 (.tmp 2) _ rfl (w.heap.size+1) 27 _ _ (by exact rfl) (by exact rfl) (by exact HZ3.out) (by exact rfl) (by exact qAb) (by simp [Value.oneCell']) ?_));refine bodyPost_ret (v:=.agg #[.string d.title,.string d.lang,.int .u8 d.rate,.bool d.drop,.int .i64 d.last,.slice ra (min rn 4) rc,.slice ea (min en 6) ec,.slice ca (min cn 4) cc]) ?_ rfl ⟨rfl,HX3.out.put (by omega) _ _⟩
 exact qBz (P:=Tryz.prog) Tryz.results5 (g:=w.heap.size+1) rfl (by exact HZ3.out.put _) Tryz.underlying27 rfl qAb
def zLz (d:Doc) (id:Int) (w:World) (e:Ending) (w':World):Prop :=
 Ext w w'/\((qBd d.evs id=none/\e = .returned (.tuple #[.agg qLx,.bool false]))\/∃ k x A n c,qBd d.evs id=some k/\d.evs[k]?=some x/\e = .returned (.tuple #[.agg (x.cells A n c),.bool true])/\EvAt w' x A n c)
theorem zQi (d:Doc) (h:DocH) (id:Int) (w:World) (hat:qCx w d h) (hn:h.en<=1000000) :
 Calls Tryz.prog 8 #[.agg (d.cells h),.int .i64 id] w (zLz d id w):=by
 have HX:=gH (((Ext.refl w).alloc (.cells (d.cells h) 27)).alloc (.cells qLx 54));have HB:=gH ((Blk.new w 27 (d.cells h)).alloc (.cells qLx 54));have HZ:=gH (Blk.new' (w:=w.alloc (.cells (d.cells h) 27)) (g:=w.heap.size+1) (t:=54) (cs:=qLx) (by simp));have HF:=gH (qHo d h id _ (hat.evs.ext HX.out) (by omega));have HEv:=gH hat.evs;clear hat;unfold qLx at *;unfold Doc.cells at *;go_enter Tryz.func8,Tryz.ntmps8;go_wp2_with (refine qAa rfl 27 (.tmp 2) rfl w.heap.size 27 _ _ (by exact rfl) (by exact HB.out) Tryz.underlying27 rfl (by exact qAb) ?_);refine HF.out.mono ?_;rintro e w2 ⟨rfl,hx2⟩;have HX2:=gH (HX.out.trans hx2);have HZ2:=gH (HZ.out.ext hx2);(have kb:=fun o=>(HB.out.ext hx2).cell o);clear hx2 HX HB HZ HF;unfold qGz
 cases hf:qBd d.evs id with
 | none =>
   dsimp only;go_wp2_with (refine qAc rfl 54 (.tmp 4) _ rfl (w.heap.size+1) 54 _ _ (by exact rfl) (by exact rfl) (by exact HZ2.out) (by exact rfl) (by exact qAu) (by simp [Value.oneCell']) ?_);refine bodyPost_ret (v:=.tuple #[.agg qLx,.bool false]) ?_ rfl ⟨HX2.out.put (by omega) _ _,.inl ⟨hf,rfl⟩⟩;exact qAq (P:=Tryz.prog) Tryz.results8 (g:=w.heap.size+1) rfl (by exact HZ2.out.put _) Tryz.underlying54 rfl qAu
 | some k =>
   dsimp only;obtain ⟨x,hxk,-,-⟩:=qEa hf;(have hkl:k<h.en:=by rw [← HEv.out.len];exact (List.getElem?_eq_some_iff.1 hxk).1);obtain ⟨b,off,x',A,n,c,hA,hxk',hev,c0,c1,c2,c3,c4,c5,c6⟩:=HEv.out.at_ev hkl;have c0:=HX2.out.cell c0;have c1:=HX2.out.cell c1;have c2:=HX2.out.cell c2;have c3:=HX2.out.cell c3;have c4:=HX2.out.cell c4;have c5:=HX2.out.cell c5;have c6:=HX2.out.cell c6;rw [hxk] at hxk';obtain rfl:x=x':=Option.some.inj hxk';have HK:=gH hxk;have HFd:=gH hf;have HEx:=gH hev;(have q1:¬ ((k:Int)<0):=by omega);have q2:decide ((k:Int)<0)=false:=decide_eq_false q1;rw [hA] at kb;clear hxk hxk' hf hev hA HEv;go_wp2_with (refine qAc rfl 54 (.tmp 4) _ rfl (w.heap.size+1) 54 _ _ (by exact rfl) (by exact rfl) (by exact HZ2.out) (by exact rfl) (by exact qAu) (by simp [Value.oneCell']) ?_);refine bodyPost_ret (v:=.tuple #[.agg (x.cells A n c),.bool true]) ?_ rfl ⟨HX2.out.put (by omega) _ _,.inr ⟨k,x,A,n,c,HFd.out,HK.out,rfl,?_⟩⟩
   . exact qAq (P:=Tryz.prog) Tryz.results8 (g:=w.heap.size+1) rfl (by exact HZ2.out.put _) Tryz.underlying54 rfl qAu
   . exact EvAt.ext HEx.out (HX2.out.put (by omega) _ _)
theorem qGd (s:ByteArray):∀ (f pos:Nat) (acc:Array Value),(Conv.runesFrom s f pos acc).toList=acc.toList++(qDi s f pos).map (Value.int .i32)
 | 0,_,acc=>by simp [Conv.runesFrom,qDi]
 | f+1,pos,acc=>by
   unfold Conv.runesFrom qDi
   split
   . rw [qGd s f];simp
   . simp
theorem qWj {P:Program} (src dst e:TypeId) (s:ByteArray) (hs:P.underlying src=some .string) (hd:P.underlying dst=some (.slice e)) (he:P.underlying e=some (.int .i32)) (h:s.size<=70368744177664) :
 ∃ (c:World->Nat) (o:World->Obj),∀ w,(convert src dst (.string s)).run P w = .ok (.slice (some ⟨w.heap.size,0,none⟩) (qAo s 0).length (c w)) (w.drew.alloc (o w))/\(qAo s 0).length<=c w/\qCp (w.drew.alloc (o w)) (some ⟨w.heap.size,0,none⟩) (qAo s 0).length (qAo s 0):=by
 have hl:=qGr s;(have hsz:(Conv.runesFrom s s.size 0 #[]).size=(qAo s 0).length:=by rw [← Array.length_toList,qGd];simp [qAo]);refine ⟨fun w=>grownCap w (qAo s 0).length 0 e,fun w=>.cells (Conv.runesFrom s s.size 0 #[]++Array.replicate (grownCap w (qAo s 0).length 0 e-(qAo s 0).length) (.int .i32 0)) e,fun w=>⟨?_,?_,?_⟩⟩
 . have:=run_runes_of_string (P:=P) w src dst e s hs hd he (by rw [hsz];omega)
   rw [hsz] at this;exact this
 . exact grownCap_ge w _ 0 e
 . refine ⟨rfl,fun _=>⟨w.heap.size,0,rfl,fun i x hx j u hu=>?_⟩⟩
   have hi:=(List.getElem?_eq_some_iff.1 hx).1
   match j,hu with
   | 0,hu =>
     have hb:=Blk.new w.drew e (Conv.runesFrom s s.size 0 #[]++Array.replicate (grownCap w (qAo s 0).length 0 e-(qAo s 0).length) (.int .i32 0));have hc:=hb.cell i;simp at hu;subst hu;rw [← Array.getElem?_toList,Array.toList_append,qGd] at hc;rw [show (0+i*1+0:Nat)=i by omega];refine hc.trans ?_;rw [List.getElem?_append_left (by simp [qAo] at hi ⊢;exact hi)];simp only [List.nil_append,List.getElem?_map];rw [show qDi s s.size 0=qAo s 0 by unfold qAo;rfl,hx];rfl
   | j+1,hu=>simp at hu
def zQg (t:ByteArray) (W0:World) (v:Value) (wr:World):Prop :=
 ∃ (pos b off:Nat) (l:List Int) (c:Nat),wr.heap[W0.heap.size]?=some (.stringIter t pos)/\Ext W0 wr/\True/\v = .slice (some ⟨b,off,none⟩) l.length c/\l.length<=c/\qCp W0 (some ⟨b,off,none⟩) l.length l/\eatL l (qAo t pos)=[]
theorem zDh {w:World} {b off:Nat} {x:Int} {l:List Int} (h:qCp w (some ⟨b,off,none⟩) (x :: l).length (x :: l)):qCp w (some ⟨b,off+1,none⟩) l.length l:=by
 refine ⟨rfl,fun h0=>⟨b,off+1,rfl,fun i y hy=>?_⟩⟩;obtain ⟨b',off',hA,hc⟩:=h.2 (by simp)
 cases hA
 have:=hc (i+1) y (by simpa using hy)
 rwa [show off+1+i*1=off+(i+1)*1 by omega]
theorem zIs (s t:ByteArray) (w:World) (hs:s.size<=4294967296) (ht:t.size<=4294967296) (hsub:(qAo s 0).Sublist (qAo t 0)) :
 Calls Tryz.prog 11 #[.string s,.string t] w fun e w'=>e = .returned (.bool true)/\Ext w w':=by
 obtain ⟨cc,oo,hcv⟩:=qWj (P:=Tryz.prog) 9 96 21 s Tryz.underlying9 Tryz.underlying96 Tryz.underlying21 (by omega);have hca:=(hcv w).1;have HCv:=gH (hcv w).2;have HSub:=gH (qXt _ _ hsub);obtain ⟨W0,hW0⟩:∃ W0,W0=w.drew.alloc (oo w):=⟨_,rfl⟩;(have hs0:W0.heap.size=w.heap.size+1:=by rw [hW0];simp);have HX0:=gH (show Ext w W0 from by rw [hW0];exact ((Ext.refl w).drew).alloc _);rw [← hW0] at hca HCv;clear hcv hsub hW0;go_enter Tryz.func11,Tryz.ntmps11;have h1:=Ext.refl W0;go_wp2_with fail;rw [← hs0];have hit:=W0.iter_heap t 0;have hxi:=h1.iter t 0;clear hca hs0 h1
 go_loopw [5] (fun v wr=>zQg t W0 v wr) (fun _ wr=>t.size-wr.iterPos W0.heap.size)
 case atStart=>exact ⟨0,_,0,_,_,hit,hxi,trivial,rfl,HCv.out.1,HCv.out.2,HSub.out⟩
 case round =>
  obtain ⟨pos,b,off,l,c,hk,hx,hle,rfl,hlc,hrn,heat⟩:=hrel;have hpos0:=gH (iterPos_of hk);have HEat:=gH heat;clear heat hit hxi
  by_cases hlt:pos<t.size
  . have hn:=fun ty=>Lib.run_next_any_at (P:=Tryz.prog) wr _ t pos ty hk hlt
    have hstep:=gH (qDf t pos hlt);have hw:=qGy t pos hlt;have hk2:=Lib.iterAt_heap wr _ t pos (pos+(Utf8.decode t pos).2) hk;have hx2:=hx.iterAt (Nat.le_refl _) t (pos+(Utf8.decode t pos).2);obtain ⟨W1,hW1⟩:∃ W1,W1=wr.iterAt W0.heap.size t (pos+(Utf8.decode t pos).2):=⟨_,rfl⟩;rw [← hW1] at hn hk2 hx2;clear hW1 hk hx;have HR:=gH hrn;clear hrn;have HK:=gH hk2;have HX2:=gH hx2;have HLc:=gH hlc;clear hk2 hx2;have hst2:=hstep.out;have heq:=HEat.out;rw [hst2] at heq;clear hst2 hstep HEat;obtain ⟨r,hr⟩:∃ r:Int,r=((Utf8.decode t pos).1:Int):=⟨_,rfl⟩;obtain ⟨p2,hp2⟩:∃ q:Nat,q=pos+(Utf8.decode t pos).2:=⟨_,rfl⟩;rw [← hr,← hp2] at heq;rw [← hp2] at HK;simp only [← hr,← hp2] at hn;(have hp3:pos<p2:=by omega);have HP3:=gH hp3;clear hr hp2 hp3 hw
    cases l with
    | nil =>
      have HQ:=gH (qXs (qAo t p2));clear heq;go_wp2_with fail;exact ⟨⟨p2,b,off,[],c,HK.out,HX2.out,trivial,rfl,HLc.out,HR.out,HQ.out⟩,by rw [iterPos_of HK.out,hpos0.out];have:=HP3.out;omega⟩
    | cons x l' =>
      have hc0:W1.cell? ⟨b,off,none⟩=some (.int .i32 x):=by
       obtain ⟨b',off',hA,hc⟩:=(HR.out.ext HX2.out).2 (by simp)
       cases hA
       have:=hc 0 x rfl 0 _ rfl;simpa using this
      have hlen:(x :: l').length=l'.length+1:=rfl;rw [eatL] at heq
      by_cases hxr:x=r
      . rw [if_pos hxr] at heq
        have HQ:=gH heq;(have q1:(x == r)=true:=by rw [hxr];exact beq_self_eq_true r);have HT:=gH (zDh HR.out);have hlc:=HLc.out;rw [hlen] at hlc ⊢
        by_cases hc1:c=1
        . have hl0:l'=[]:=List.eq_nil_of_length_eq_zero (by omega)
          subst hl0;subst hc1;clear heq hxr hlen hlc;go_wp2_with fail;refine ⟨⟨p2,b,_,[],_,HK.out,HX2.out,trivial,rfl,Nat.zero_le _,⟨rfl,fun h=>absurd h (Nat.lt_irrefl 0)⟩,HQ.out⟩,by rw [iterPos_of HK.out,hpos0.out];have:=HP3.out;omega⟩
        . clear heq hxr hlen
          obtain ⟨m,hm⟩:∃ m,m=l'.length:=⟨_,rfl⟩;have HM:=gH hm;rw [← hm] at hlc ⊢;clear hm;go_wp2_with fail;refine ⟨⟨p2,b,off+1,l',c-1,HK.out,HX2.out,trivial,by rw [HM.out],by rw [← HM.out];omega,HT.out,HQ.out⟩,by rw [iterPos_of HK.out,hpos0.out];have:=HP3.out;omega⟩
      . rw [if_neg hxr] at heq
        have HQ:=gH heq;have q1:(x == r)=false:=beq_eq_false_iff_ne.2 hxr;clear heq hxr hlen;go_wp2_with fail;exact ⟨⟨p2,b,off,x :: l',c,HK.out,HX2.out,trivial,rfl,HLc.out,HR.out,HQ.out⟩,by rw [iterPos_of HK.out,hpos0.out];have:=HP3.out;omega⟩
  . have hn:=fun ty=>Lib.run_next_end_at (P:=Tryz.prog) wr _ t pos ty hk hlt
    have hl:l=[]:=by have:=HEat.out;rw [qEe t pos hlt] at this;cases l with
     | nil=>rfl
     | cons x l=>exact absurd this (by simp [eatL])
    subst hl;have HX:=gH (HX0.out.trans hx);clear hx hrn HEat hlc;go_wp2_with fail;go_ret;exact ⟨rfl,HX.out⟩
theorem zBk (d:Doc) (h:DocH) (id fr til:Int) (nm tx:ByteArray) (w:World) (hE:Env w) (hat:qCx w d h) (hf:qCf d) (hrn:h.rn<=9223372036854775807) (hr:h.rn*56<=140737488355328) (hn:h.en<=1000000) (hcn:h.cn<=1000000)
 (hnm:nm.size<=9223372036854775807) (htx:tx.size<=9223372036854775807) :
 Calls Tryz.prog 6 #[.agg (d.cells h),.agg (edC 17 id fr til nm tx (.slice none 0 0))] w (qHk (d.apNote id fr til nm tx) w):=by
 obtain ⟨W1,hW1⟩:∃ W1,W1=((w.alloc (.cells (d.cells h) 27)).alloc (.cells (edC 17 id fr til nm tx (.slice none 0 0)) 48)).alloc (.cells qAl 27):=⟨_,rfl⟩;have HX1:Hid (Ext w W1):=gH (by rw [hW1];exact (((Ext.refl w).alloc _).alloc _).alloc _);have HB1:Hid (Blk W1 w.heap.size 27 (d.cells h)):=gH (by rw [hW1];exact ((Blk.new w _ _).alloc _).alloc _);have HE1:Hid (Blk W1 (w.heap.size+1) 48 (edC 17 id fr til nm tx (.slice none 0 0))):=gH (by rw [hW1];exact (Blk.new' (by simp)).alloc _);have HZ1:Hid (Blk W1 (w.heap.size+2) 27 qAl):=gH (by rw [hW1];exact Blk.new' (by simp));have HCk:=gH (qDb d h W1 (hE.ext HX1.out) (hat.ext HX1.out) hf hrn hn (by omega));have HEk:=gH (fun w' (hx:Ext w w')=>qXu id fr til nm tx w' (hE.ext hx) hnm htx);have HA1:=gH (fun w' (hx:Ext w w')=>zJa d h id fr til nm tx w' (hE.ext hx) (hat.ext hx) hf hrn hr hn hcn hnm htx);(have hend:∀ w' e,e≠(0:Int)->d.apNote id fr til nm tx=(Doc.zero,e)->Ext w w'->qHk (d.apNote id fr til nm tx) w (.returned (.tuple #[.agg qAl,.int .i64 e])) w':=fun w' e _ h1 h2=>qIp h1 h2);have HEnd:=gH hend;unfold qAl at hW1 HZ1;unfold edC at hW1 HE1 HEk ⊢;unfold Doc.cells at *;clear hE hat hf hend;go_enter Tryz.func6,Tryz.ntmps6;go_wp2_with (refine qAa rfl 27 (.tmp 2) rfl w.heap.size 27 _ _ (by exact rfl) (by rw [← hW1];exact HB1.out) Tryz.underlying27 rfl (by exact qAb) ?_);rw [← hW1];clear hW1;refine HCk.out.mono ?_
 rintro en w2 ⟨rfl,hx2⟩;have HX2:=gH (HX1.out.trans hx2);have HB2:=gH (HB1.out.ext hx2);have HE2:=gH (HE1.out.ext hx2);have HZ2:=gH (HZ1.out.ext hx2);clear hx2 HX1 HB1 HE1 HZ1 HCk
 by_cases h0:d.err=0
 case neg =>
  (have hne2:(d.err != 0)=true:=by simpa using h0);have HS:Hid (d.apNote id fr til nm tx=(Doc.zero,d.err)):=gH (by unfold Doc.apNote;rw [if_pos h0]);have H0:=gH h0;clear h0;go_wp2_with (refine qAc rfl 27 (.tmp 4) _ rfl (w.heap.size+2) 27 _ _ (by exact rfl) (by exact rfl) (by exact HZ2.out) (by exact rfl) (by exact qAb) (by simp [Value.oneCell']) ?_);refine bodyPost_ret (v:=.tuple #[.agg qAl,.int .i64 d.err]) ?_ rfl (HEnd.out _ _ H0.out HS.out (HX2.out.put (by omega) 27 qAl));exact qAq (P:=Tryz.prog) Tryz.results6 (g:=w.heap.size+2) rfl (by exact HZ2.out.put _) Tryz.underlying27 rfl qAb
 have H0:=gH h0;rw [h0];clear h0;go_wp2_with (refine qAa rfl 48 (.tmp 3) rfl (w.heap.size+1) 48 _ _ (by exact rfl) (by exact HE2.out) Tryz.underlying48 rfl (by exact qBq) ?_);refine (HEk.out _ HX2.out).mono ?_;rintro en w3 ⟨rfl,hx3⟩;have HX3:=gH (HX2.out.trans hx3);have HB3:=gH (HB2.out.ext hx3);have HE3:=gH (HE2.out.ext hx3);have HZ3:=gH (HZ2.out.ext hx3);clear hx3 HX2 HB2 HE2 HZ2 HEk
 by_cases h1:qCq id fr til nm tx=0
 case neg =>
  (have hne2:(qCq id fr til nm tx != 0)=true:=by simpa using h1);have HS:Hid (d.apNote id fr til nm tx=(Doc.zero,qCq id fr til nm tx)):=gH (by unfold Doc.apNote;rw [if_neg (by simpa using H0.out),if_pos h1]);have H1:=gH h1;clear h1;go_wp2_with (refine qAc rfl 27 (.tmp 4) _ rfl (w.heap.size+2) 27 _ _ (by exact rfl) (by exact rfl) (by exact HZ3.out) (by exact rfl) (by exact qAb) (by simp [Value.oneCell']) ?_);refine bodyPost_ret (v:=.tuple #[.agg qAl,.int .i64 (qCq id fr til nm tx)]) ?_ rfl (HEnd.out _ _ H1.out HS.out (HX3.out.put (by omega) 27 qAl));exact qAq (P:=Tryz.prog) Tryz.results6 (g:=w.heap.size+2) rfl (by exact HZ3.out.put _) Tryz.underlying27 rfl qAb
 have HS:Hid (d.apNote id fr til nm tx=(d.added id fr til nm tx,d.addErr id fr til nm tx)):=gH (by unfold Doc.apNote;rw [if_neg (by simpa using H0.out),if_neg (by simpa using h1)]);rw [h1];clear h1;have HA:=gH (HA1.out _ HX3.out);(have he3:=fun o=>HE3.out.cell o);go_wp2_with (refine qAa rfl 27 (.tmp 2) rfl w.heap.size 27 _ _ (by exact rfl) (by exact HB3.out) Tryz.underlying27 rfl (by exact qAb) ?_);refine HA.out.mono ?_;rintro en w5 ⟨h5,rfl,ho5,hx5⟩;have HX5:=gH (HX3.out.trans hx5);have HZ5:=gH (HZ3.out.ext hx5);have HO5:=gH (ho5.le HX3.out.size);clear ho5 hx5 HA he3;obtain ⟨D,hD⟩:∃ D,D=d.added id fr til nm tx:=⟨_,rfl⟩;rw [← hD] at HO5 HS ⊢;clear hD;have HQ6:=gH (Blk.new w5 27 (D.cells h5));have HX6:=gH (HX5.out.alloc (.cells (D.cells h5) 27));have HZ6:=gH (HZ5.out.alloc (.cells (D.cells h5) 27));have HO6:=gH (HO5.out.ext ((Ext.refl w5).alloc (.cells (D.cells h5) 27)));unfold Doc.cells at *;go_wp2_with (first | (refine qAa rfl 27 (.tmp 12) rfl w5.heap.size 27 _ _ (by exact rfl) (by exact HQ6.out) Tryz.underlying27 rfl (by exact qAb) ?_) | (refine qAc rfl 27 (.tmp 4) _ rfl (w.heap.size+2) 27 _ _ (by exact rfl) (by exact rfl) (by exact HZ6.out) (by exact rfl) (by exact qAb) (by simp [Value.oneCell']) ?_));refine bodyPost_ret (v:=.tuple #[.agg (D.cells h5),.int .i64 (d.addErr id fr til nm tx)]) ?_ rfl ⟨h5,by rw [HS.out],by rw [HS.out];exact HO6.out.put HZ6.out _,HX6.out.put (by omega) _ _⟩
 exact qAq (P:=Tryz.prog) Tryz.results6 (g:=w.heap.size+2) rfl (by exact HZ6.out.put _) Tryz.underlying27 rfl qAb
end
end Go.Proofs.YtneffpbodfjceaaGreatDoor