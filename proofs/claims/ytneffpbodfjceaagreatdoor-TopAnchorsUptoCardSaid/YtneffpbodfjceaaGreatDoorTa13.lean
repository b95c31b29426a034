/- Texts laid together. -/
import Derived.Test.YtneffpbodfjceaaGreatDoorTa12
import Derived.Lib.RuneBytes
set_option linter.unusedVariables false
set_option linter.unusedSimpArgs false
set_option maxRecDepth 100000
set_option maxHeartbeats 16000000
namespace Go.Proofs.YtneffpbodfjceaaGreatDoor
section
open Go.RowKit
theorem zEr (d:Doc) (h:DocH) (id:Int) (w:World) (hE:Env w) (hat:qCx w d h) (hf:qCf d) (hrn:h.rn<=9223372036854775807) (hn:h.en<=1000000) (hcn:h.cn<=1000000) :
 Calls Tryz.prog 42 #[.agg (d.cells h),.int .i64 id] w fun en w'=>en = .returned (.tuple #[.int .i64 (d.cfIdx id),.int .i64 (d.cfErr id)])/\Ext w w':=by
 have HX:=gH ((Ext.refl w).alloc (.cells (d.cells h) 27));have HB:=gH (Blk.new w 27 (d.cells h));have HCk:=gH (fun w' (hx:Ext w w')=>qDb d h w' (hE.ext hx) (hat.ext hx) hf hrn hn (by omega));have HFd:=gH (fun w' (hx:Ext w w')=>zDw d h id w' (hat.coms.ext hx) (by omega));clear hat hE hf;unfold Doc.cells at *;go_enter Tryz.func42,Tryz.ntmps42;go_wp2_with (refine qAa rfl 27 (.tmp 2) rfl w.heap.size 27 _ _ (by exact rfl) (by exact HB.out) Tryz.underlying27 rfl (by exact qAb) ?_);refine (HCk.out _ HX.out).mono ?_;rintro en w_1 ⟨rfl,hx_2⟩;have HX_3:=gH (HX.out.trans hx_2);have HB_4:=gH (HB.out.ext hx_2);clear hx_2 HX HB
 by_cases h1:d.err=0
 case neg =>
  (have hne:(d.err != 0)=true:=by simpa using h1);(have HE1:Hid (d.cfErr id=d.err):=by show _=_;unfold Doc.cfErr;rw [if_pos h1]);(have HE2:Hid (d.cfIdx id=0):=by show _=_;unfold Doc.cfIdx;rw [if_neg (by rw [HE1.out];exact h1)]);clear h1;go_wp2_with fail;go_ret2;exact ⟨by rw [HE1.out,HE2.out];rfl,HX_3.out⟩
 have H1:=gH h1;rw [h1];clear h1;go_wp2_with (refine qAa rfl 27 (.tmp 2) rfl w.heap.size 27 _ _ (by exact rfl) (by exact HB_4.out) Tryz.underlying27 rfl (by exact qAb) ?_);refine (HFd.out _ HX_3.out).mono ?_;rintro en w_5 ⟨rfl,hx_6⟩;have HX_7:=gH (HX_3.out.trans hx_6);have HB_8:=gH (HB_4.out.ext hx_6);clear hx_6 HX_3 HB_4
 by_cases h2:qHu d.coms id<0
 . have HE1:Hid (d.cfErr id=6):=by show _=_;unfold Doc.cfErr;rw [if_neg (by rw [H1.out];decide),if_pos h2]
   (have HE2:Hid (d.cfIdx id=0):=by show _=_;unfold Doc.cfIdx;rw [if_neg (by rw [HE1.out];decide)]);go_wp2_with fail;go_ret2;exact ⟨by rw [HE1.out,HE2.out];rfl,HX_7.out⟩
 (have HE1:Hid (d.cfErr id=0):=by show _=_;unfold Doc.cfErr;rw [if_neg (by rw [H1.out];decide),if_neg h2]);(have HE2:Hid (d.cfIdx id=qHu d.coms id):=by show _=_;unfold Doc.cfIdx;rw [if_pos HE1.out]);go_wp2_with fail;go_ret2;exact ⟨by rw [HE1.out,HE2.out];rfl,HX_7.out⟩
def QtRel (W:World) (fr til:Int) (l:List Int) (n:Nat) (v i:Value) (wr:World):Prop:=∃ k:Nat,k<=n/\v = .string (qCz fr til (l.take k))/\i = .int .i64 k/\Ext W wr
theorem qKy (e:Ev) {n:Nat} (h:e.bytes<=1099511627776) (hn:n*24<=140737488355328) (hl:e.rows.length=n):(⟨e.text.toArray⟩:ByteArray).size<=35184372088831:=by
 have h1:=qMt [10] (e.rows.map qAy)
 have h2:((e.rows.map qAy).map List.length)=e.rows.map qAe:=by
  rw [List.map_map];apply List.map_congr_left;intro r _;exact qHf r
 have h3:(⟨e.text.toArray⟩:ByteArray).size=e.text.length:=rfl;rw [h2] at h1;unfold Ev.bytes at h;rw [h3];unfold Ev.text;simp only [List.length_map,List.length_singleton,Nat.mul_one] at h1;omega
theorem qPv (d:Doc) (h:DocH) (id:Int) (w:World) (hE:Env w) (hat:qCx w d h) (hf:qCf d) (hrn:h.rn<=9223372036854775807) (hn:h.en<=1000000) (hcn:h.cn<=1000000) :
 Calls Tryz.prog 7 #[.agg (d.cells h),.int .i64 id] w fun en w'=>en = .returned (.tuple #[.string (d.quX id).1,.int .i64 (d.quX id).2])/\Ext w w':=by
 have HX:=gH ((Ext.refl w).alloc (.cells (d.cells h) 27));have HB:=gH (Blk.new w 27 (d.cells h));have HCf:=gH (fun w' (hx:Ext w w')=>zEr d h id w' (hE.ext hx) (hat.ext hx) hf hrn hn hcn);have HFd:=gH (fun w' (hx:Ext w w') ev=>qHo d h ev w' (hat.evs.ext hx) (by omega));have HEv:=gH hat.evs;have HCo:=gH hat.coms;have HSm:=gH hf.evs;have HEl:=gH hat.evs.len;have HCl:=gH hat.coms.len;clear hat hE hf;obtain ⟨hra,nr,hrc,hea,hen,hec,hca,nc,hcc⟩:=h;unfold Doc.cells at *;dsimp only at *;go_enter Tryz.func7,Tryz.ntmps7;go_wp2_with (refine qAa rfl 27 (.tmp 2) rfl w.heap.size 27 _ _ (by exact rfl) (by exact HB.out) Tryz.underlying27 rfl (by exact qAb) ?_);refine (HCf.out _ HX.out).mono ?_;rintro en w_9 ⟨rfl,hx_10⟩;have HX_11:=gH (HX.out.trans hx_10);have HB_12:=gH (HB.out.ext hx_10);clear hx_10 HX HB
 by_cases h1:d.err=0
 case neg =>
  (have HE1:Hid (d.cfErr id=d.err):=by show _=_;unfold Doc.cfErr;rw [if_pos h1]);have HQ:=gH (qu_1 (id:=id) h1);rw [HE1.out];(have hne:(d.err != 0)=true:=by simpa using h1);clear h1;go_wp2_with fail;go_ret2;exact ⟨by rw [HQ.out];rfl,HX_11.out⟩
 have H1:=gH h1;clear h1
 cases hfc:qFb d.coms id with
 | none =>
  (have HE1:Hid (d.cfErr id=6):=by show _=_;unfold Doc.cfErr qHu;rw [if_neg (by rw [H1.out];decide),hfc];rfl);have HQ:=gH (qu_2 H1.out hfc);rw [HE1.out];clear hfc;go_wp2_with fail;go_ret2;exact ⟨by rw [HQ.out];rfl,HX_11.out⟩
 | some k =>
  (have HE1:Hid (d.cfErr id=0):=by show _=_;unfold Doc.cfErr qHu;rw [if_neg (by rw [H1.out];decide),hfc];simp only;rw [if_neg (by omega)]);(have HE2:Hid (d.cfIdx id=(k:Int)):=by show _=_;unfold Doc.cfIdx qHu;rw [if_pos HE1.out,hfc]);(have hkn:k<nc:=by have:=(List.findIdx?_eq_some_iff_getElem.1 hfc).1;have:=HCl.out;omega);have HFc:=gH hfc;rw [HE1.out,HE2.out];clear hfc;obtain ⟨cb,coff,c,rfl,hcc',c0,c1,c2,c3,c4,c5,c6,c7⟩:=(HCo.out.ext HX_11.out).at8 hkn;have HCc:=gH hcc';clear hcc';(have hcd0:=fun o=>HB_12.out.cell o);have HB_13:=gH (Blk.new w_9 95 #[.int .i64 c.id,.int .i64 c.ev,.int .i64 c.fr,.int .i64 c.til,.string c.author,.string c.text,.bool c.done,.bool c.lost]);have ha_14:=(Ext.refl w_9).alloc (.cells #[.int .i64 c.id,.int .i64 c.ev,.int .i64 c.fr,.int .i64 c.til,.string c.author,.string c.text,.bool c.done,.bool c.lost] 95);have HX_15:=gH (HX_11.out.trans ha_14);have HB_16:=gH (HB_12.out.ext ha_14);clear ha_14 HX_11 HB_12
  cases hlo:c.lost
  case true =>
   have HQ:=gH (qu_3 H1.out HFc.out HCc.out hlo);rw [hlo] at c7 HB_13 HB_16 HX_15;have HLo:=gH hlo;clear hlo;(have hc_17:=fun o=>HB_16.out.cell o);(have hc_18:=fun o=>HB_13.out.cell o);go_wp2_with fail;clear hc_17 hc_18;go_ret2;exact ⟨by rw [HQ.out];rfl,HX_15.out⟩
  obtain ⟨m,x,hfe,hxe,hfr,htl,-⟩:=qQg H1.out HCc.out hlo;have HQ:=gH (qu_4 H1.out HFc.out HCc.out hlo hfe hxe);(have hmn:m<hen:=by have:=(List.getElem?_eq_some_iff.1 hxe).1;have:=HEl.out;omega);(have hfi:qGz d.evs c.ev=(m:Int):=by unfold qGz;rw [hfe]);have HFv:=gH (fun w' hx=>by have:=HFd.out w' hx c.ev;rwa [hfi] at this:∀ w',Ext w w'->Calls Tryz.prog 45 #[.agg #[.string d.title,.string d.lang,.int .u8 d.rate,.bool d.drop,.int .i64 d.last,.slice hra nr hrc,.slice hea hen hec,.slice (some ⟨cb,coff,none⟩) nc hcc],.int .i64 c.ev] w' fun e w''=>e = .returned (.int .i64 (m:Int))/\Ext w' w'');clear hfi hfe;rw [hlo] at c7 HB_13 HB_16 HX_15;have HLo:=gH hlo;clear hlo;(have hc_19:=fun o=>HB_16.out.cell o);(have hc_20:=fun o=>HB_13.out.cell o);go_wp2_with fail;clear hc_19 hc_20;clear c0 c1 c2 c3 c4 c5 c6 c7 hcd0;obtain ⟨gCz,hgC⟩:∃ gCz,gCz=w_9.heap.size:=⟨_,rfl⟩;rw [← hgC];rw [← hgC] at HB_13;generalize hWg:(w_9.alloc (.cells #[.int .i64 c.id,.int .i64 c.ev,.int .i64 c.fr,.int .i64 c.til,.string c.author,.string c.text,.bool c.done,.bool false] 95))=W1 at *;clear hWg hgC;obtain ⟨eb,eoff,x',heA,hx',A',n',c',hcx,hxat⟩:=(HEv.out.ext HX_15.out).at_ hmn;(obtain rfl:x'=x:=by rw [hxe] at hx';exact (Option.some.inj hx').symm);subst heA;have hsx:=HSm.out x' (List.mem_of_getElem? hxe);have HPl:=gH (fun w' (hx:Ext W1 w')=>qLc x' A' n' c' w' (hxat.ext hx) hsx.2)
  have htx:(⟨x'.text.toArray⟩:ByteArray).size<=35184372088831:=qKy x' hsx.2 hxat.2.2 hxat.1.len;have HRu:=gH (fun w'=>zAy ⟨x'.text.toArray⟩ w' htx);have hL9:=qGr ⟨x'.text.toArray⟩;have HCx:=gH hcx;generalize hT:(⟨x'.text.toArray⟩:ByteArray)=T at *;clear hT hcx hxat hsx hx' hxe;unfold Ev.cells at HPl;unfold qHq at HRu
  have hST:QSt [fun u _=>u=Value.int .i64 (m:Int),fun u _=>u = .string T,fun u w=>∃ A c,u = .slice A (qAo T 0).length c/\qCp w A (qAo T 0).length (qAo T 0)/\(qAo T 0).length<=c,fun u _=>u = .int .i64 ((qAo T 0).length:Int)]:=by
   intro p hp u w w' hx h;simp only [List.mem_cons,List.not_mem_nil,or_false] at hp
   rcases hp with rfl | rfl | rfl | rfl
   . exact h
   . exact h
   . obtain ⟨A,c,h1,h2,h3⟩:=h;exact ⟨A,c,h1,h2.ext hx,h3⟩
   . exact h
  refine qAr [some 28,some 29,some 30,some 31,some 32,some 33,some 34,some 35,some 36,some 37,some 38,some 39] [[],[0],[],[],[3],[2,4],[1,5],[6],[7,5],[8,8],[9],[]] [5,8,9,10] [.pointer (some ⟨w.heap.size,6,none⟩),.slice (some ⟨eb,eoff,none⟩) hen hec,.agg #[.string d.title,.string d.lang,.int .u8 d.rate,.bool d.drop,.int .i64 d.last,.slice hra nr hrc,.slice (some ⟨eb,eoff,none⟩) hen hec,.slice (some ⟨cb,coff,none⟩) nc hcc],.pointer (some ⟨gCz,1,none⟩),.int .i64 c.ev,undef,.pointer (some ⟨eb,eoff+m*7,none⟩),.agg #[.int .i64 x'.id,.int .i64 x'.inn,.int .i64 x'.out,.string x'.region,.int .u8 x'.kind,.string x'.speaker,.slice A' n' c'],undef,undef,undef,.int .i64 0] (QJ [fun u _=>u=Value.int .i64 (m:Int),fun u _=>u = .string T,fun u w=>∃ A c,u = .slice A (qAo T 0).length c/\qCp w A (qAo T 0).length (qAo T 0)/\(qAo T 0).length<=c,fun u _=>u = .int .i64 ((qAo T 0).length:Int)] W1) (by kernel_rfl) (by kernel_rfl) (by kernel_rfl) (by kernel_rfl) (by kernel_rfl) (by kernel_rfl) (by kernel_rfl) (by decide) ?_ ?_ ?_ ?_
  . exact QJ.start _ W1
  . intro i o ho hc a w' us K' hJ hF hlim hk
    match i,ho with
    | 0,ho =>
     simp only [gA,gB,gC,gD] at ho;subst ho;have e2:=hF.old 2 (.pointer (some ⟨w.heap.size,0,none⟩)) rfl rfl;simp only [Act.eval] at e2;clear hF hlim hJ;go_simp;exact hk
    | 1,ho =>
     simp only [gA,gB,gC,gD] at ho;subst ho;have e28:=hF.pure 0 28 (.pointer (some ⟨w.heap.size,6,none⟩)) rfl rfl rfl rfl;have hcl:w'.cell? ⟨w.heap.size,6,none⟩=some (.slice (some ⟨eb,eoff,none⟩) hen hec):=(HB_16.out.ext hJ.ext).cell 6;simp only [Act.eval] at e28;clear hF hlim hJ;go_simp;exact hk
    | 2,ho =>
     simp only [gA,gB,gC,gD] at ho;subst ho;have e2:=hF.old 2 (.pointer (some ⟨w.heap.size,0,none⟩)) rfl rfl;exact qBf 27 (.tmp 2) rfl _ 27 _ _ e2 (HB_16.out.ext hJ.ext) Tryz.underlying27 rfl (by exact qAb) hk
    | 3,ho =>
     simp only [gA,gB,gC,gD] at ho;subst ho;have e8:=hF.old 8 (.pointer (some ⟨gCz,0,none⟩)) rfl rfl;simp only [Act.eval] at e8;clear hF hlim hJ;go_simp;exact hk
    | 4,ho =>
     simp only [gA,gB,gC,gD] at ho;subst ho;have e31:=hF.pure 3 31 (.pointer (some ⟨gCz,1,none⟩)) rfl rfl rfl rfl;have hcl:w'.cell? ⟨gCz,1,none⟩=some (.int .i64 c.ev):=(HB_13.out.ext hJ.ext).cell 1;simp only [Act.eval] at e31;clear hF hlim hJ;go_simp;exact hk
    | 5,ho=>simp at hc
    | 6,ho =>
     simp only [gA,gB,gC,gD] at ho;subst ho;have e29:=hF.pure 1 29 (.slice (some ⟨eb,eoff,none⟩) hen hec) rfl rfl rfl rfl;obtain ⟨v33,hv33⟩:=qDp (hF.did 0 5 rfl rfl);have e33:=hF.link 0 5 33 _ rfl rfl rfl hv33;have hu0:v33 = .int .i64 (m:Int):=hJ.val 0 v33 _ hv33 rfl;rw [hu0] at e33;exact qFz rfl e29 e33 (by omega) hk
    | 7,ho =>
     simp only [gA,gB,gC,gD] at ho;subst ho;have e34:=hF.pure 6 34 (.pointer (some ⟨eb,eoff+m*7,none⟩)) rfl rfl rfl rfl;exact qFh rfl eb _ x' A' n' c' e34 (fun j u hu=>hJ.ext.cell (HCx.out j u hu)) hk
    | 8,ho | 9,ho | 10,ho=>simp at hc
    | 11,ho =>
     simp only [gA,gB,gC,gD] at ho;subst ho;clear hF hlim hJ;go_simp;exact hk
    | i+12,ho=>simp at ho
  . intro p c' o hp ho a w' us K' hl hJ hF hk
    match p,hp with
    | 0,hp =>
     (obtain rfl:5=c':=by simpa using hp);simp only [gA,gB,gC,gD] at ho;subst ho;obtain rfl:us=[]:=List.eq_nil_of_length_eq_zero hl;have e30:=hF.pure 2 30 (.agg #[.string d.title,.string d.lang,.int .u8 d.rate,.bool d.drop,.int .i64 d.last,.slice hra nr hrc,.slice (some ⟨eb,eoff,none⟩) hen hec,.slice (some ⟨cb,coff,none⟩) nc hcc]) rfl rfl rfl rfl;have e32:=hF.pure 4 32 (.int .i64 c.ev) rfl rfl rfl rfl;exact qNa rfl e30 e32 Tryz.call45 (HFv.out w' (HX_15.out.trans hJ.ext)) (fun w2 hx2=>hk _ w2 (hJ.push hST hx2 (fun p hp=>by cases hp;rfl)))
    | 1,hp =>
     (obtain rfl:8=c':=by simpa using hp);simp only [gA,gB,gC,gD] at ho;subst ho;obtain ⟨u0,rfl⟩:=qBv hl;have e35:=hF.pure 7 35 (.agg #[.int .i64 x'.id,.int .i64 x'.inn,.int .i64 x'.out,.string x'.region,.int .u8 x'.kind,.string x'.speaker,.slice A' n' c']) rfl rfl rfl rfl;exact qPc rfl e35 Tryz.call44 (HPl.out w' hJ.ext) (fun w2 hx2=>hk _ w2 (hJ.push hST hx2 (fun p hp=>by cases hp;rfl)))
    | 2,hp =>
     (obtain rfl:9=c':=by simpa using hp);simp only [gA,gB,gC,gD] at ho;subst ho;obtain ⟨u0,u1,rfl⟩:=qCm hl;have e36:=hF.link 1 8 36 _ rfl rfl rfl rfl;have hu1:u1 = .string T:=hJ.val 1 u1 _ rfl rfl;rw [hu1] at e36;refine qHi rfl e36 Tryz.call43 (HRu.out w') ?_;rintro en w2 ⟨A9,n9,c9,rfl,hat9,hc9,hx9⟩;have hn9:(qAo T 0).length=n9:=hat9.len;subst hn9;exact ⟨_,rfl,hk _ w2 (hJ.push hST hx9 (fun p hp=>by cases hp;exact ⟨A9,c9,rfl,hat9,hc9⟩))⟩
    | 3,hp =>
     (obtain rfl:10=c':=by simpa using hp);simp only [gA,gB,gC,gD] at ho;subst ho;obtain ⟨u0,u1,u2,rfl⟩:=qCn hl;have e37:=hF.link 2 9 37 _ rfl rfl rfl rfl;obtain ⟨A9,c9,hu2,hat9,hc9⟩:∃ A c,u2 = .slice A (qAo T 0).length c/\qCp w' A (qAo T 0).length (qAo T 0)/\(qAo T 0).length<=c:=hJ.val 2 u2 _ rfl rfl;rw [hu2] at e37;simp only [Act.eval] at e37;have HK:=gH (hk (.int .i64 ((qAo T 0).length:Int)) w' (hJ.push hST (Ext.refl _) (fun p hp=>by cases hp;rfl)));clear hk hF hJ hu2;go_simp;exact HK.out
    | p+4,hp=>simp at hp
  intro us w9 hl hJ;obtain ⟨u0,u1,u2,u3,rfl⟩:=qEm hl
  first | (rename_i hK;refine hK _ _ ?_;clear hK) | (rename_i hK hK_1;refine hK _ _ ?_;clear hK) | (rename_i hK hK_1 hK_2;refine hK _ _ ?_;clear hK) | (rename_i hK hK_1 hK_2 hK_3;refine hK _ _ ?_;clear hK)
  generalize hL:qCd _ _ _ _=L;obtain rfl:L=[(28,.pointer (some ⟨w.heap.size,6,none⟩)),(29,.slice (some ⟨eb,eoff,none⟩) hen hec),(30,.agg #[.string d.title,.string d.lang,.int .u8 d.rate,.bool d.drop,.int .i64 d.last,.slice hra nr hrc,.slice (some ⟨eb,eoff,none⟩) hen hec,.slice (some ⟨cb,coff,none⟩) nc hcc]),(31,.pointer (some ⟨gCz,1,none⟩)),(32,.int .i64 c.ev),(33,u0),(34,.pointer (some ⟨eb,eoff+m * 7,none⟩)),(35,.agg #[.int .i64 x'.id,.int .i64 x'.inn,.int .i64 x'.out,.string x'.region,.int .u8 x'.kind,.string x'.speaker,.slice A' n' c']),(36,u1),(37,u2),(38,u3),(39,.int .i64 0)]:=hL.symm.trans (by kernel_rfl);clear hL hl;simp only [Act.put,List.foldl_cons,List.foldl_nil,List.setIfInBounds_toArray,List.set_cons_zero,List.set_cons_succ];obtain ⟨A9,c9,hu2,hat9,hc9⟩:∃ A c,u2 = .slice A (qAo T 0).length c/\qCp w9 A (qAo T 0).length (qAo T 0)/\(qAo T 0).length<=c:=hJ.val 2 u2 _ rfl rfl;have hu3:u3 = .int .i64 ((qAo T 0).length:Int):=hJ.val 3 u3 _ rfl rfl;subst hu2 hu3;have HX9:=gH (HX_15.out.trans hJ.ext);have HBc9:=gH (HB_13.out.ext hJ.ext);have HRt:=gH hat9;have HQt:=gH (qJp c.fr c.til (qAo T 0));(have hLs:(qAo T 0).length<=35184372088831:=by omega);generalize hLn:qAo T 0=l at *;obtain ⟨n,hn9⟩:∃ n,n=l.length:=⟨_,rfl⟩;(have HRt2:Hid (qCp w9 A9 n l):=by show qCp _ _ _ _;rw [hn9];exact HRt.out);(have hLs2:n<=35184372088831:=by omega)
  have HLn:=gH hn9;rw [← hn9];clear HRt hLs hJ hat9 hLn hn9 hST HPl HRu HCx;go_wp2_with fail
  go_loopw [9,39] (fun v i wr=>QtRel w9 c.fr c.til l n v i wr) (fun _ i _=>n-(intOf i).toNat)
  case atStart=>exact ⟨0,Nat.zero_le _,rfl,rfl,Ext.refl _⟩
  case round =>
   obtain ⟨j,hj,rfl,rfl,hx⟩:=hrel;have HXj:=gH hx;have HBj:=gH (HBc9.out.ext hx);(have hcj:=fun o=>HBj.out.cell o);clear hx
   by_cases hlt:j<n
   . obtain ⟨b,off,y,rfl,hy,hcy⟩:=(HRt2.out.ext HXj.out).cell hlt
     have HT:=gH (qHc (fr:=c.fr) (til:=c.til) hy);have hsz:=HQt.out j (by have:=HLn.out;omega);have hes:=qZr y;clear hy
     by_cases q1:c.fr<=(j:Int)
     . by_cases q2:(j:Int)<c.til
       . have HQ2:Hid (qCz c.fr c.til (l.take (j+1))=qCz c.fr c.til (l.take j)++Utf8.encode y):=by show _=_;rw [HT.out];unfold qVz;rw [if_pos ⟨q1,q2⟩]
         generalize qCz c.fr c.til (l.take j)=acc at *;(have hs9:¬ 9223372036854775807<acc.size+(Utf8.encode y).size:=by omega);go_wp2_with fail;exact ⟨⟨j+1,by omega,by rw [HQ2.out],by go_num,HXj.out⟩,by simp [intOf];omega⟩
       (have HQ2:Hid (qCz c.fr c.til (l.take (j+1))=qCz c.fr c.til (l.take j)):=by show _=_;rw [HT.out];unfold qVz;rw [if_neg (by simp only;omega)]);go_wp2_with fail;exact ⟨⟨j+1,by omega,by rw [HQ2.out],by go_num,HXj.out⟩,by simp [intOf];omega⟩
     (have HQ2:Hid (qCz c.fr c.til (l.take (j+1))=qCz c.fr c.til (l.take j)):=by show _=_;rw [HT.out];unfold qVz;rw [if_neg (by simp only;omega)]);go_wp2_with fail;exact ⟨⟨j+1,by omega,by rw [HQ2.out],by go_num,HXj.out⟩,by simp [intOf];omega⟩
   (have hjn:j=n:=by omega);subst hjn;have htk:Hid (l.take j=l):=List.take_of_length_le (by have:=HLn.out;omega);go_wp2_with fail;go_ret2;exact ⟨by rw [HQ.out,htk.out];rfl,HX9.out.trans HXj.out⟩
theorem zMk {d d':Doc} (hf:qCf d) (h:DocV d') (h1:d'.title=d.title) (h2:d'.lang=d.lang) (h3:d'.rate=d.rate) (h4:d'.regs=d.regs) (hev:∀ x∈d'.evs,qFi x/\x.bytes<=1099511627776) (hc:∀ c∈d'.coms,c.author.size<=9223372036854775807/\c.text.size<=9223372036854775807):qCf d':=by
 have hl:=(head_ok' h.head).2.2.2.2;refine ⟨⟨by rw [h3];exact hf.ok.r0,by rw [h3];exact hf.ok.r1,by rw [h1];exact hf.ok.title,by rw [h2];exact hf.ok.lang⟩,by rw [h4];exact hf.regs,hev,fun x hx=>?_,fun c hcm=>?_⟩
 . have:=zQp (h.evs.each x hx).1
   unfold IW;omega
 . have hv:=h.coms.each c hcm
   have a1:=hv.id1;have a2:=hv.id2;have a3:=hv.ev1;have a4:=hv.ev2;exact ⟨by unfold IW;omega,by unfold IW;omega,hc c hcm⟩
def EvIn (l l':List Ev) (id:Int):Prop:=∀ x∈l,x.id≠id->∃ k,qBd l' x.id=some k/\l'[k]?=some x
section
variable {d:Doc} {e:Ev}
theorem qQq (id:Int) (a b:List Int) (c:Com):(c.onto id a b).author=c.author/\(c.onto id a b).text=c.text:=by
 unfold Com.onto
 split
 . unfold Com.fol Com.moved
   repeat' split
   all_goals exact ⟨rfl,rfl⟩
 . exact ⟨rfl,rfl⟩
theorem qYo (h:(d.putX e).2=0):d.err=0/\e.err d.regs=0/\∃ k x,qBd d.evs e.id=some k/\d.evs[k]?=some x/\d.putX e=(d.putD e x k,0):=by
 by_cases h1:d.err=0
 . cases hk:qBd d.evs e.id with
   | none=>rw [zQv h1 hk] at h;simp at h
   | some k =>
    by_cases h3:e.err d.regs=0
    . obtain ⟨x,hx,-,-⟩:=qEa hk
      exact ⟨h1,h3,k,x,rfl,hx,zQx h1 hk h3 hx⟩
    . rw [zQw h1 hk h3] at h;exact absurd h h3
 . rw [zQu h1] at h;exact absurd h h1
theorem qMo {x:Ev} {regs:List Reg} (h:x.err regs=0) (hb:x.bytes<=1099511627776):x.chars.length<=35184372088831:=by
 have hs:=qKy x (n:=x.rows.length) hb (by have:=(Ev.ok_of h).few;omega) rfl;have:=qGr ⟨x.text.toArray⟩;unfold Ev.chars;omega
theorem zPk (hf:qCf d) (hes:qFi e) (hby:e.bytes<=1099511627776) (h:(d.putX e).2=0):(d.putX e).1.err=0/\(d.putX e).1.evs.length=d.evs.length/\qCf (d.putX e).1/\EvIn d.evs (d.putX e).1.evs e.id:=by
 obtain ⟨h1,h3,k,x,hk,hx,h2⟩:=qYo h;rw [h2];have hxm:=List.mem_of_getElem? hx;have hxe:=((qXq h1).evs.each x hxm).1;have hv:=put_v h1 hk h3 hx (qOc hxe) (qOc h3) (qMo hxe (hf.evs x hxm).2) (qMo h3 hby);refine ⟨hv.ok,?_,zMk hf hv rfl rfl rfl rfl (fun y hy=>?_) (fun c hc=>?_),fun y hy hne=>zOr hv hk hx hy hne⟩
 . show (srtE _).length=_
   rw [(qEh _).length_eq,List.length_set]
 . rcases List.mem_or_eq_of_mem_set ((qEh _).mem_iff.1 hy) with hy' | rfl
   . exact hf.evs y hy'
   . exact ⟨hes,hby⟩
 . obtain ⟨c0,hc0,rfl⟩:=List.mem_map.1 hc
   rw [(qQq _ _ _ c0).1,(qQq _ _ _ c0).2];exact (hf.coms c0 hc0).2.2
end
def runG:Nat->List UInt8->List Int
 | 0,_=>[]
 | f+1,l=>if l=[] then [] else ((Lib.decodeL l).1:Int) :: runG f (l.drop (Lib.decodeL l).2)
def runL (l:List UInt8):List Int:=runG l.length l
theorem qWi:∀ (f g:Nat) (l:List UInt8),l.length<=f->l.length<=g->runG f l=runG g l
 | 0,0,_,_,_=>rfl
 | 0,g+1,l,h,_=>by
  obtain rfl:l=[]:=List.eq_nil_of_length_eq_zero (by omega);simp [runG]
 | f+1,0,l,_,h=>by
  obtain rfl:l=[]:=List.eq_nil_of_length_eq_zero (by omega);simp [runG]
 | f+1,g+1,l,hf,hg=>by
  unfold runG
  by_cases hne:l=[]
  . simp [hne]
  . have hw:=Lib.decodeL_width l
    have hl:0<l.length:=List.length_pos_iff.2 hne;rw [if_neg hne,if_neg hne,qWi f g _ (by rw [List.length_drop];omega) (by rw [List.length_drop];omega)]
theorem qMv:runL []=[]:=rfl
theorem qGo (l:List UInt8) (hne:l≠[]):runL l=((Lib.decodeL l).1:Int) :: runL (l.drop (Lib.decodeL l).2):=by
 have hw:=Lib.decodeL_width l;have hl:0<l.length:=List.length_pos_iff.2 hne;unfold runL;obtain ⟨k,hk⟩:∃ k,l.length=k+1:=⟨l.length-1,by omega⟩
 conv=>lhs;rw [hk];unfold runG
 rw [if_neg hne,qWi k _ _ (by rw [List.length_drop];omega) (Nat.le_refl _)]
theorem qOq (m:List UInt8):∀ (f:Nat) (l:List UInt8),l.length<=f->Lib.validD l=true->runL (l++m)=runL l++runL m
 | 0,l,h,_=>by
  obtain rfl:l=[]:=List.eq_nil_of_length_eq_zero (by omega);simp [qMv]
 | f+1,l,h,hv=>by
  by_cases hne:l=[]
  . subst hne;simp [qMv]
  . have hw:=Lib.decodeL_width l
    have hle:=Lib.decodeL_le l hne;have hl:0<l.length:=List.length_pos_iff.2 hne;rw [Lib.validD_step l hne] at hv
    split at hv
    . cases hv
    . rename_i hn
      have ha:=qJc l m hne hn;(have hne2:l++m≠[]:=by simp [hne]);have i1:=qOq m f (l.drop (Lib.decodeL l).2) (by rw [List.length_drop];omega) hv;have hd:(l++m).drop (Lib.decodeL l).2=l.drop (Lib.decodeL l).2++m:=List.drop_append_of_le_length hle;rw [qGo _ hne2,qGo l hne,ha,hd,i1];rfl
theorem qHh {l:List UInt8} (m:List UInt8) (hv:Lib.validD l=true):runL (l++m)=runL l++runL m:=qOq m l.length l (Nat.le_refl _) hv
theorem qIw (s:ByteArray):∀ (f pos:Nat),s.size-pos<=f->qAo s pos=runL (s.data.toList.drop pos)
 | f,pos,h=>by
  by_cases hp:pos<s.size
  . have hw:=Lib.decode_width_pos s pos hp
    have hne:s.data.toList.drop pos≠[]:=fun he=>by
     have:=congrArg List.length he;rw [List.length_drop,qGs] at this;(simp at this;omega)
    rw [qDf s pos hp,qGo _ hne,Lib.decodeL_drop,List.drop_drop]
    cases f with
    | zero=>omega
    | succ f=>rw [qIw s f _ (by omega)]
  . rw [qEe s pos hp,List.drop_eq_nil_of_le (by rw [qGs];omega)];rfl
theorem qLd (e:Ev):e.chars=runL e.text:=by
 unfold Ev.chars;rw [qIw _ _ 0 (Nat.le_refl _)]
 show runL (List.drop 0 (e.text.toArray).toList)=_
 rw [List.drop_zero,List.toList_toArray]
theorem qVr (l m:List (List UInt8)):Lib.joinTail [10] (l++m)=Lib.joinTail [10] l++Lib.joinTail [10] m:=by
 induction l with
 | nil=>rfl
 | cons x l ih =>
  (have e:∀ (y:List UInt8) (l:List (List UInt8)),Lib.joinTail [10] (y :: l)=[10]++(y++Lib.joinTail [10] l):=fun y l=>by simp [Lib.joinTail]);rw [List.cons_append,e,e,ih];simp [List.append_assoc]
def esz (r:Int):Nat:=(Utf8.encode r).size
def sz (l:List Int):Nat:=(l.map esz).sum
theorem zIo (l m:List Int):sz (l++m)=sz l+sz m:=by unfold sz;rw [List.map_append,List.sum_append]
theorem zPh (l:List Int) (k:Nat):sz (l.drop k)<=sz l:=by
 have:=zIo (l.take k) (l.drop k);rw [List.take_append_drop] at this;omega
theorem qWb (F T:Nat) (l:List Int):∀ k,k<=l.length->(qCz F T (l.take k)).size=sz (((l.take k).take T).drop F)
 | 0,_=>by
  rw [List.take_zero,List.take_nil,List.drop_nil];rfl
 | k+1,h=>by
  have hx:l[k]?=some l[k]:=List.getElem?_eq_getElem h;have ih:=qWb F T l k (by omega);(have hlen:(l.take k).length=k:=by rw [List.length_take];omega);rw [qHc hx,take_snoc' l k _ hx];unfold qVz;dsimp only
  split
  . rename_i hc
    rw [ByteArray.size_append,ih];rw [List.take_of_length_le (i:=T) (l:=l.take k++[l[k]]) (by rw [List.length_append,hlen];simp;omega),List.take_of_length_le (i:=T) (l:=l.take k) (by omega)];rw [List.drop_append_of_le_length (by omega),zIo];simp [sz,esz]
  . rename_i hc
    rw [ih]
    by_cases hT:T<=k
    . rw [List.take_append_of_le_length (l₁:=l.take k) (by omega)]
    . rw [List.drop_eq_nil_of_le (by rw [List.length_take,hlen];omega),List.drop_eq_nil_of_le (by rw [List.length_take,List.length_append,hlen];simp;omega)]
theorem quoteT_size' (F T:Nat) (l:List Int):(qCz F T l).size=sz ((l.take T).drop F):=by
 have:=qWb F T l l.length (Nat.le_refl _)
 rwa [List.take_length] at this
theorem zNy (r:Int):0<esz r:=by
 unfold esz Utf8.encode;dsimp only;generalize (if Utf8.valid r=true then r.toNat else Utf8.runeError)=c
 split
 . exact Nat.zero_lt_one
 split
 . exact Nat.zero_lt_succ _
 split
 . exact Nat.zero_lt_succ _
 . exact Nat.zero_lt_succ _
theorem zCz {F T:Nat} {l:List Int} (h:F<T) (hT:T<=l.length):0<(qCz F T l).size:=by
 rw [quoteT_size']
 have hne:(l.take T).drop F≠[]:=fun he=>by
  have:=congrArg List.length he;rw [List.length_drop,List.length_take] at this;(simp at this;omega)
 cases hd:(l.take T).drop F with
 | nil=>exact absurd hd hne
 | cons x m=>have:=zNy x;simp [sz];omega
theorem zHq:∀ (u v:List Int),Mv.pre u (u++v)=u.length
 | [],v=>rfl
 | x :: u,v=>by simp [Mv.pre,zHq u v]
theorem qQs:∀ u v w:List Int,u.length<=Mv.pre (u++v) (u++w)
 | [],v,w=>Nat.zero_le _
 | x :: u,v,w=>by
  have:=qQs u v w;simp [Mv.pre];omega
theorem zLq {a b:List Int} {p:Nat} (h:∃ c,b.drop p=c++a.drop p):Mv.suf a b p=a.length-p:=by
 obtain ⟨c,hc⟩:=h;unfold Mv.suf;rw [hc,List.reverse_append,zHq];simp
theorem qWm {l:List Int} {F p T:Nat} (h1:F<=p) (h2:p<=T) (h3:p<=l.length):(l.take T).drop F=(l.take p).drop F++(l.take T).drop p:=by
 have e:l.take T=l.take p++(l.take T).drop p:=by
  conv=>lhs;rw [← List.take_append_drop p (l.take T)]
  rw [List.take_take,Nat.min_eq_left h2]
 conv=>lhs;rw [e]
 rw [List.drop_append_of_le_length (by rw [List.length_take];omega)]
theorem zLp {u t v:List Int} {F T:Nat} (hF:F<T) (hT:T<=(u++v).length) (h1:(u++v).length<=35184372088831) (h2:(u++(t++v)).length<=35184372088831) :
 ∃ F' T':Nat,qPb (u++v).length (u++(t++v)).length (Mv.pre (u++v) (u++(t++v))) (Mv.suf (u++v) (u++(t++v)) (Mv.pre (u++v) (u++(t++v)))) F=(F':Int) /\
  wto (u++v).length (u++(t++v)).length (Mv.pre (u++v) (u++(t++v))) (Mv.suf (u++v) (u++(t++v)) (Mv.pre (u++v) (u++(t++v)))) T=(T':Int)/\F' < T'/\T'<=(u++(t++v)).length /\
  (((u++v).take T).drop F).Sublist (((u++(t++v)).take T').drop F'):=by
 have hu:=qQs u v (t++v);have hp:=(Mv.pre_le (u++v) (u++(t++v))).1
 have heq:∀ k,k<=Mv.pre (u++v) (u++(t++v))->(u++v).take k=(u++(t++v)).take k:=fun k hk=>by
  apply List.ext_getElem?;intro i;rw [List.getElem?_take,List.getElem?_take]
  split
  . exact Mv.pre_eq _ _ i (by omega)
  . rfl
 have hlen:(u++(t++v)).length=t.length+(u++v).length:=by simp;omega
 have hend:∀ k,u.length<=k->(u++(t++v)).drop (t.length+k)=(u++v).drop k:=fun k hk=>by
  rw [← List.append_assoc,List.drop_append,List.drop_eq_nil_of_le (by rw [List.length_append];omega),List.drop_append,List.drop_eq_nil_of_le hk];simp only [List.nil_append]
  congr 1
  rw [List.length_append];omega
 have hsuf:Mv.suf (u++v) (u++(t++v)) (Mv.pre (u++v) (u++(t++v)))=(u++v).length-Mv.pre (u++v) (u++(t++v)):=zLq ⟨((u++(t++v)).drop (Mv.pre (u++v) (u++(t++v)))).take t.length,by
  conv=>lhs;rw [← List.take_append_drop t.length ((u++(t++v)).drop (Mv.pre (u++v) (u++(t++v))))]
  rw [List.drop_drop,Nat.add_comm,hend _ hu]⟩
 rw [hsuf]
 have hseg:∀ i j,u.length<=i->((u++(t++v)).take (t.length+j)).drop (t.length+i)=((u++v).take j).drop i:=fun i j hi=>by
  rw [List.drop_take,List.drop_take,hend i hi]
  congr 1
  omega
 generalize u++(t++v)=b at *;generalize u++v=a at *;generalize Mv.pre a b=p at *;rw [qTp h1 h2 (by omega) (by omega),zIy h1 h2 (by omega) (by omega)]
 by_cases c1:T<=p
 . refine ⟨F,T,by rw [if_neg (by omega),if_pos (by omega)],by rw [if_pos (by omega)],hF,by omega,?_⟩
   rw [heq T c1];exact List.Sublist.refl _
 by_cases c2:p<=F
 . refine ⟨t.length+F,t.length+T,by rw [if_pos (by omega),hlen];omega,by rw [if_neg (by omega),if_pos (by omega),hlen];omega,by omega,by omega,?_⟩
   rw [hseg F T (by omega)];exact List.Sublist.refl _
 . refine ⟨F,t.length+T,by rw [if_neg (by omega),if_pos (by omega)],by rw [if_neg (by omega),if_pos (by omega),hlen];omega,by omega,by omega,?_⟩
   rw [qWm (l:=a) (F:=F) (p:=p) (T:=T) (by omega) (by omega) hp,qWm (l:=b) (F:=F) (p:=p) (T:=t.length+T) (by omega) (by omega) (by omega),heq p (Nat.le_refl _)];refine (List.Sublist.refl _).append ?_;rw [← hseg p T hu,Nat.add_comm,← List.drop_drop];exact List.drop_sublist _ _
def eatL:List Int->List Int->List Int
 | l,[]=>l
 | [],_ :: t=>eatL [] t
 | x :: l,r :: t=>if x=r then eatL l t else eatL (x :: l) t
theorem qXs:∀ t:List Int,eatL [] t=[]
 | []=>rfl
 | _ :: t=>by rw [eatL,qXs t]
theorem qXt:∀ (t l:List Int),l.Sublist t->eatL l t=[]
 | [],l,h=>by rw [List.sublist_nil.1 h];rfl
 | r :: t,[],_=>qXs _
 | r :: t,x :: l,h=>by
  rw [eatL]
  split
  . rename_i e
    subst e;exact qXt t l (List.cons_sublist_cons.1 h)
  . rename_i e
    refine qXt t (x :: l) ?_
    cases h with
    | cons _ h=>exact h
    | cons_cons _ h=>exact absurd rfl e
theorem qXp (l:List UInt8) (hne:l≠[]) (h:¬ ((Lib.decodeL l).1=65533/\(Lib.decodeL l).2=1)):Lib.decodeL (l.take (Lib.decodeL l).2)=Lib.decodeL l:=by
 have hl:0<l.length:=List.length_pos_iff.2 hne;(have g:∀ k i,i<k->(l.take k).getD i 0=l.getD i 0:=fun k i hi=>by simp [List.getD,List.getElem?_take_of_lt hi]);rw [Lib.decodeL_N] at h;rw [Lib.decodeL_N (l.take _),Lib.decodeL_N l]
 rcases Lib.decodeN_shape l.length (l.getD 0 0).toNat (l.getD 1 0).toNat (l.getD 2 0).toNat (l.getD 3 0).toNat with ⟨c,e⟩ | ⟨c1,c2,c3,cv,e⟩ | ⟨c1,c2,c3,c4,cv,cs,e⟩ | ⟨c1,c2,c3,c4,c5,cv,cw,e⟩ | e
 . rw [e];dsimp only;rw [g 1 0 (by omega),List.length_take];unfold Lib.decodeN;rw [if_pos c]
 . rw [e];dsimp only;rw [g 2 0 (by omega),g 2 1 (by omega),List.length_take];unfold Lib.decodeN;rw [if_neg (by omega),if_pos ⟨c1,by omega,c3⟩,if_pos cv]
 . rw [e];dsimp only;rw [g 3 0 (by omega),g 3 1 (by omega),g 3 2 (by omega),List.length_take];unfold Lib.decodeN;rw [if_neg (by omega),if_neg (by omega),if_pos ⟨c1,⟨by omega,c3⟩,by omega,c4⟩,if_pos ⟨cv,by omega⟩]
 . rw [e];dsimp only;rw [g 4 0 (by omega),g 4 1 (by omega),g 4 2 (by omega),g 4 3 (by omega),List.length_take];unfold Lib.decodeN;rw [if_neg (by omega),if_neg (by omega),if_neg (by omega),if_pos ⟨c1,⟨by omega,c3⟩,⟨by omega,c4⟩,by omega,c5⟩,if_pos ⟨cv,by omega⟩]
 . exact absurd (by rw [e];exact ⟨rfl,rfl⟩) h
def qUc (r:Int):Prop:=Lib.validD (Lib.encodeRune r)=true/\runL (Lib.encodeRune r)=[r]/\(Utf8.encode r).data.toList=Lib.encodeRune r
theorem qNp (l:List Int) (hb:∀ x∈l,0<=x/\x<256) (l':List UInt8) (h:l'.map (fun x=>(x.toNat:Int))=l):l'=l.map fun x=>x.toNat.toUInt8:=by
 subst h;rw [List.map_map]
 induction l' with
 | nil=>rfl
 | cons x l ih =>
  rw [List.map_cons,← ih (fun y hy=>hb y (by simp at hy ⊢;exact .inr hy))];simp
theorem qZq (r:Nat):(Utf8.encode (r:Int)).data.toList=Lib.encodeRune (r:Int):=by
 unfold Lib.encodeRune
 by_cases c1:r<128
 . have v:Utf8.valid (r:Int)=true:=by simp [Utf8.valid];omega
   rw [Lib.encodeRuneZ_one (by omega) (by omega)];simp [Utf8.encode,v,c1]
 by_cases c2:r<2048
 . have v:Utf8.valid (r:Int)=true:=by simp [Utf8.valid];omega
   rw [Lib.encodeRuneZ_two (by omega) (by omega)];refine qNp _ (by simp;omega) _ ?_;simp [Utf8.encode,v,c1,c2];omega
 by_cases hb:(55296<=r/\r<=57343)\/1114111<r
 . have v:Utf8.valid (r:Int)=false:=by simp [Utf8.valid];omega
   rw [Lib.encodeRuneZ_bad (by omega)];simp [Utf8.encode,v,Utf8.runeError]
 by_cases c3:r<65536
 . have v:Utf8.valid (r:Int)=true:=by simp [Utf8.valid];omega
   rw [Lib.encodeRuneZ_three (by omega)];refine qNp _ (by simp;omega) _ ?_;simp [Utf8.encode,v,c1,c2,c3];omega
 . have v:Utf8.valid (r:Int)=true:=by simp [Utf8.valid];omega
   rw [Lib.encodeRuneZ_four (by omega) (by omega)];refine qNp _ (by simp;omega) _ ?_;simp [Utf8.encode,v,c1,c2,c3];omega
theorem zFy {l:List UInt8} (hne:l≠[]) (h:¬ ((Lib.decodeL l).1=65533/\(Lib.decodeL l).2=1)):qUc ((Lib.decodeL l).1:Int):=by
 have e:=Lib.encode_decode l hne h;have hw:=Lib.decodeL_width l;have hl:0<l.length:=List.length_pos_iff.2 hne;have hle:=Lib.decodeL_le l hne
 have hne2:l.take (Lib.decodeL l).2≠[]:=fun k=>by
  have:=congrArg List.length k;rw [List.length_take,List.length_nil,Nat.min_eq_left hle] at this;omega
 have hd:=qXp l hne h;have hnil:(l.take (Lib.decodeL l).2).drop (Lib.decodeL l).2=[]:=List.drop_eq_nil_of_le (by rw [List.length_take];omega);refine ⟨?_,?_,qZq _⟩
 . rw [e,Lib.validD_step _ hne2,hd,if_neg h,hnil]
   exact Lib.validD_nil
 . rw [e,qGo _ hne2,hd,hnil]
   rfl
theorem qOr:∀ (f:Nat) (l:List UInt8),l.length<=f->Lib.validD l=true->∀ r∈runL l,qUc r
 | 0,l,h,_,r,hr=>by
  obtain rfl:l=[]:=List.eq_nil_of_length_eq_zero (by omega);simp [qMv] at hr
 | f+1,l,h,hv,r,hr=>by
  by_cases hne:l=[]
  . subst hne;simp [qMv] at hr
  . have hw:=Lib.decodeL_width l
    have hl:0<l.length:=List.length_pos_iff.2 hne;rw [Lib.validD_step l hne] at hv
    split at hv
    . cases hv
    . rename_i hn
      rw [qGo l hne] at hr
      rcases List.mem_cons.1 hr with rfl | hr
      . exact zFy hne hn
      . exact qOr f _ (by rw [List.length_drop];omega) hv r hr
def encL (l:List Int):List UInt8:=l.flatMap fun r=>(Utf8.encode r).data.toList
theorem qTa:∀ l:List Int,(∀ r∈l,qUc r)->runL (encL l)=l/\Lib.validD (encL l)=true
 | [],_=>⟨rfl,Lib.validD_nil⟩
 | r :: l,h=>by
  obtain ⟨h1,h2,h3⟩:=h r (by simp);(obtain ⟨i1,i2⟩:=qTa l fun x hx=>h x (by simp [hx]));(have e:encL (r :: l)=Lib.encodeRune r++encL l:=by rw [← h3];simp [encL]);rw [e];exact ⟨by rw [qHh _ h1,h2,i1];rfl,qEy h1 i2⟩
theorem qSh:∀ (f:Nat) (l:List UInt8),l.length<=f->Lib.validD l=true->encL (runL l)=l
 | 0,l,h,_=>by
  obtain rfl:l=[]:=List.eq_nil_of_length_eq_zero (by omega);rfl
 | f+1,l,h,hv=>by
  by_cases hne:l=[]
  . subst hne;rfl
  . have hw:=Lib.decodeL_width l
    have hl:0<l.length:=List.length_pos_iff.2 hne;rw [Lib.validD_step l hne] at hv
    split at hv
    . cases hv
    . rename_i hn
      have i:=qSh f (l.drop (Lib.decodeL l).2) (by rw [List.length_drop];omega) hv;rw [qGo l hne];(have e:encL (((Lib.decodeL l).1:Int) :: runL (l.drop (Lib.decodeL l).2))=(Utf8.encode ((Lib.decodeL l).1:Int)).data.toList++encL (runL (l.drop (Lib.decodeL l).2)):=by simp [encL]);rw [e,i,qZq,Lib.encode_decode l hne hn,List.take_append_drop]
theorem qQt (F T:Nat) (l:List Int):∀ k,k<=l.length->(qCz F T (l.take k)).data.toList=encL (((l.take k).take T).drop F)
 | 0,_=>by
  rw [List.take_zero,List.take_nil,List.drop_nil];rfl
 | k+1,h=>by
  have hx:l[k]?=some l[k]:=List.getElem?_eq_getElem h;have ih:=qQt F T l k (by omega);(have hlen:(l.take k).length=k:=by rw [List.length_take];omega);rw [qHc hx,take_snoc' l k _ hx];unfold qVz;dsimp only
  split
  . rename_i hc
    rw [ByteArray.data_append,Array.toList_append,ih];rw [List.take_of_length_le (i:=T) (l:=l.take k++[l[k]]) (by rw [List.length_append,hlen];simp;omega),List.take_of_length_le (i:=T) (l:=l.take k) (by omega)];rw [List.drop_append_of_le_length (by omega)];simp [encL]
  . rename_i hc
    rw [ih]
    by_cases hT:T<=k
    . rw [List.take_append_of_le_length (l₁:=l.take k) (by omega)]
    . rw [List.drop_eq_nil_of_le (by rw [List.length_take,hlen];omega),List.drop_eq_nil_of_le (by rw [List.length_take,List.length_append,hlen];simp;omega)]
theorem qWa (F T:Nat) (l:List Int):(qCz F T l).data.toList=encL ((l.take T).drop F):=by
 have:=qQt F T l l.length (Nat.le_refl _)
 rwa [List.take_length] at this
theorem qMb {F T:Nat} {l:List Int} (h:∀ r∈l,qUc r):qAo (qCz F T l) 0=(l.take T).drop F:=by
 rw [qIw _ _ 0 (Nat.le_refl _),List.drop_zero,qWa];exact (qTa _ fun r hr=>h r (List.mem_of_mem_take (List.mem_of_mem_drop hr))).1
section
variable {d:Doc} {ev fr til:Int} {au tx:ByteArray}
theorem qJz (h:d.addErr ev fr til au tx=0):d.err=0/\(∃ k e,qBd d.evs ev=some k/\d.evs[k]?=some e/\0<=fr/\fr<til/\til<=e.len)/\qCt au=true/\vld tx=true/\tx.toList.isEmpty=false/\tx.size<=400/\d.coms.length<64/\d.last<1099511627776:=by
 unfold Doc.addErr at h
 by_cases h1:d.err=0
 case neg=>rw [if_pos h1] at h;exact absurd h h1
 rw [if_neg (by simpa using h1)] at h
 cases hk:qBd d.evs ev with
 | none=>rw [hk] at h;simp at h
 | some k =>
  rw [hk] at h;dsimp only at h;obtain ⟨e,he,-,-⟩:=qEa hk;rw [he] at h;simp only [Option.map_some,Option.some.injEq,decide_eq_true_eq] at h
  split at h
  . simp at h
  rename_i h2
  split at h
  . simp at h
  rename_i h3
  split at h
  . simp at h
  rename_i h4
  split at h
  . simp at h
  rename_i h5
  split at h
  . simp at h
  rename_i h6;exact ⟨h1,⟨k,e,rfl,he,by omega,by omega,by omega⟩,by simpa using h3,by simpa using h4,by simpa using h5,by omega,by omega,by omega⟩
theorem zQh (h:d.addErr ev fr til au tx=0):DocV (d.addD ev fr til au tx):=by
 obtain ⟨h1,⟨k,e,hk,he,f1,f2,f3⟩,h3,h4,h5,h6,h7,h8⟩:=qJz h;have hv:=qXq h1;have hlast:=(head_ok' hv.head).2.2.2.2;obtain ⟨e',he',hem,hei⟩:=qEa hk;rw [he] at he'
 cases he'
 have hel:=hv.evs.each e hem;have heid:=(zQp hel.1).1;refine ⟨zCl hv.head rfl rfl rfl rfl (by show 0<=d.last+1;omega) (by show d.last+1<=_;omega),hv.regs,hv.en,⟨fun x hx=>⟨(hv.evs.each x hx).1,by have:=(hv.evs.each x hx).2;show x.id<=d.last+1;omega⟩,hv.evs.srt,hv.evs.ids⟩,by show (d.coms++[_]).length<=64;rw [List.length_append];simp;omega,fun c hc=>?_,?_⟩
 . rcases List.mem_append.1 hc with hc | hc
   . exact (hv.coms.each c hc).mono (by show d.last<=d.last+1;omega) (hv.coms.each c hc).free fun x hx _=>⟨x,hx,rfl,rfl⟩
   . rw [List.mem_singleton] at hc
     subst hc;refine ⟨by show 1<=d.last+1;omega,Int.le_refl _,fun x hx=>?_,by show 1<=ev;omega,by show ev<=d.last+1;omega,fun hl=>(by cases hl),fun _=>⟨e,hem,hei,f1,f2,f3⟩,h3,h4,h5,h6⟩;have:=(hv.evs.each x hx).2
     show x.id≠d.last+1
     omega
 . show (d.coms++[_]).Pairwise _
   (refine zHm hv.coms.srt fun c hc=>?_);have:=(hv.coms.each c hc).id2
   show c.id<d.last+1
   omega
theorem zNi (hf:qCf d) (h:d.addErr ev fr til au tx=0) (ha:au.size<=9223372036854775807):qCf (d.addD ev fr til au tx):=by
 refine zMk hf (zQh h) rfl rfl rfl rfl (fun x hx=>hf.evs x hx) fun c hc=>?_
 rcases List.mem_append.1 hc with hc | hc
 . exact (hf.coms c hc).2.2
 . rw [List.mem_singleton] at hc
   subst hc;have:=(qJz h).2.2.2.2.2.1;exact ⟨ha,by show tx.size<=_;omega⟩
def newC (d:Doc) (ev fr til:Int) (au tx:ByteArray):Com:=⟨d.last+1,ev,fr,til,au,tx,false,false⟩
theorem zJn (h:d.addErr ev fr til au tx=0):qFb d.coms (d.last+1)=none:=by
 have hv:=qXq (qJz h).1;(refine List.findIdx?_eq_none_iff.2 fun c hc=>?_);have:=(hv.coms.each c hc).id2;(have:c.id≠d.last+1:=by omega);simpa using this
theorem zKt {f:Com->Com} (hf:∀ c,(f c).id=c.id) (l:List Com) (id:Int):qFb (l.map f) id=qFb l id:=by
 unfold qFb;rw [List.findIdx?_map]
 congr 1
 funext c
 simp [hf]
theorem zJm (h:d.addErr ev fr til au tx=0):qFb (d.addD ev fr til au tx).coms (d.last+1)=some d.coms.length:=by
 show qFb (d.coms++[_]) _=_
 rw [qQj,zJn h];simp
theorem zNj:(d.addD ev fr til au tx).coms[d.coms.length]?=some (newC d ev fr til au tx):=by
 show (d.coms++[_])[d.coms.length]?=_
 rw [List.getElem?_append_right (Nat.le_refl _),Nat.sub_self];rfl
end
theorem qSq (y:List UInt8) (l:List (List UInt8)):Lib.joinTail [10] (y :: l)=[10]++(y++Lib.joinTail [10] l):=by simp [Lib.joinTail]
theorem zHx (A B:List Row) (hA:∀ x∈A,0<=qAs x):∃ P S,Lib.validD P=true/\∀ r:Row,Lib.join ((A++r :: B).map qAy) [10]=P++(qAy r++S):=by
 cases A with
 | nil=>exact ⟨[],Lib.joinTail [10] (B.map qAy),Lib.validD_nil,fun r=>by rw [List.nil_append,List.map_cons,Lib.join_cons];rfl⟩
 | cons a A =>
  obtain ⟨v1,-⟩:=qJs (hA a (by simp));(obtain ⟨v2,-⟩:=qMz (l:=A) fun x hx=>hA x (by simp [hx]));refine ⟨qAy a++(Lib.joinTail [10] (A.map qAy)++[10]),Lib.joinTail [10] (B.map qAy),qEy v1 (qEy v2 qSs),fun r=>?_⟩;rw [List.cons_append,List.map_cons,Lib.join_cons,List.map_append,qVr,List.map_cons,qSq];simp [List.append_assoc]
structure zMf (r r':Row):Prop where
 ok:0<=qAs r
 ok':0<=qAs r'
 ins:∃ u t v,runL (qAy r)=u++v/\runL (qAy r')=u++(t++v)
theorem zEs {x e:Ev} {A B:List Row} {r r':Row} (hx:x.rows=A++r :: B) (he:e.rows=A++r' :: B) (hA:∀ y∈A,0<=qAs y) (hi:zMf r r'):∃ u t v,x.chars=u++v/\e.chars=u++(t++v):=by
 obtain ⟨P,S,hP,h⟩:=zHx A B hA;obtain ⟨u,t,v,h1,h2⟩:=hi.ins;obtain ⟨v1,-⟩:=qJs hi.ok;obtain ⟨v2,-⟩:=qJs hi.ok';refine ⟨runL P++u,t,v++runL S,?_,?_⟩
 . rw [qLd]
   unfold Ev.text;rw [hx,h r,qHh _ hP,qHh _ v1,h1];simp [List.append_assoc]
 . rw [qLd]
   unfold Ev.text;rw [he,h r',qHh _ hP,qHh _ v2,h2];simp [List.append_assoc]
theorem qQe {x:Ev} {regs:List Reg} (h:x.err regs=0):∀ r∈x.chars,qUc r:=by
 obtain ⟨rg,-,-,-,hr⟩:=(Ev.ok_of h).found;rw [qLd];refine qOr _ _ (Nat.le_refl _) ?_;unfold Ev.text
 cases hm:x.rows with
 | nil=>exact Lib.validD_nil
 | cons y m =>
  rw [hm] at hr;obtain ⟨v1,-⟩:=qJs (hr y (by simp)).1;(obtain ⟨v2,-⟩:=qMz (l:=m) fun z hz=>(hr z (by simp [hz])).1);rw [List.map_cons,Lib.join_cons];exact qEy v1 v2
structure Anc (d:Doc) (id ev:Int) (c:Com) (x:Ev):Prop where
 err:d.err=0
 com:∃ k,qFb d.coms id=some k/\d.coms[k]?=some c
 lost:c.lost=false
 cev:c.ev=ev
 evt:∃ m,qBd d.evs ev=some m/\d.evs[m]?=some x
section
variable {d:Doc} {id ev:Int} {c:Com} {x e:Ev}
theorem Anc.mem (h:Anc d id ev c x):x∈d.evs/\x.id=ev/\x.err d.regs=0:=by
 obtain ⟨m,h1,h2⟩:=h.evt;obtain ⟨e',he',hem,hei⟩:=qEa h1;rw [h2] at he'
 cases he'
 exact ⟨hem,hei,((qXq h.err).evs.each x hem).1⟩
theorem Anc.span (h:Anc d id ev c x):∃ F T:Nat,c.fr=(F:Int)/\c.til=(T:Int)/\F<T/\T<=x.chars.length:=by
 obtain ⟨k,h1,h2⟩:=h.com;obtain ⟨m,e,g1,g2,g3,g4,g5⟩:=qQg h.err h2 h.lost;obtain ⟨m',k1,k2⟩:=h.evt;rw [h.cev,k1] at g1
 cases g1
 rw [k2] at g2
 cases g2
 rw [qOc h.mem.2.2] at g5;exact ⟨c.fr.toNat,c.til.toNat,by omega,by omega,by omega,by omega⟩
theorem Anc.quote (h:Anc d id ev c x):d.quX id=(qCz c.fr c.til x.chars,0):=by
 obtain ⟨k,h1,h2⟩:=h.com;obtain ⟨m,g1,g2⟩:=h.evt;exact qu_4 h.err h1 h2 h.lost (by rw [h.cev];exact g1) g2
theorem Anc.pos (h:Anc d id ev c x):0<(d.quX id).1.size:=by
 obtain ⟨F,T,h1,h2,h3,h4⟩:=h.span;rw [h.quote,h1,h2];exact zCz h3 h4
theorem zNk {ev fr til:Int} {au tx:ByteArray} (h:d.addErr ev fr til au tx=0):∃ x,Anc (d.addD ev fr til au tx) (d.last+1) ev (newC d ev fr til au tx) x:=by
 obtain ⟨h1,⟨k,e,hk,he,f1,f2,f3⟩,-⟩:=qJz h;exact ⟨e,(zQh h).ok,⟨_,zJm h,zNj⟩,rfl,rfl,k,hk,he⟩
theorem zNl (h:Anc d id ev c x) (hf:qCf d) (hes:qFi e) (hby:e.bytes<=1099511627776) (hid:e.id=ev) (hp:(d.putX e).2=0) (hins:∃ u t v,x.chars=u++v/\e.chars=u++(t++v)) :
 (∃ c',Anc (d.putX e).1 id ev c' e)/\qCf (d.putX e).1/\(qAo (d.quX id).1 0).Sublist (qAo ((d.putX e).1.quX id).1 0)/\((d.putX e).1.quX id).2=0:=by
 obtain ⟨hB,-,hfit,-⟩:=zPk hf hes hby hp;obtain ⟨-,hnew,k1,x1,g1,g2,hput⟩:=qYo hp;obtain ⟨kc,hc1,hc2⟩:=h.com;obtain ⟨m,hm1,hm2⟩:=h.evt;obtain ⟨hxm,hxi,hxe⟩:=h.mem;obtain ⟨F,T,hF,hT,hFT,hTl⟩:=h.span;rw [hid,hm1] at g1
 cases g1
 rw [hm2] at g2
 cases g2
 have hb1:=qMo hxe (hf.evs x hxm).2;have hb2:=qMo hnew hby;obtain ⟨u,t,v,hu1,hu2⟩:=hins;have hss:=zLp (u:=u) (t:=t) (v:=v) (F:=F) (T:=T) hFT (by rw [← hu1];exact hTl) (by rw [← hu1];exact hb1) (by rw [← hu2];exact hb2);rw [← hu1,← hu2] at hss;obtain ⟨F',T',e1,e2,e3,e4,e5⟩:=hss;rw [hput] at hB hfit ⊢;dsimp only at hB hfit ⊢;have hcoms:(d.putD e x k1).coms=d.coms.map (Com.onto e.id x.chars e.chars):=rfl
 have hfind:qFb (d.putD e x k1).coms id=some kc:=by
  rw [hcoms,zKt (qSw _ _ _)];exact hc1
 have hfol:Com.onto e.id x.chars e.chars c=⟨c.id,c.ev,(F':Int),(T':Int),c.author,c.text,c.done,c.lost⟩:=by
  unfold Com.onto;rw [if_pos (by rw [hid];exact h.cev)];unfold Com.fol;rw [if_neg (by rw [h.lost];exact Bool.false_ne_true),hF,hT,e1,e2];unfold Com.moved;rw [if_neg (by omega)]
 have hget:(d.putD e x k1).coms[kc]?=some ⟨c.id,c.ev,(F':Int),(T':Int),c.author,c.text,c.done,c.lost⟩:=by
  rw [hcoms,List.getElem?_map,hc2,Option.map_some,hfol]
 have hmem:e∈(d.putD e x k1).evs:=(qEh _).mem_iff.2 (qMg (l:=d.evs) hm2);obtain ⟨j,hj1,hj2⟩:=qOg (qXq hB).evs.ids hmem;have hA:Anc (d.putD e x k1) id ev ⟨c.id,c.ev,(F':Int),(T':Int),c.author,c.text,c.done,c.lost⟩ e:=⟨hB,⟨kc,hfind,hget⟩,h.lost,h.cev,j,by rw [← hid];exact hj1,hj2⟩;refine ⟨⟨_,hA⟩,hfit,?_,by rw [hA.quote]⟩;rw [h.quote,hA.quote];dsimp only;rw [hF,hT,qMb (qQe hxe),qMb (qQe hnew)];exact e5
end
end
section
end
section
open Go.RowKit
structure Ch where
 r:Int
 color:Int
 italic:Bool
 under:Bool
 deriving DecidableEq
def qYv (x:Run):List Ch:=(qAo x.text 0).map fun r=>⟨r,x.color,x.italic,x.under⟩
def qOn (l:Row):List Ch:=l.flatMap qYv
theorem zJr {s:ByteArray} (h:0<=clen s):vld s=true/\clen s=(qAo s 0).length:=by
 unfold clen at *
 cases hv:vld s
 . rw [hv] at h;simp at h
 . rw [if_pos rfl,qJt];exact ⟨rfl,rfl⟩
theorem qId:∀ {l:Row},0<=qAs l->(∀ x∈l,vld x.text=true)/\qAs l=(qOn l).length
 | [],_=>⟨by simp,rfl⟩
 | x :: l,h=>by
  unfold qAs at h
  split at h
  . omega
  . rename_i h1
    split at h
    . omega
    . rename_i h2
      obtain ⟨hv,hc⟩:=zJr (s:=x.text) (by omega);obtain ⟨h3,h4⟩:=qId (l:=l) (by omega);refine ⟨fun y hy=>?_,?_⟩
      . rcases List.mem_cons.1 hy with rfl | hy
        . exact hv
        . exact h3 y hy
      . unfold qAs
        rw [if_neg h1,if_neg h2,hc,h4]
        show _=((qYv x++qOn l).length:Int)
        rw [List.length_append];unfold qYv;rw [List.length_map];omega
theorem qIu {l:Row} (h:qCg l=0):(∀ x∈l,vld x.text=true/\x.color<=6)/\qAs l<=32:=by
 unfold qCg at h
 split at h
 . rename_i h1;exact absurd h h1
 . rename_i h1
   have h1':qCu l=0:=by simpa using h1
   split at h
   . simp at h
   . split at h
     . simp at h
     . refine ⟨?_,by omega⟩
       unfold qCu at h1'
       split at h1'
       . simp at h1'
       . have:∀ (l:Row) (p:Option Run),qEf p l=0->∀ x∈l,vld x.text=true/\x.color<=6:=by
          intro l
          induction l with
          | nil=>intro p _ x hx;simp at hx
          | cons a l ih =>
           intro p hp x hx;unfold qEf at hp
           split at hp
           . rename_i ha
             rcases List.mem_cons.1 hx with rfl | hx
             . unfold qEn at ha
               split at ha
               . simp at ha
               . rename_i hv
                 split at ha
                 . simp at ha
                 . split at ha
                   . simp at ha
                   . rename_i hc
                     exact ⟨by simpa using hv,by simpa using hc⟩
             . exact ih _ hp x hx
           . rename_i ha;exact absurd hp ha
         exact this l none h1'
def rch (l:Row):List Int:=l.flatMap fun x=>qAo x.text 0
def RV (l:Row):Prop:=∀ x∈l,vld x.text=true
theorem qHd (l m:Row):rch (l++m)=rch l++rch m:=by unfold rch;rw [List.flatMap_append]
theorem qIt (x:Run) (l:Row):rch (x :: l)=qAo x.text 0++rch l:=rfl
theorem qLm (x:Run):rch [x]=qAo x.text 0:=by simp [rch]
theorem qGu {s:ByteArray} (h:vld s=true):Lib.validD s.data.toList=true:=by
 unfold vld at h;exact (Bool.and_eq_true_iff.1 h).1
theorem qIe (s:ByteArray):qAo s 0=runL s.data.toList:=by rw [qIw s _ 0 (Nat.le_refl _),List.drop_zero]
theorem qWk {s t:ByteArray} (h:vld s=true):qAo (s++t) 0=qAo s 0++qAo t 0:=by
 rw [qIe,qIe,qIe,ByteArray.data_append,Array.toList_append,qHh _ (qGu h)]
theorem qTn {s:ByteArray} (h:vld s=true):∀ r∈qAo s 0,0<=idx r:=fun r hr=>by
 rw [qPa] at h;exact of_decide_eq_true (List.all_eq_true.1 h r hr)
theorem zPl {s t:ByteArray} (h:vld s=true) (k:vld t=true):vld (s++t)=true:=by
 rw [qPa,qWk h,List.all_eq_true];intro r hr
 rcases List.mem_append.1 hr with h1 | h1
 . exact decide_eq_true (qTn h r h1)
 . exact decide_eq_true (qTn k r h1)
theorem zAu {s:ByteArray} (h:vld s=true):∀ r∈qAo s 0,qUc r:=by
 rw [qIe];exact qOr _ _ (Nat.le_refl _) (qGu h)
theorem qSy:∀ {l:Row},RV l->runL (qAy l)=rch l/\Lib.validD (qAy l)=true
 | [],_=>⟨rfl,Lib.validD_nil⟩
 | x :: l,h=>by
  (obtain ⟨h1,h2⟩:=qSy (l:=l) fun y hy=>h y (by simp [hy]));have hx:=h x (by simp);(have e:qAy (x :: l)=x.text.data.toList++qAy l:=by simp [qAy]);rw [e,qHh _ (qGu hx),h1,← qIe,qIt];exact ⟨rfl,qEy (qGu hx) h2⟩
theorem qIf:∀ {l:Row},RV l->qAs l=(rch l).length
 | [],_=>rfl
 | x :: l,h=>by
  have h2:=qIf (l:=l) fun y hy=>h y (by simp [hy])
  have hx:clen x.text=(qAo x.text 0).length:=by
   unfold clen;rw [if_pos (h x (by simp)),qJt]
  unfold qAs;rw [if_neg (by omega),if_neg (by omega),qIt,List.length_append];omega
theorem rv_of {l:Row} (h:0<=qAs l):RV l:=(qId h).1
theorem zQy {r r':Row} (h:RV r) (h':RV r') {u t v:List Int} (h1:rch r=u++v) (h2:rch r'=u++(t++v)):zMf r r' :=
 ⟨by rw [qIf h];omega,by rw [qIf h'];omega,u,t,v,by rw [(qSy h).1,h1],by rw [(qSy h').1,h2]⟩
structure NOk (l o:Row):Prop where
 rv:RV l->RV o
 ch:RV l->rch o=rch l
 by':qAe o=qAe l
 len:o.length<=l.length
 ruby:∀ m:Nat,(∀ x∈l,x.ruby.size<=m)->∀ x∈o,x.ruby.size<=m
theorem qBe (l m:Row):qAe (l++m)=qAe l+qAe m:=by unfold qAe;rw [List.map_append,List.sum_append]
theorem qCi (x:Run):qAe [x]=x.text.size:=by simp [qAe]
theorem NOk.nil:NOk [] []:=⟨fun h=>h,fun _=>rfl,rfl,Nat.le_refl _,fun _ h=>h⟩
theorem zAt {s:ByteArray} (h:s.toList=[]):s.size=0:=by
 have h1:s.data.toList=[]:=by rw [Lib.toList_data] at h;exact h
 show s.data.size=0
 rw [← Array.length_toList,h1];rfl
theorem NOk.skip {l o:Row} {x:Run} (h:NOk l o) (hx:x.text.size=0):NOk (l++[x]) o:=by
 have hr:qAo x.text 0=[]:=qEe _ _ (by omega);refine ⟨fun hv=>h.rv fun y hy=>hv y (by simp [hy]),fun hv=>?_,?_,by simp;have:=h.len;omega,fun m hm=>h.ruby m fun y hy=>hm y (by simp [hy])⟩
 . rw [h.ch fun y hy=>hv y (by simp [hy]),qHd,qLm,hr,List.append_nil]
 . rw [h.by',qBe,qCi,hx];rfl
theorem NOk.add {l o:Row} {x:Run} (h:NOk l o):NOk (l++[x]) (o++[x]):=by
 refine ⟨fun hv y hy=>?_,fun hv=>?_,?_,by simp;exact h.len,fun m hm y hy=>?_⟩
 . rcases List.mem_append.1 hy with h1 | h1
   . exact h.rv (fun z hz=>hv z (by simp [hz])) y h1
   . exact hv y (by simp at h1;simp [h1])
 . rw [qHd,qHd,h.ch fun y hy=>hv y (by simp [hy])]
 . rw [qBe,qBe,h.by']
 . rcases List.mem_append.1 hy with h1 | h1
   . exact h.ruby m (fun z hz=>hm z (by simp [hz])) y h1
   . exact hm y (by simp at h1;simp [h1])
def Run.more (y x:Run):Run:=⟨y.text++x.text,y.color,y.italic,y.under,y.ruby⟩
theorem NOk.join {l o:Row} {x y:Run} (h:NOk l (o++[y])):NOk (l++[x]) (o++[y.more x]):=by
 refine ⟨fun hv z hz=>?_,fun hv=>?_,?_,by have:=h.len;simp at this ⊢;omega,fun m hm z hz=>?_⟩
 . have hl:=h.rv fun z hz=>hv z (by simp [hz])
   rcases List.mem_append.1 hz with h1 | h1
   . exact hl z (by simp [h1])
   . obtain rfl:=List.mem_singleton.1 h1
     exact zPl (hl y (by simp)) (hv x (by simp))
 . have hl:=h.rv fun z hz=>hv z (by simp [hz])
   (have h2:=h.ch fun z hz=>hv z (by simp [hz]));rw [qHd,qLm] at h2;rw [qHd,qHd,qLm,qLm,← h2,List.append_assoc]
   show rch o++qAo (y.text++x.text) 0=_
   rw [qWk (hl y (by simp))]
 . have h2:=h.by'
   rw [qBe,qCi] at h2;rw [qBe,qBe,qCi,qCi,← h2]
   show qAe o+(y.text++x.text).size=_
   rw [ByteArray.size_append];omega
 . rcases List.mem_append.1 hz with h1 | h1
   . exact h.ruby m (fun w hw=>hm w (by simp [hw])) z (by simp [h1])
   . obtain rfl:=List.mem_singleton.1 h1
     exact h.ruby m (fun w hw=>hm w (by simp [hw])) y (by simp)
def csl (s:ByteArray) (f t:Nat):ByteArray:=⟨(encL (((qAo s 0).take t).drop f)).toArray⟩
theorem qVb {s:ByteArray} (h:vld s=true) (f t:Nat):qAo (csl s f t) 0=((qAo s 0).take t).drop f:=by
 rw [qIe]
 show runL (encL _).toArray.toList=_
 exact (qTa _ fun r hr=>zAu h r (List.mem_of_mem_take (List.mem_of_mem_drop hr))).1
theorem zNp {s:ByteArray} (h:vld s=true) (f t:Nat):vld (csl s f t)=true:=by
 rw [qPa,qVb h,List.all_eq_true];(exact fun r hr=>decide_eq_true (qTn h r (List.mem_of_mem_take (List.mem_of_mem_drop hr))))
theorem qMq:∀ l:List Int,(encL l).length=sz l
 | []=>rfl
 | r :: l=>by
  (have e:encL (r :: l)=(Utf8.encode r).data.toList++encL l:=by simp [encL]);rw [e,List.length_append,qMq l]
  show _=esz r+sz l
  unfold esz;rw [Array.length_toList];rfl
theorem zJt {s:ByteArray} (h:vld s=true) (f t:Nat):(csl s f t).size<=s.size:=by
 show (encL _).toArray.size<=_
 rw [List.size_toArray,qMq];have h1:sz (((qAo s 0).take t).drop f)<=sz ((qAo s 0).take t):=zPh _ _;(have h2:sz ((qAo s 0).take t)+sz ((qAo s 0).drop t)=sz (qAo s 0):=by rw [← zIo,List.take_append_drop])
 have h3:sz (qAo s 0)=s.size:=by
  rw [← qMq,qIe,qSh _ _ (Nat.le_refl _) (qGu h)];exact Array.length_toList
 omega
def slF (x:Run) (i:Int) (at':Nat):Nat:=min (i-at').toNat (qAo x.text 0).length
def qPp (x:Run) (i j:Int) (at':Nat):Run :=
 ⟨csl x.text (slF x i at') (slF x j at'),x.color,x.italic,x.under,if ((slF x j at':Int)-slF x i at' < (qAo x.text 0).length) then ⟨#[]⟩ else x.ruby⟩
def slR (i j:Int):Nat->Row->Row
 | _,[]=>[]
 | at',x :: l=>qPp x i j at' :: slR i j (at' + (qAo x.text 0).length) l
theorem qTg (i j:Int) (x:Run):∀ (l:Row) (at':Nat),slR i j at' (l++[x])=slR i j at' l++[qPp x i j (at' + (rch l).length)]
 | [],at'=>by simp [slR,rch]
 | y :: l,at'=>by
  rw [List.cons_append]
  show qPp y i j at' :: slR i j _ (l++[x])=_
  rw [qTg i j x l,qIt,List.length_append,Nat.add_assoc];rfl
theorem qTe (i j:Int):∀ (l:Row) (at':Nat),(slR i j at' l).length=l.length
 | [],_=>rfl
 | x :: l,at'=>by simp [slR,qTe i j l]
theorem zIf (i j:Int):∀ {l:Row} (at':Nat),RV l->RV (slR i j at' l)
 | [],_,_=>fun x hx=>by cases hx
 | y :: l,at',h=>fun x hx=>by
  rcases List.mem_cons.1 hx with rfl | h1
  . exact zNp (h y (by simp)) _ _
  . exact zIf i j _ (fun z hz=>h z (by simp [hz])) x h1
theorem qKv (i j:Int):∀ {l:Row} (at':Nat),RV l->qAe (slR i j at' l)<=qAe l
 | [],_,_=>Nat.le_refl _
 | y :: l,at',h=>by
  (have h1:=qKv i j (l:=l) (at' + (qAo y.text 0).length) fun z hz=>h z (by simp [hz]));have h2:=zJt (h y (by simp)) (slF y i at') (slF y j at')
  show qAe (qPp y i j at' :: slR i j _ l)<=_
  rw [qEd,qEd]
  show (csl _ _ _).size+_<=_
  omega
theorem qTf (i j:Int) (m:Nat):∀ {l:Row} (at':Nat),(∀ x∈l,x.ruby.size<=m)->∀ x∈slR i j at' l,x.ruby.size<=m
 | [],_,_=>fun x hx=>by cases hx
 | y :: l,at',h=>fun x hx=>by
  rcases List.mem_cons.1 hx with rfl | h1
  . unfold qPp
    dsimp only
    split
    . exact Nat.zero_le _
    . exact h y (by simp)
  . exact qTf i j m _ (fun z hz=>h z (by simp [hz])) x h1
theorem zLu {α:Type} (l:List α) (k:Nat):l.take (min k l.length)=l.take k:=by
 rcases Nat.le_total k l.length with h | h
 . rw [Nat.min_eq_left h]
 . rw [Nat.min_eq_right h,List.take_length,List.take_of_length_le h]
theorem zJw {α:Type} (l m:List α) (k:Nat) (h:m.length<=l.length):m.drop (min k l.length)=m.drop k:=by
 rcases Nat.le_total k l.length with h1 | h1
 . rw [Nat.min_eq_left h1]
 . rw [Nat.min_eq_right h1,List.drop_eq_nil_of_le h,List.drop_eq_nil_of_le (by omega)]
theorem qZa {i j:Int}:∀ {l:Row} (at':Nat),RV l->rch (slR i j at' l)=((rch l).take (j-at').toNat).drop (i-at').toNat
 | [],_,_=>by simp [slR,rch]
 | x :: l,at',h=>by
  have h1:=qZa (i:=i) (j:=j) (l:=l) (at' + (qAo x.text 0).length) fun z hz=>h z (by simp [hz])
  show rch (qPp x i j at' :: slR i j _ l)=_
  rw [qIt,h1,qIt]
  show qAo (csl _ _ _) 0++_=_
  rw [qVb (h x (by simp)),List.take_append,List.drop_append];unfold slF;rw [zLu,zJw _ _ _ (by rw [List.length_take];exact Nat.min_le_right _ _)]
  congr 1
  (have e1:(j-((at' + (qAo x.text 0).length:Nat):Int)).toNat=(j-at').toNat-(qAo x.text 0).length:=by omega);rw [e1,List.length_take]
  rcases Nat.le_total (j-at').toNat (qAo x.text 0).length with h2 | h2
  . rw [Nat.sub_eq_zero_of_le h2,List.take_zero,List.drop_nil,List.drop_nil]
  . rw [Nat.min_eq_right h2]
    congr 1
    omega
end
end Go.Proofs.YtneffpbodfjceaaGreatDoor