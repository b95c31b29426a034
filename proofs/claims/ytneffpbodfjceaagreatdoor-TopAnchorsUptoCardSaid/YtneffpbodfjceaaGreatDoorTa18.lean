/- Texts laid together. -/
import Derived.Test.YtneffpbodfjceaaGreatDoorTa17
import Derived.Deep.LoopGhost
import Derived.Lib.AppendZeros
import Derived.RegionTactic
import Derived.BigRegion
set_option linter.unusedVariables false
set_option linter.unusedSimpArgs false
set_option maxRecDepth 100000
set_option maxHeartbeats 16000000
namespace Go.Proofs.YtneffpbodfjceaaGreatDoor
section
open Go.RowKit
theorem zAi {w:World} {base:Nat} {e:TypeId} {size g n c:Nat} {xs:List Value} (h:w.ownsRow base e size (.slice (some ⟨g,0,none⟩) n c) n xs):∃ cur,Blk w g e cur:=by
 rcases h.2 with ⟨h0,-⟩ | ⟨g',cap,cur,h0,-,h1,-⟩
 . cases h0
 . cases h0
   exact ⟨cur,h1⟩
theorem zBq (o:Row) (y x:Run):((o++[y]).flatMap Run.cells).set (o.length*5) (.string (y.text++x.text))=(o++[y.more x]).flatMap Run.cells:=by
 rw [List.flatMap_append,List.flatMap_append];(have hl:(o.flatMap Run.cells).length=o.length*5:=by rw [qCc Run.cells 5 (fun _=>rfl)]);rw [List.set_append_right _ _ (by omega),hl,Nat.sub_self];rfl
theorem zBp (o:Row) (y:Run) (j:Nat) (v:Value) (hj:y.cells[j]?=some v):((o++[y]).flatMap Run.cells)[o.length*5+j]?=some v:=by
 rw [List.flatMap_append];(have hl:(o.flatMap Run.cells).length=o.length*5:=by rw [qCc Run.cells 5 (fun _=>rfl)]);rw [List.getElem?_append_right (by omega),hl,Nat.add_sub_cancel_left];simpa using hj
def StoJ (p:Addr) (v:Value) (W:World):List Value->World->Prop
 | [],w'=>Ext W w'
 | [_],w'=>∃ w5,Ext W w5/\w'=w5.setCell p v
 | _,_=>False
def NRel (w:World) (l:Row) (n:Nat) (i:Value) (wr:World):Prop :=
 ∃ (k:Nat) (o:Row) (A:Option Addr) (c:Nat),k<=n/\i = .int .i64 k/\Ext w wr/\Blk wr w.heap.size 61 #[.slice none 0 0]/\Blk wr (w.heap.size+1) 61 #[.slice A o.length c] /\
  wr.ownsRow w.heap.size 102 5 (.slice A o.length c) o.length (o.flatMap Run.cells)/\NOk (l.take k) o
theorem zAg (A:Option Addr) (n c:Nat) (l:Row) (w:World) (hl:qBj w A n l) (hn:n<=1000000) (hb:qAe l<=8589934592) :
 Calls Tryz.prog 137 #[.slice A n c] w fun e w'=>∃ A' c' o,e = .returned (.agg #[.slice A' o.length c'])/\w'.ownsRow w.heap.size 102 5 (.slice A' o.length c') o.length (o.flatMap Run.cells)/\NOk l o/\Ext w w':=by
 have HL:=gH hl;have HN:=gH hl.len;have HBy:=gH hb;have HX0:=gH (((Ext.refl w).alloc (.cells #[.slice none 0 0] 61)).alloc (.cells #[.slice none 0 0] 61));have HZ0:=gH ((Blk.new w 61 #[.slice none 0 0]).alloc (.cells #[.slice none 0 0] 61));have HV0:=gH (Blk.new' (w:=w.alloc (.cells #[.slice none 0 0] 61)) (g:=w.heap.size+1) (t:=61) (cs:=#[.slice none 0 0]) (by simp));clear hl hb;go_enter Tryz.func137,Tryz.ntmps137;go_wp2_with fail
 go_loopw [9] (fun i wr=>NRel w l n i wr) (fun i _=>n-(intOf i).toNat)
 case atStart=>exact ⟨0,[],none,0,Nat.zero_le _,rfl,HX0.out,HZ0.out,HV0.out,⟨rfl,.inl ⟨rfl,rfl⟩⟩,NOk.nil⟩
 case round =>
  obtain ⟨k,o,Ao,co,hk,rfl,hx,hz,hv,hown,hok⟩:=hrel;have HX:=gH hx;have HZ:=gH hz;have HV:=gH hv;have HO:=gH hown;have HK:=gH hok;(have hol:o.length<=1000000:=by have:=hok.len;rw [List.length_take] at this;omega);have hsz:=hx.size;clear hx hz hv hown hok HX0 HZ0 HV0
  by_cases hlt:k<n
  . obtain ⟨b,off,x,rfl,hxk,hcl⟩:=(HL.out.ext HX.out).at_ hlt
    obtain ⟨c0,c1,c2,c3,c4⟩:=hcl;have HXk:=gH (take_snoc' l k _ hxk);clear hxk;have HX1:=gH (HX.out.alloc (.cells #[.string x.text,.int .u8 x.color,.bool x.italic,.bool x.under,.string x.ruby] 102));have HZ1:=gH (HZ.out.alloc (.cells #[.string x.text,.int .u8 x.color,.bool x.italic,.bool x.under,.string x.ruby] 102));have HV1:=gH (HV.out.alloc (.cells #[.string x.text,.int .u8 x.color,.bool x.italic,.bool x.under,.string x.ruby] 102));have HO1:=gH (qAh HO.out ((Ext.refl wr).alloc (.cells #[.string x.text,.int .u8 x.color,.bool x.italic,.bool x.under,.string x.ruby] 102)));have HR1:=gH (Blk.new wr 102 #[.string x.text,.int .u8 x.color,.bool x.italic,.bool x.under,.string x.ruby]);obtain ⟨W1,hW1⟩:∃ W1,W1=wr.alloc (.cells #[.string x.text,.int .u8 x.color,.bool x.italic,.bool x.under,.string x.ruby] 102):=⟨_,rfl⟩;(have kv:=fun o=>HV1.out.cell o)
    by_cases hq:x.text.toList.isEmpty=true
    . clear HX HZ HV HO hW1
      go_wp2_with fail;have hx0:x.text.size=0:=zAt (by simpa using hq);refine ⟨⟨k+1,o,Ao,co,by omega,by go_num,HX1.out,HZ1.out,HV1.out,HO1.out,?_⟩,by simp only [intOf];omega⟩;rw [HXk.out];exact HK.out.skip hx0
    . have hqf:x.text.toList.isEmpty=false:=by simpa using hq
      clear hq
      rcases List.eq_nil_or_concat o with rfl | ⟨o',y,rfl⟩
      . go_wp2_with fail
        rw [← hW1] at HX1 HZ1 HV1 HO1 HR1 kv ⊢;clear hW1 HX HZ HV HO;refine qBr W1 (Ext.refl _) (by kernel_rfl) (by kernel_rfl) ?_
        repeat (go_big_quiet_step (fail))
        refine wpQuiet_nil ?_;rintro w2 ⟨⟨_,hx2⟩,rfl⟩
        try dsimp only
        have HX2:=gH (HX1.out.trans hx2);have HZ2:=gH (HZ1.out.ext hx2);have HV2:=gH (HV1.out.ext hx2);have HO2:=gH (qAh HO1.out (hx2.alloc (.cells #[.string x.text,.int .u8 x.color,.bool x.italic,.bool x.under,.string x.ruby] 102)));(have kr:=fun o=>(HR1.out.ext hx2).cell o);have HN2:=gH (Blk.new w2 102 #[.string x.text,.int .u8 x.color,.bool x.italic,.bool x.under,.string x.ruby]);have HX2a:=gH (HX2.out.alloc (.cells #[.string x.text,.int .u8 x.color,.bool x.italic,.bool x.under,.string x.ruby] 102));have HZ2a:=gH (HZ2.out.alloc (.cells #[.string x.text,.int .u8 x.color,.bool x.italic,.bool x.under,.string x.ruby] 102));have HV2a:=gH (HV2.out.alloc (.cells #[.string x.text,.int .u8 x.color,.bool x.italic,.bool x.under,.string x.ruby] 102));have hs2:=HX2a.out.size;(have kw:=fun o=>HV2.out.cell o);clear hx2 HX1 HZ1 HV1 HO1 HR1 kv HX2 HZ2 HV2
        go_wp2_with
         (at_builtin
          refine qAi rfl (.tmp 17) (.tmp 19) 59 rfl qEt Tryz.underlying59 rfl (by decide) (base:=w.heap.size) (v:=.slice Ao 0 co) (n:=0) (xs:=[]) HO2.out (by exact rfl) w2.heap.size #[.string x.text,.int .u8 x.color,.bool x.italic,.bool x.under,.string x.ruby] (by exact rfl) (by exact HN2.out) (by exact rfl) (by simp [Value.oneCell']) (by omega) (by unfold maxLen;omega) hs2 ?_;intro v' w3 hown3 hgr3;obtain ⟨A3,c3',rfl⟩:=qDq hown3;have HX3:=gH (HX2a.out.grown hgr3 (fun q hq=>qBg HO2.out q hq));have HZ3:=gH (HZ2a.out.kb (KB.grown hgr3 (qAt HO2.out) (by decide)));have HV3:=gH (HV2a.out.kb (KB.grown hgr3 (qAt HO2.out) (by decide)));have HO3:=gH hown3;(have sc:=fun o=>HV3.out.cell o);(have sf:=fun o=>HV3.out.frozen o);have se:=qAd HV3.out 0 (.slice A3 (0+1) c3')
          clear hown3 hgr3 HX2a HZ2a HV2a HN2 kw kr hs2)
        (have hlx:([]++[x]).length=0+1:=by simp);(have hfx:([]++[x]).flatMap Run.cells=[]++(#[.string x.text,.int .u8 x.color,.bool x.italic,.bool x.under,.string x.ruby]:Array Value).toList:=by rw [List.flatMap_append];rfl);refine ⟨⟨k+1,[]++[x],A3,c3',by omega,by go_num,HX3.out.put (by omega) _ _,HZ3.out.put_other (by omega) _,?_,?_,?_⟩,by simp only [intOf];omega⟩
        . rw [hlx]
          exact HV3.out.put _
        . rw [hlx,hfx]
          exact qBi HO3.out HV3.out (by decide)
        . rw [HXk.out]
          exact HK.out.add
      . rw [List.concat_eq_append] at *
        (have hlm:(o'++[y]).length=o'.length+1:=by simp);have HO1':=gH HO1.out;rw [hlm] at HV1 HO1' kv hol
        obtain ⟨g,hgA⟩:∃ g,Ao=some ⟨g,0,none⟩:=by
         obtain ⟨g,cap,he,-,-⟩:=qBt HO1'.out (Nat.succ_pos _)
         cases he
         exact ⟨g,rfl⟩
        subst hgA;obtain ⟨m,hm⟩:∃ m,m=o'.length:=⟨_,rfl⟩;have HM:=gH hm;rw [← hm] at HV1 HO1' kv hol hlm
        have hcy:∀ (W:World),Ext W1 W->∀ (j:Nat) (v:Value),y.cells[j]?=some v->W.cell? ⟨g,m*5+j,none⟩=some v:=fun W hX j v hv=>by
         have hj:j<5:=(List.getElem?_eq_some_iff.1 hv).1;have:=HO1'.out.cellAt (m*5+j) (by omega);rw [hm,zBp o' y j v hv,← hm] at this;rw [hW1] at hX;exact hX.cell this
        (have q1:((m+1:Nat):Int)-1=(m:Int):=by omega);have q2:m<m+1:=Nat.lt_succ_self m;(have q4:(m:Int)<((m+1:Nat):Int):=by omega);(have q5:¬ ((m:Int)<0):=by omega);(have q8:(m:Int)<(m:Int)+1:=by omega);(have q10:IntKind.i64.wrap (m:Int)=m:=by rw [IntKind.wrap_i64];omega)
        have q9:¬ 9223372036854775807<y.text.size+x.text.size:=by
         (have h1:=HK.out.by');rw [qBe,qCi] at h1;(have h2:qAe (l.take (k+1))=qAe (l.take k)+x.text.size:=by rw [HXk.out,qBe,qCi]);(have h3:qAe (l.take (k+1))+qAe (l.drop (k+1))=qAe l:=by rw [← qBe,List.take_append_drop]);have h4:=HBy.out;omega
        (have q6:wrap64 (m:Int)=m:=by unfold wrap64;omega);have HCy:=gH hcy;clear hm hlm hcy;go_wp2_with fail;rw [← hW1] at HX1 HZ1 HV1 HO1' HR1 kv ⊢;clear hW1 HX HZ HV HO HO1;(have y0:=fun (z:EW W1)=>HCy.out z.w z.ext 0 _ rfl);(have y1:=fun (z:EW W1)=>HCy.out z.w z.ext 1 _ rfl);(have y2:=fun (z:EW W1)=>HCy.out z.w z.ext 2 _ rfl);(have y3:=fun (z:EW W1)=>HCy.out z.w z.ext 3 _ rfl);(have y4:=fun (z:EW W1)=>HCy.out z.w z.ext 4 _ rfl);(have zr:=fun (z:EW W1) o=>(HR1.out.ext z.ext).cell o);(have zv:=fun (z:EW W1) o=>(HV1.out.ext z.ext).cell o);have HAl:=gH (fun w'=>qUi y x w');unfold Run.val at HAl;simp only [Nat.add_zero] at y0;refine qBr W1 (Ext.refl _) (by kernel_rfl) (by kernel_rfl) ?_
        repeat (go_big_quiet_step ((go_at_call 205;exact EW.calls _ (HAl.out _))))
        refine wpQuiet_nil ?_;rintro w2 ⟨⟨_,hx2⟩,rfl⟩
        try dsimp only
        clear y0 y1 y2 y3 y4 zr zv HAl kv
        cases hal:qEr y x with
        | true =>
         have HX2:=gH (HX1.out.trans hx2);have HZ2:=gH (HZ1.out.ext hx2);have HV2:=gH (HV1.out.ext hx2);have HO2:=gH (qAh HO1'.out hx2);have HR2:=gH (HR1.out.ext hx2);go_wp2_with fail;refine qAr [some 39,some 40,some 41,some 42,some 43,some 44,some 45,some 46,some 47,some 48,some 49,some 50,none] [[],[0],[],[2],[1,3],[4],[5],[],[7],[6,8],[1,3,0,1,2,3,4,5,6,7,8,9],[10,0,1,2,3,4,5,6,7,8,9],[11,9,0,1,2,3,4,5,6,7,8,9]] [12] [.pointer (some ⟨w.heap.size+1,0,none⟩),.slice (some ⟨g,0,none⟩) (m+1) co,.int .i64 ((m:Int)+1),.int .i64 m,.pointer (some ⟨g,m*5,none⟩),.pointer (some ⟨g,m*5,none⟩),.string y.text,.pointer (some ⟨wr.heap.size,0,none⟩),.string x.text,.string (y.text++x.text),.pointer (some ⟨g,m*5,none⟩),.pointer (some ⟨g,m*5,none⟩),undef] (StoJ ⟨g,m*5,none⟩ (.string (y.text++x.text)) w2) (by kernel_rfl) (by kernel_rfl) (by kernel_rfl) (by kernel_rfl) (by kernel_rfl) (by kernel_rfl) (by kernel_rfl) (by decide) ?_ ?_ ?_ ?_
         . exact ((Ext.refl w2).drew:Ext w2 w2.drew)
         . intro i o ho hc a w' us K' hJ hF hlim hk
           match i,ho with
           | 0,ho =>
            simp only [gA,gB,gC,gD] at ho;subst ho;have e3:=hF.old 3 (.pointer (some ⟨w.heap.size+1,0,none⟩)) rfl rfl;simp only [Act.eval] at e3;clear hF hlim hJ;go_simp;exact hk
           | 1,ho =>
            simp only [gA,gB,gC,gD] at ho;subst ho;have e39:=hF.pure 0 39 (.pointer (some ⟨w.heap.size+1,0,none⟩)) rfl rfl rfl rfl;obtain rfl:us=[]:=List.eq_nil_of_length_eq_zero (by have:=hlim 0 12 rfl (by kernel_rfl);omega);have hcl:=(HV2.out.ext hJ).cell 0;simp only [List.getElem?_toArray,List.getElem?_cons_zero] at hcl;simp only [Act.eval] at e39;clear hF hlim hJ;go_simp;exact hk
           | 2,ho =>
            simp only [gA,gB,gC,gD] at ho;subst ho;have e6:=hF.old 6 (.int .i64 ((m:Int)+1)) rfl rfl;simp only [Act.eval] at e6;clear hF hlim hJ;go_simp;exact hk
           | 3,ho =>
            simp only [gA,gB,gC,gD] at ho;subst ho;have e41:=hF.pure 2 41 (.int .i64 ((m:Int)+1)) rfl rfl rfl rfl;simp only [Act.eval] at e41;clear hF hlim hJ;go_simp;exact hk
           | 4,ho =>
            simp only [gA,gB,gC,gD] at ho;subst ho;have e40:=hF.pure 1 40 (.slice (some ⟨g,0,none⟩) (m+1) co) rfl rfl rfl rfl;have e42:=hF.pure 3 42 (.int .i64 m) rfl rfl rfl rfl;simp only [Act.eval] at e40 e42;clear hF hlim hJ;go_simp;exact hk
           | 5,ho =>
            simp only [gA,gB,gC,gD] at ho;subst ho;have e43:=hF.pure 4 43 (.pointer (some ⟨g,m*5,none⟩)) rfl rfl rfl rfl;simp only [Act.eval] at e43;clear hF hlim hJ;go_simp;exact hk
           | 6,ho =>
            simp only [gA,gB,gC,gD] at ho;subst ho;have e44:=hF.pure 5 44 (.pointer (some ⟨g,m*5,none⟩)) rfl rfl rfl rfl;obtain rfl:us=[]:=List.eq_nil_of_length_eq_zero (by have:=hlim 0 12 rfl (by kernel_rfl);omega);have hcl:=HCy.out w' (hx2.trans hJ) 0 _ rfl;rw [Nat.add_zero] at hcl;simp only [Act.eval] at e44;clear hF hlim hJ;go_simp;exact hk
           | 7,ho =>
            simp only [gA,gB,gC,gD] at ho;subst ho;have e5:=hF.old 5 (.pointer (some ⟨wr.heap.size,0,none⟩)) rfl rfl;simp only [Act.eval] at e5;clear hF hlim hJ;go_simp;exact hk
           | 8,ho =>
            simp only [gA,gB,gC,gD] at ho;subst ho;have e46:=hF.pure 7 46 (.pointer (some ⟨wr.heap.size,0,none⟩)) rfl rfl rfl rfl;obtain rfl:us=[]:=List.eq_nil_of_length_eq_zero (by have:=hlim 0 12 rfl (by kernel_rfl);omega);have hcl:=(HR2.out.ext hJ).cell 0;simp only [List.getElem?_toArray,List.getElem?_cons_zero] at hcl;simp only [Act.eval] at e46;clear hF hlim hJ;go_simp;exact hk
           | 9,ho =>
            simp only [gA,gB,gC,gD] at ho;subst ho;have e45:=hF.pure 6 45 (.string y.text) rfl rfl rfl rfl;have e47:=hF.pure 8 47 (.string x.text) rfl rfl rfl rfl;simp only [Act.eval] at e45 e47;clear hF hlim hJ;go_simp;exact hk
           | 10,ho =>
            simp only [gA,gB,gC,gD] at ho;subst ho;have e40:=hF.pure 1 40 (.slice (some ⟨g,0,none⟩) (m+1) co) rfl rfl rfl rfl;have e42:=hF.pure 3 42 (.int .i64 m) rfl rfl rfl rfl;simp only [Act.eval] at e40 e42;clear hF hlim hJ;go_simp;exact hk
           | 11,ho =>
            simp only [gA,gB,gC,gD] at ho;subst ho;have e49:=hF.pure 10 49 (.pointer (some ⟨g,m*5,none⟩)) rfl rfl rfl rfl;simp only [Act.eval] at e49;clear hF hlim hJ;go_simp;exact hk
           | 12,ho=>simp at hc
           | i+13,ho=>simp at ho
         . intro p c' o hp ho a w' us K' hl hJ hF hk
           match p,hp with
           | 0,hp =>
            (obtain rfl:12=c':=by simpa using hp);simp only [gA,gB,gC,gD] at ho;subst ho;obtain rfl:us=[]:=List.eq_nil_of_length_eq_zero hl;have e50:=hF.pure 11 50 (.pointer (some ⟨g,m*5,none⟩)) rfl rfl rfl rfl;have e48:=hF.pure 9 48 (.string (y.text++x.text)) rfl rfl rfl rfl;have hcl:=HCy.out w' (hx2.trans hJ) 0 _ rfl;rw [Nat.add_zero] at hcl;obtain ⟨cur,hbk⟩:=zAi (qAh HO2.out hJ);have hfz:=hbk.frozen (m*5);have HK:=gH (hk undef _ ⟨w',hJ,rfl⟩);clear hbk;simp [Act.eval] at e48 e50;clear hk hF hJ;go_simp;exact HK.out
           | p+1,hp=>simp at hp
         intro us w3 hl hJ;obtain ⟨u0,rfl⟩:=qBv hl
         first | (rename_i hK;refine hK _ _ ?_;clear hK) | (rename_i hK hK_1;refine hK _ _ ?_;clear hK) | (rename_i hK hK_1 hK_2;refine hK _ _ ?_;clear hK) | (rename_i hK hK_1 hK_2 hK_3;refine hK _ _ ?_;clear hK)
         generalize hL:qCd _ _ _ _=L;obtain rfl:L=[(39,.pointer (some ⟨w.heap.size+1,0,none⟩)),(40,.slice (some ⟨g,0,none⟩) (m+1) co),(41,.int .i64 ((m:Int)+1)),(42,.int .i64 m),(43,.pointer (some ⟨g,m*5,none⟩)),(44,.pointer (some ⟨g,m*5,none⟩)),(45,.string y.text),(46,.pointer (some ⟨wr.heap.size,0,none⟩)),(47,.string x.text),(48,.string (y.text++x.text)),(49,.pointer (some ⟨g,m*5,none⟩)),(50,.pointer (some ⟨g,m*5,none⟩))]:=hL.symm.trans (by kernel_rfl);clear hL hl;simp only [Act.put,List.foldl_cons,List.foldl_nil,List.setIfInBounds_toArray,List.set_cons_zero,List.set_cons_succ];obtain ⟨w5,hx5,rfl⟩:=hJ;have HO5:=gH (qAh HO2.out hx5);obtain ⟨ho6,hg6⟩:=HO5.out.stored (m*5) (.string (y.text++x.text));have hx6:=(HX2.out.trans hx5).grown hg6 (fun q hq=>by obtain rfl:=Option.some.inj hq;exact qBg HO5.out _ rfl);(have hkb:∀ T,T≠102->KB T w5 (w5.setCell ⟨g,m*5,none⟩ (.string (y.text++x.text))):=fun T hn=>KB.grown hg6 (fun q hq=>qAt HO5.out q hq) hn);have HZ6:=gH ((HZ2.out.ext hx5).kb (hkb _ (by decide)));have HV6:=gH ((HV2.out.ext hx5).kb (hkb _ (by decide)));rw [HM.out,zBq] at ho6;rw [← HM.out] at ho6;have HO6:=gH ho6;have HX6:=gH hx6;clear hx2 hx5 ho6 hg6 hx6 hkb HX2 HZ2 HV2 HO2 HR2 HO5;go_wp2_with fail;(have hl6:(o'++[y.more x]).length=m+1:=by rw [HM.out];simp)
         refine ⟨⟨k+1,o'++[y.more x],some ⟨g,0,none⟩,co,by omega,by go_num,HX6.out,HZ6.out,by rw [hl6];exact HV6.out,by rw [hl6];exact HO6.out,?_⟩,by simp only [intOf];omega⟩;rw [HXk.out];exact HK.out.join
        | false =>
         have HO1:=HO1';have HX2:=gH (HX1.out.trans hx2);have HZ2:=gH (HZ1.out.ext hx2);have HV2:=gH (HV1.out.ext hx2);have HO2:=gH (qAh HO1.out (hx2.alloc (.cells #[.string x.text,.int .u8 x.color,.bool x.italic,.bool x.under,.string x.ruby] 102)));(have kr:=fun o=>(HR1.out.ext hx2).cell o);have HN2:=gH (Blk.new w2 102 #[.string x.text,.int .u8 x.color,.bool x.italic,.bool x.under,.string x.ruby]);have HX2a:=gH (HX2.out.alloc (.cells #[.string x.text,.int .u8 x.color,.bool x.italic,.bool x.under,.string x.ruby] 102));have HZ2a:=gH (HZ2.out.alloc (.cells #[.string x.text,.int .u8 x.color,.bool x.italic,.bool x.under,.string x.ruby] 102));have HV2a:=gH (HV2.out.alloc (.cells #[.string x.text,.int .u8 x.color,.bool x.italic,.bool x.under,.string x.ruby] 102));have hs2:=HX2a.out.size;(have kw:=fun o=>HV2.out.cell o);clear hx2 HX1 HZ1 HV1 HO1 HR1 HX2 HZ2 HV2
         go_wp2_with
          (at_builtin
           refine qAi rfl (.tmp 17) (.tmp 19) 59 rfl qEt Tryz.underlying59 rfl (by decide) (base:=w.heap.size) (v:=.slice (some ⟨g,0,none⟩) (m+1) co) (n:=(m+1)) (xs:=((o'++[y]).flatMap Run.cells)) HO2.out (by exact rfl) w2.heap.size #[.string x.text,.int .u8 x.color,.bool x.italic,.bool x.under,.string x.ruby] (by exact rfl) (by exact HN2.out) (by exact rfl) (by simp [Value.oneCell']) (by omega) (by unfold maxLen;omega) hs2 ?_;intro v' w3 hown3 hgr3;obtain ⟨A3,c3',rfl⟩:=qDq hown3;have HX3:=gH (HX2a.out.grown hgr3 (fun q hq=>qBg HO2.out q hq));have HZ3:=gH (HZ2a.out.kb (KB.grown hgr3 (qAt HO2.out) (by decide)));have HV3:=gH (HV2a.out.kb (KB.grown hgr3 (qAt HO2.out) (by decide)));have HO3:=gH hown3;(have sc:=fun o=>HV3.out.cell o);(have sf:=fun o=>HV3.out.frozen o);have se:=qAd HV3.out 0 (.slice A3 ((m+1)+1) c3')
           clear hown3 hgr3 HX2a HZ2a HV2a HN2 kw kr hs2)
         (have hlx:((o'++[y])++[x]).length=(m+1)+1:=by simp [HM.out]);(have hfx:((o'++[y])++[x]).flatMap Run.cells=((o'++[y]).flatMap Run.cells)++(#[.string x.text,.int .u8 x.color,.bool x.italic,.bool x.under,.string x.ruby]:Array Value).toList:=by rw [List.flatMap_append];rfl);refine ⟨⟨k+1,(o'++[y])++[x],A3,c3',by omega,by go_num,HX3.out.put (by omega) _ _,HZ3.out.put_other (by omega) _,?_,?_,?_⟩,by simp only [intOf];omega⟩
         . rw [hlx]
           exact HV3.out.put _
         . rw [hlx,hfx]
           exact qBi HO3.out HV3.out (by decide)
         . rw [HXk.out]
           exact HK.out.add
  . obtain rfl:k=n:=by omega
    (have hok:NOk l o:=by have:=HK.out;rwa [List.take_of_length_le (by rw [HN.out];exact Nat.le_refl _)] at this);(have hz0:=fun o=>HZ.out.cell o);(have hv0:=fun o=>HV.out.cell o);(go_wp2_with first | (refine qAa rfl 61 (.tmp 3) rfl (w.heap.size+1) 61 _ _ (by exact rfl) (by exact HV.out) Tryz.underlying61 rfl (by exact qAz) ?_) | (refine qAc rfl 61 (.tmp 2) _ rfl w.heap.size 61 _ _ (by exact rfl) (by exact rfl) (by exact HZ.out) (by exact rfl) (by exact qAz) (by simp [Value.oneCell']) ?_));refine bodyPost_ret (v:=.agg #[.slice Ao o.length co]) ?_ rfl ⟨Ao,co,o,rfl,qBi HO.out HZ.out (by decide),hok,HX.out.put (Nat.le_refl _) _ _⟩;exact qBz (P:=Tryz.prog) Tryz.results137 (g:=w.heap.size) rfl (by exact HZ.out.put _) Tryz.underlying61 rfl qAz
def qBy (P:Program) (c:Code) (Q:Exit->Act->World->Prop):Nat->Act->World->Prop
 | 0,_,_=>False
 | n+1,a,w=>∀ K:Act->World->Prop,(∀ a' w',qBy P c Q n a' w'->K a' w')->c.wp P (Exit.then K Q) a w
theorem qBy.mk {P:Program} {c:Code} {Q:Exit->Act->World->Prop} {n:Nat} {a:Act} {w:World} (h:∀ K:Act->World->Prop,(∀ a' w',qBy P c Q n a' w'->K a' w')->c.wp P (Exit.then K Q) a w):qBy P c Q (n+1) a w:=h
theorem qBm {P:Program} {c:Code} {Q:Exit->Act->World->Prop} {a:Act} {w:World} (n:Nat) (h:∀ K:Act->World->Prop,(∀ a' w',qBy P c Q n a' w'->K a' w')->c.wp P (Exit.then K Q) a w):(Code.loop c).wp P Q a w:=by
 refine wp_loop_ghost (qBy P c Q) (n+1) h ?_;intro n a w h
 cases n with
 | zero=>exact h.elim
 | succ n=>exact h _ (fun a' w' h'=>⟨n,Nat.lt_succ_self n,h'⟩)
theorem qEg {w:World} {L n c:Nat} {A:Option Addr} {o:Row} (h:w.ownsRow L 102 5 (.slice A n c) n (o.flatMap Run.cells)) (hl:o.length=n):qBj w A n o/\n<=c:=by
 obtain ⟨A',c',he,hc,-,hs,-⟩:=qBn (f:=Run.cells) (size:=5) (fun _=>rfl) hl h
 cases he
 refine ⟨⟨hs.1,fun h0=>?_⟩,hc⟩;obtain ⟨b,off,hA,hx⟩:=hs.2 h0;exact ⟨b,off,hA,fun i r hr=>⟨by have:=hx i r hr 0 _ rfl;simpa using this,hx i r hr 1 _ rfl,hx i r hr 2 _ rfl,hx i r hr 3 _ rfl,hx i r hr 4 _ rfl⟩⟩
def zBe (l:Row) (w:World) (e:Ending) (w':World):Prop:=∃ A c o,e = .returned (.agg #[.slice A o.length c])/\w'.ownsRow w.heap.size 102 5 (.slice A o.length c) o.length (o.flatMap Run.cells)/\NOk l o/\Ext w w'
theorem qVu (A:Option Addr) (n c:Nat) (l:Row) (w:World) (hl:qBj w A n l) (hn:n<=1000000) (hb:qAe l<=8589934592):Calls Tryz.prog 137 #[.slice A n c] w (zBe l w) :=
 zAg A n c l w hl hn hb
theorem zNe (s:ByteArray) (cl:Int) (it un:Bool) (w:World) (hs:s.size<=4294967296) :
 Calls Tryz.prog 54 #[.string s,.agg #[.int .u8 cl,.bool it,.bool un]] w (zBe [⟨s,cl,it,un,⟨#[]⟩⟩] w):=by
 have HX:=gH ((((Ext.refl w).alloc (.cells #[.int .u8 cl,.bool it,.bool un] 42)).alloc (.cells #[.slice none 0 0] 61)).alloc (.cells #[.string s,.int .u8 cl,.bool it,.bool un,.string ⟨#[]⟩] 102));have HZ:=gH ((Blk.new' (w:=w.alloc (.cells #[.int .u8 cl,.bool it,.bool un] 42)) (g:=w.heap.size+1) (t:=61) (cs:=#[.slice none 0 0]) (by simp)).alloc (.cells #[.string s,.int .u8 cl,.bool it,.bool un,.string ⟨#[]⟩] 102));have HR:=gH (Blk.new' (w:=(w.alloc (.cells #[.int .u8 cl,.bool it,.bool un] 42)).alloc (.cells #[.slice none 0 0] 61)) (g:=w.heap.size+1+1) (t:=102) (cs:=#[.string s,.int .u8 cl,.bool it,.bool un,.string ⟨#[]⟩]) (by simp))
 have HNm:=gH (qVu (some ⟨w.heap.size+1+1,0,none⟩) 1 1 [⟨s,cl,it,un,⟨#[]⟩⟩] _ (show qBj (((w.alloc (.cells #[.int .u8 cl,.bool it,.bool un] 42)).alloc (.cells #[.slice none 0 0] 61)).alloc (.cells #[.string s,.int .u8 cl,.bool it,.bool un,.string ⟨#[]⟩] 102)) _ 1 _ from ⟨rfl,fun _=>⟨w.heap.size+1+1,0,rfl,fun i r hr=>by
  (have hi:i=0:=by have:=(List.getElem?_eq_some_iff.1 hr).1;simp at this;omega);subst hi
  cases hr
  exact ⟨HR.out.cell 0,HR.out.cell 1,HR.out.cell 2,HR.out.cell 3,HR.out.cell 4⟩⟩⟩) (by omega) (by rw [qCi];show s.size<=_;omega))
 unfold zBe at HNm;clear hs;go_enter Tryz.func54,Tryz.ntmps54;go_wp2_with fail;refine HNm.out.mono ?_;rintro e w2 ⟨A,c,o,rfl,hr,hok,hx⟩;have HX2:=gH (HX.out.trans hx);have HZ2:=gH (HZ.out.ext hx);clear hx HX HZ HR HNm;go_wp2_with (refine qAc rfl 61 (.tmp 4) _ rfl (w.heap.size+1) 61 _ _ (by exact rfl) (by exact rfl) (by exact HZ2.out) (by exact rfl) (by exact qAz) (by simp [Value.oneCell']) ?_);refine bodyPost_ret (v:=.agg #[.slice A o.length c]) ?_ rfl ⟨A,c,o,rfl,qBi (qBo hr (by simp;omega)) HZ2.out (by decide),hok,HX2.out.put (by omega) _ _⟩;exact qBz (P:=Tryz.prog) Tryz.results54 (g:=w.heap.size+1) rfl (by exact HZ2.out.put _) Tryz.underlying61 rfl qAz
theorem zGc (n:Nat) (w:World) (hn:n<=2000000):Calls Tryz.prog 206 #[.slice none 0 0,.int .i64 n] w fun e w'=>∃ A c,e = .returned (.slice A 0 c)/\w'.ownsRow w.heap.size 102 5 (.slice A 0 c) 0 []/\Ext w w':=by
 rcases Nat.eq_zero_or_pos n with rfl | h0
 . go_enter Tryz.func206,Tryz.ntmps206
   go_wp2_with fail;go_ret;exact ⟨none,0,rfl,⟨rfl,.inl ⟨rfl,rfl⟩⟩,Ext.refl w⟩
 . obtain ⟨i,hi,hz0,hz1,hz2⟩:=info_parts qEt
   have hrun:=Lib.run_append_nil_zeros (P:=Tryz.prog) w 59 3 59 102 i _ .i64 .i64 Tryz.underlying59 Tryz.underlying3 hi hz0 n h0 (by omega) (by omega) (by rw [hz2];omega);have HR:=gH hrun;clear hrun;(have q1:(0:Int)<n:=by omega);(have q2:¬ ((n:Int)<0):=by omega);go_enter Tryz.func206,Tryz.ntmps206;go_wp2_with (at_builtin;refine Lib.wpList_append_run _ rfl _ _ _ _ rfl _ _ rfl rfl _ _ HR.out ?_);have hcap:=grownCap_ge w n 0 102;go_ret;exact ⟨_,_,rfl,⟨rfl,.inr ⟨w.heap.size,_,_,rfl,Nat.le_refl _,Blk.drew (Blk.new w _ _),Nat.zero_le _,grownCap_le_maxLen w n 0 _ (by unfold maxLen;omega),by rw [Array.size_append];simp only [Builtin.zeroCells,Array.size_map,Array.size_range];show n*5+(grownCap w n 0 102-n)*5=grownCap w n 0 102*5;omega,rfl⟩⟩,((Ext.refl w).alloc _).drew⟩
theorem qXo (gs:Nat) (A1 A2:Option Addr) (n1 n2 c1 c2:Nat) (l1 l2:Row) (w:World) (hB:Blk w gs 59 #[.slice A1 n1 c1,.slice A2 n2 c2]) (h1:qBj w A1 n1 l1) (h2:qBj w A2 n2 l2) (b1:n1<=1000000) (b2:n2<=1000000) :
 Calls Tryz.prog 138 #[.slice (some ⟨gs,0,none⟩) 2 2] w fun e w'=>∃ A c,e = .returned (.slice A (n1+n2) c)/\w'.ownsRow w.heap.size 102 5 (.slice A (n1+n2) c) (n1+n2) ((l1++l2).flatMap Run.cells)/\Ext w w':=by
 have HB:=gH hB;have H1:=gH h1;have H2:=gH h2;have k0:=hB.cell 0;have k1:=hB.cell 1;simp only [gA,gB,gC] at k0 k1;have HG:=gH (zGc (n1+n2) w (by omega));(have q1:¬ ((n1:Int)<0):=by omega);(have q2:¬ ((n1:Int)+n2<0):=by omega);(have q3:wrap64 (n1:Int)=n1:=by unfold wrap64;omega);(have q4:wrap64 ((n1:Int)+n2)=(n1:Int)+n2:=by unfold wrap64;omega);clear hB h1 h2;go_enter Tryz.func138,Tryz.ntmps138;go_wp2_with fail;refine qBm 2 ?_;intro K hK;go_wp2_with fail;refine qBy.mk ?_;intro K hK;go_wp2_with fail;refine qBy.mk ?_;intro K hK;go_wp2_with fail;rw [show (n1:Int)+n2=((n1+n2:Nat):Int) by omega];refine HG.out.mono ?_;rintro e w1 ⟨g1,cg,rfl,ho1,hx1⟩;have HO1:=gH ho1;have HX1:=gH hx1;have HB1:=gH (HB.out.ext hx1);have k0:=HB1.out.cell 0;have k1:=HB1.out.cell 1;simp only [gA,gB,gC] at k0 k1;have hsz1:=HX1.out.size;clear ho1 hx1 HB HG;go_wp2_with fail;refine qBm 2 ?_;intro K hK
 go_wp2_with
  (at_builtin
   refine qAx (f:=Run.cells) rfl (.tmp 31) (.tmp 32) 59 rfl qEt Tryz.underlying59 rfl (by decide) (base:=w.heap.size) (n:=0) (xs:=[]) HO1.out (by exact rfl) (A:=A1) (m:=n1) (c:=c1) (l:=l1) (by exact rfl) (H1.out.ext HX1.out).cells (fun _=>rfl) zAp (by omega) (by unfold maxLen;omega) hsz1 ?_;intro v2 w2 hown2 hgr2 _;rw [Nat.zero_add] at hown2;obtain ⟨B2,d2,rfl⟩:=qDq hown2;have HX2:=gH (HX1.out.grown hgr2 (fun q hq=>qBg HO1.out q hq));have HB2:=gH (HB1.out.kb (KB.grown hgr2 (qAt HO1.out) (by decide)));have HO2:=gH hown2;have hsz2:=HX2.out.size;clear hown2 hgr2;have k0:=HB2.out.cell 0;have k1:=HB2.out.cell 1
   simp only [gA,gB,gC] at k0 k1)
 refine qBy.mk ?_;intro K hK
 go_wp2_with
  (at_builtin
   refine qAx (f:=Run.cells) rfl (.tmp 31) (.tmp 32) 59 rfl qEt Tryz.underlying59 rfl (by decide) (base:=w.heap.size) (n:=n1) (xs:=([]++l1.flatMap Run.cells)) HO2.out (by exact rfl) (A:=A2) (m:=n2) (c:=c2) (l:=l2) (by exact rfl) (H2.out.ext HX2.out).cells (fun _=>rfl) zAp (by omega) (by unfold maxLen;omega) hsz2 ?_;intro v3 w3 hown3 hgr3 _;obtain ⟨B3,d3,rfl⟩:=qDq hown3;have HX3:=gH (HX2.out.grown hgr3 (fun q hq=>qBg HO2.out q hq));have HB3:=gH (HB2.out.kb (KB.grown hgr3 (qAt HO2.out) (by decide)));have HO3:=gH hown3;have hsz3:=HX3.out.size;clear hown3 hgr3;have k0:=HB3.out.cell 0;have k1:=HB3.out.cell 1
   simp only [gA,gB,gC] at k0 k1)
 refine qBy.mk ?_;intro K hK;go_wp2_with fail;go_ret;have ho:=HO3.out;exact ⟨B3,d3,rfl,by rw [List.flatMap_append];simpa using ho,HX3.out⟩
theorem qGx (A1 A2:Option Addr) (n1 n2 c1 c2:Nat) (l1 l2:Row) (w:World) (h1:qBj w A1 n1 l1) (h2:qBj w A2 n2 l2) (b1:n1<=100000) (b2:n2<=100000) (hb:qAe (l1++l2)<=8589934592) :
 Calls Tryz.prog 52 #[.agg #[.slice A1 n1 c1],.agg #[.slice A2 n2 c2]] w (zBe (l1++l2) w):=by
 have HX:=gH ((((Ext.refl w).alloc (.cells #[.slice A1 n1 c1] 61)).alloc (.cells #[.slice A2 n2 c2] 61)).alloc (.cells #[.slice none 0 0] 61));have HZ:=gH (Blk.new' (w:=(w.alloc (.cells #[.slice A1 n1 c1] 61)).alloc (.cells #[.slice A2 n2 c2] 61)) (g:=w.heap.size+1+1) (t:=61) (cs:=#[.slice none 0 0]) (by simp));(have ka:=fun o=>(((Blk.new w 61 #[.slice A1 n1 c1]).alloc (.cells #[.slice A2 n2 c2] 61)).alloc (.cells #[.slice none 0 0] 61)).cell o);(have kb:=fun o=>((Blk.new' (w:=w.alloc (.cells #[.slice A1 n1 c1] 61)) (g:=w.heap.size+1) (t:=61) (cs:=#[.slice A2 n2 c2]) (by simp)).alloc (.cells #[.slice none 0 0] 61)).cell o);have HBy:=gH hb;have H1:=gH (h1.ext HX.out);have H2:=gH (h2.ext HX.out);obtain ⟨W1,hW1⟩:∃ W1,W1=((w.alloc (.cells #[.slice A1 n1 c1] 61)).alloc (.cells #[.slice A2 n2 c2] 61)).alloc (.cells #[.slice none 0 0] 61):=⟨_,rfl⟩;(have hs1:W1.heap.size=w.heap.size+3:=by rw [hW1];simp);clear h1 h2 hb;go_enter Tryz.func52,Tryz.ntmps52;rw [← hW1] at ka kb HX HZ H1 H2;have HW:=gH hW1;rw [hW1] at ka kb;clear hW1;have hq:=HX.out.alloc (.cells #[.slice A1 n1 c1,.slice A2 n2 c2] 59);have HCc:=gH (qXo (w.heap.size+1+1+1) A1 A2 n1 n2 c1 c2 l1 l2 (W1.alloc (.cells #[.slice A1 n1 c1,.slice A2 n2 c2] 59)) (Blk.new' (by omega)) (H1.out.ext ((Ext.refl W1).alloc _)) (H2.out.ext ((Ext.refl W1).alloc _)) (by omega) (by omega));have HL1:=gH H1.out.len;have HL2:=gH H2.out.len;go_wp2_with fail;rw [← HW.out]
 refine HCc.out.mono ?_;rintro e w2 ⟨A,c,rfl,ho2,hx2⟩;have HX2:=gH (hq.trans hx2);have HZ2:=gH ((HZ.out.alloc (.cells #[.slice A1 n1 c1,.slice A2 n2 c2] 59)).ext hx2);obtain ⟨hr2,-⟩:=qEg ho2 (by rw [List.length_append,HL1.out,HL2.out]);have HNm:=gH (qVu A (n1+n2) c (l1++l2) w2 hr2 (by omega) HBy.out);unfold zBe at HNm;(have hs2:w.heap.size+3<=w2.heap.size:=by have:=hx2.size;simp at this;omega);clear hq hx2 ho2 hr2 HX HZ HCc ka kb HW H1 H2 HBy HL1 HL2;go_wp2_with fail;refine HNm.out.mono ?_;rintro e w3 ⟨A3,c3,o,rfl,ho3,hok,hx3⟩;have HX3:=gH (HX2.out.trans hx3);have HZ3:=gH (HZ2.out.ext hx3);clear hx3 HX2 HZ2 HNm;go_wp2_with (refine qAc rfl 61 (.tmp 4) _ rfl (w.heap.size+1+1) 61 _ _ (by exact rfl) (by exact rfl) (by exact HZ3.out) (by exact rfl) (by exact qAz) (by simp [Value.oneCell']) ?_);refine bodyPost_ret (v:=.agg #[.slice A3 o.length c3]) ?_ rfl ⟨A3,c3,o,rfl,qBi (qBo ho3 (by omega)) HZ3.out (by decide),hok,HX3.out.put (by omega) _ _⟩;exact qBz (P:=Tryz.prog) Tryz.results52 (g:=w.heap.size+1+1) rfl (by exact HZ3.out.put _) Tryz.underlying61 rfl qAz
def zQd (l:Row) (I J:Int) (w:World) (e:Ending) (w':World):Prop:=∃ A c o,e = .returned (.agg #[.slice A o.length c])/\w'.ownsRow w.heap.size 102 5 (.slice A o.length c) o.length (o.flatMap Run.cells)/\NOk (slR I J 0 l) o/\Ext w w'
def SRel (w:World) (l:Row) (n:Nat) (I J:Int) (v t i:Value) (wr:World):Prop :=
 ∃ (k:Nat) (A:Option Addr) (c:Nat),k<=n/\i = .int .i64 k/\t = .int .i64 ((rch (l.take k)).length:Nat)/\v = .slice A k c/\Ext w wr/\Blk wr (w.heap.size+1) 61 #[.slice none 0 0] /\
  wr.ownsRow w.heap.size 102 5 (.slice A k c) k ((slR I J 0 (l.take k)).flatMap Run.cells)
theorem zIx {a b:Nat} (ha:a<=1000000) (hb:b<=1000000):wrap64 ((a:Int)-b)=(a:Int)-b:=by unfold wrap64;omega
theorem zLn (x:Run) (I:Int) (a:Nat):min (max (I-a) 0) ((qAo x.text 0).length:Int)=(slF x I a:Int):=by unfold slF;omega
theorem zRa (x:Run) {I J:Int} (h:I<=J) (a:Nat):min (max (J-a) (slF x I a:Int)) ((qAo x.text 0).length:Int)=(slF x J a:Int):=by unfold slF;omega
theorem zMq (x:Run) {I J:Int} (h:I<=J) (a:Nat):slF x I a<=slF x J a:=by unfold slF;omega
theorem zIe (x:Run) (I:Int) (a:Nat):slF x I a<=(qAo x.text 0).length:=by unfold slF;omega
theorem qPy (A:Option Addr) (n c:Nat) (l:Row) (I J:Nat) (w:World) (hE:Env w) (hl:qBj w A n l) (hrv:RV l) (hn:n<=1000) (hb:qAe l<=4294967296) (hIJ:I<=J) (hJ:J<=(rch l).length) (hlen:(rch l).length<=1000000) :
 Calls Tryz.prog 53 #[.agg #[.slice A n c],.int .i64 I,.int .i64 J] w (zQd l I J w):=by
 have HX:=gH (((Ext.refl w).alloc (.cells #[.slice A n c] 61)).alloc (.cells #[.slice none 0 0] 61));have HB:=gH ((Blk.new w 61 #[.slice A n c]).alloc (.cells #[.slice none 0 0] 61));have HZ:=gH (Blk.new' (w:=w.alloc (.cells #[.slice A n c] 61)) (g:=w.heap.size+1) (t:=61) (cs:=#[.slice none 0 0]) (by simp));have HLn:=gH (fun w' (hx:Ext w w')=>qIm A n c l w' (hE.ext hx) (hl.ext hx) (by omega) (by omega));rw [qIf hrv] at HLn;have HL:=gH hl;have HN:=gH hl.len;have HE:=gH hE;have HV:=gH hrv;have HBy:=gH hb;have HJ:=gH hJ;obtain ⟨N,hN⟩:∃ N,N=(rch l).length:=⟨_,rfl⟩;rw [← hN] at HLn HJ hlen;have HNN:=gH hN;(have m0:max (N:Int) 0=N:=by omega);(have m1:min (max (I:Int) 0) (N:Int)=I:=by have:=HJ.out;omega);(have m2:min (max (J:Int) I) (N:Int)=J:=by have:=HJ.out;omega);(have m3:¬ ((N:Int)<0):=by omega);have HLi:=gH (fun w'=>qSt N I J w');rw [m1,m2] at HLi;clear hE hl hrv hb hN hJ m1 m2;go_enter Tryz.func53,Tryz.ntmps53;go_wp2_with (refine qAa rfl 61 (.tmp 3) rfl w.heap.size 61 _ _ (by exact rfl) (by exact HB.out) Tryz.underlying61 rfl (by exact qAz) ?_);refine (HLn.out _ HX.out).mono ?_;rintro e w1 ⟨rfl,hx1⟩;have HX1:=gH (HX.out.trans hx1);have HB1:=gH (HB.out.ext hx1);have HZ1:=gH (HZ.out.ext hx1);clear hx1 HX HB HZ;go_wp2_with fail;refine (HLi.out _).mono ?_;rintro e w1' ⟨rfl,hw⟩;subst hw
 go_wp2_with (refine qAa rfl 61 (.tmp 3) rfl w.heap.size 61 _ _ (by exact rfl) (by exact HB1.out) Tryz.underlying61 rfl (by exact qAz) ?_);refine (HLn.out _ HX1.out).mono ?_;rintro e w2 ⟨rfl,hx2⟩;have HX2:=gH (HX1.out.trans hx2);have HZ2:=gH (HZ1.out.ext hx2);(have kb:=fun o=>(HB1.out.ext hx2).cell o);clear hx2 HX1 HB1 HZ1 HLn HLi;go_wp2_with fail;clear kb
 go_loopw [7,8,30] (fun v t i wr=>SRel w l n I J v t i wr) (fun _ _ i _=>n-(intOf i).toNat)
 case atStart=>exact ⟨0,none,0,Nat.zero_le _,rfl,rfl,rfl,HX2.out,HZ2.out,⟨rfl,.inl ⟨rfl,rfl⟩⟩⟩
 case round =>
  obtain ⟨k,Ao,co,hk,rfl,rfl,rfl,hx,hz,hown⟩:=hrel;have HXr:=gH hx;have HZr:=gH hz;have HO:=gH hown;have hsz:=hx.size;clear hx hz hown HX2 HZ2
  by_cases hlt:k<n
  . obtain ⟨b,off,x,rfl,hxk,hcl⟩:=(HL.out.ext HXr.out).at_ hlt
    obtain ⟨c0,c1,c2,c3,c4⟩:=hcl;have hvx:vld x.text=true:=HV.out x (List.mem_of_getElem? hxk);have hsn:=take_snoc' l k _ hxk;have HT:=gH hsn;obtain ⟨at0,hat⟩:∃ a,a=(rch (l.take k)).length:=⟨_,rfl⟩
    have hbt:qAe (l.take k)+x.text.size<=4294967296:=by
     (have h1:qAe (l.take (k+1))=qAe (l.take k)+x.text.size:=by rw [hsn,qBe,qCi]);(have h2:qAe (l.take (k+1))+qAe (l.drop (k+1))=qAe l:=by rw [← qBe,List.take_append_drop]);have h3:=HBy.out;omega
    have hat1:(rch (l.take (k+1))).length=at0+(qAo x.text 0).length:=by rw [hsn,qHd,qLm,List.length_append,hat]
    have hatn:at0+(qAo x.text 0).length<=N:=by
     rw [← hat1,HNN.out];(have h2:rch (l.take (k+1))++rch (l.drop (k+1))=rch l:=by rw [← qHd,List.take_append_drop]);rw [← h2,List.length_append];omega
    have hcx:clen x.text=((qAo x.text 0).length:Int):=by
     unfold clen;rw [if_pos hvx,qJt]
    rw [← hat];have HAt:=gH hat;have HAt1:=gH hat1;have HLx:=gH (fun w' (hx:Ext w w')=>qZg x.text w' (HE.out.ext hx) (by omega));rw [hcx] at HLx;have HCs:=gH (fun w' (hx:Ext w w')=>zAz x.text (slF x I at0) (slF x J at0) w' (HE.out.ext hx) (by omega) hvx (zMq x (by omega) at0) (zIe x J at0) (by omega));have HLi:=gH (fun w'=>qSt ((qAo x.text 0).length:Int) ((I:Int)-at0) ((J:Int)-at0) w');rw [zLn,zRa x (by omega)] at HLi;have hle:=zMq x (I:=(I:Int)) (J:=(J:Int)) (by omega) at0;have hln:=zIe x (J:Int) at0;obtain ⟨m,hm⟩:∃ m,m=(qAo x.text 0).length:=⟨_,rfl⟩;have HM:=gH hm;rw [← hm] at hatn HLx HLi hln;clear hxk hvx hsn hbt hat hat1 hcx hm;(have q1:wrap64 ((I:Int)-at0)=(I:Int)-at0:=by have:=HJ.out;unfold wrap64;omega);(have q2:wrap64 ((J:Int)-at0)=(J:Int)-at0:=by have:=HJ.out;unfold wrap64;omega);(have hm6:m<=1000000:=by omega);(have q3:wrap64 ((at0:Int)+m)=((at0+m:Nat):Int):=by unfold wrap64;omega);have HQ3:=gH q3;clear q3;have hnb:=gH (qLl HO.out);have HXa:=gH (HXr.out.alloc (.cells #[.string x.text,.int .u8 x.color,.bool x.italic,.bool x.under,.string x.ruby] 102));have HZa:=gH (HZr.out.alloc (.cells #[.string x.text,.int .u8 x.color,.bool x.italic,.bool x.under,.string x.ruby] 102))
    have HOa:=gH (qAh HO.out ((Ext.refl wr).alloc (.cells #[.string x.text,.int .u8 x.color,.bool x.italic,.bool x.under,.string x.ruby] 102)));have HRa:=gH (Blk.new wr 102 #[.string x.text,.int .u8 x.color,.bool x.italic,.bool x.under,.string x.ruby]);clear HXr HZr HO;go_wp2_with fail;refine (HLx.out _ HXa.out).mono ?_;rintro e w3 ⟨rfl,hx3⟩;have HX3:=gH (HXa.out.trans hx3);have HZ3:=gH (HZa.out.ext hx3);have HO3:=gH (qAh HOa.out hx3);have HR3:=gH (HRa.out.ext hx3);clear hx3 HXa HZa HOa HRa c0 c1 c2 c3 c4 HLx;go_wp2_with fail;refine (HLi.out _).mono ?_;rintro e w3' ⟨rfl,hw⟩;subst hw;obtain ⟨fr,hfr⟩:∃ q,q=slF x I at0:=⟨_,rfl⟩;obtain ⟨tt,hto⟩:∃ q,q=slF x J at0:=⟨_,rfl⟩;have HFr:=gH hfr;have HTo:=gH hto;rw [← hfr,← hto] at HCs hle;rw [← hto] at hln;rw [← hfr,← hto];clear hfr hto;have q4:wrap64 ((tt:Int)-fr)=(tt:Int)-fr:=zIx (Nat.le_trans hln hm6) (Nat.le_trans hle (Nat.le_trans hln hm6));clear hle hln m0 m3 q1 q2 hm6 hatn hlen hIJ
    by_cases hru:(tt:Int)-fr<m
    . have hsc:=fun o=>HR3.out.cell o
      (have hsf:=fun o=>HR3.out.frozen o);have hse:=qAd HR3.out 4 (.string ⟨#[]⟩);(have hsd:=fun o=>(HR3.out.put #[.string x.text,.int .u8 x.color,.bool x.italic,.bool x.under,.string ⟨#[]⟩]).cell o);have HXq:=gH (HX3.out.put hsz 102 #[.string x.text,.int .u8 x.color,.bool x.italic,.bool x.under,.string ⟨#[]⟩]);have HZq:=gH (HZ3.out.put_other (g':=wr.heap.size) (t':=102) (fun e=>qBc.ne HR3.out.typed HZ3.out.typed (by decide) e) #[.string x.text,.int .u8 x.color,.bool x.italic,.bool x.under,.string ⟨#[]⟩]);have HOq:=gH (qGm (g:=wr.heap.size) (t:=102) (cs:=#[.string x.text,.int .u8 x.color,.bool x.italic,.bool x.under,.string ⟨#[]⟩]) HO3.out hnb.out);have HRq:=gH (HR3.out.put #[.string x.text,.int .u8 x.color,.bool x.italic,.bool x.under,.string ⟨#[]⟩]);go_wp2_with fail;refine (HCs.out _ HXq.out).mono ?_;rintro e w4 ⟨rfl,hx4⟩;have HX4:=gH (HXq.out.trans hx4);have HZ4:=gH (HZq.out.ext hx4);have HO4:=gH (qAh HOq.out hx4);have HR4:=gH (HRq.out.ext hx4);(have tsc:=fun o=>HR4.out.cell o);(have tsf:=fun o=>HR4.out.frozen o);have tse:=qAd HR4.out 0 (.string (csl x.text fr tt));(have tsd:=fun o=>(HR4.out.put #[.string (csl x.text fr tt),.int .u8 x.color,.bool x.italic,.bool x.under,.string ⟨#[]⟩]).cell o)
      have HX5:=gH ((HX4.out.put hsz 102 #[.string (csl x.text fr tt),.int .u8 x.color,.bool x.italic,.bool x.under,.string ⟨#[]⟩]).alloc (.cells #[.string (csl x.text fr tt),.int .u8 x.color,.bool x.italic,.bool x.under,.string ⟨#[]⟩] 102));have HZ5:=gH ((HZ4.out.put_other (g':=wr.heap.size) (t':=102) (fun e=>qBc.ne HR4.out.typed HZ4.out.typed (by decide) e) #[.string (csl x.text fr tt),.int .u8 x.color,.bool x.italic,.bool x.under,.string ⟨#[]⟩]).alloc (.cells #[.string (csl x.text fr tt),.int .u8 x.color,.bool x.italic,.bool x.under,.string ⟨#[]⟩] 102));have HO5:=gH (qAh (qGm (g:=wr.heap.size) (t:=102) (cs:=#[.string (csl x.text fr tt),.int .u8 x.color,.bool x.italic,.bool x.under,.string ⟨#[]⟩]) HO4.out hnb.out) ((Ext.refl _).alloc (.cells #[.string (csl x.text fr tt),.int .u8 x.color,.bool x.italic,.bool x.under,.string ⟨#[]⟩] 102)));have HN5:=gH (Blk.new (putB w4 wr.heap.size 102 #[.string (csl x.text fr tt),.int .u8 x.color,.bool x.italic,.bool x.under,.string ⟨#[]⟩]) 102 #[.string (csl x.text fr tt),.int .u8 x.color,.bool x.italic,.bool x.under,.string ⟨#[]⟩]);have hs5:=HX5.out.size;clear hx4 HXq HZq HOq HRq hsc hsf hse hsd HX3 HZ3 HO3 HR3 HCs HLi
      go_wp2_with
       (at_builtin
        refine qAi rfl (.tmp 60) (.tmp 62) 59 rfl qEt Tryz.underlying59 rfl (by decide) (base:=w.heap.size) (v:=.slice Ao k co) (n:=k) (xs:=(slR I J 0 (l.take k)).flatMap Run.cells) HO5.out (by exact rfl) _ #[.string (csl x.text fr tt),.int .u8 x.color,.bool x.italic,.bool x.under,.string ⟨#[]⟩] (by exact rfl) (by exact HN5.out) (by exact rfl) (by simp [Value.oneCell']) (by omega) (by unfold maxLen;omega) hs5 ?_;intro v6 w6 hown6 hgr6;obtain ⟨A6,c6,rfl⟩:=qDq hown6;have HX6:=gH (HX5.out.grown hgr6 (fun q hq=>qBg HO5.out q hq));have HZ6:=gH (HZ5.out.kb (KB.grown hgr6 (qAt HO5.out) (by decide)));have HO6:=gH hown6
        clear hown6 hgr6 HX5 HZ5 HO5 HN5 hs5 tsc tsf tse tsd)
      refine ⟨⟨k+1,A6,c6,by omega,by go_num,by rw [HAt1.out,← HM.out];exact congrArg _ HQ3.out,rfl,HX6.out,HZ6.out,?_⟩,by simp only [intOf];omega⟩
      have he:([qPp x I J (0+(rch (l.take k)).length)].flatMap Run.cells)=(#[.string (csl x.text fr tt),.int .u8 x.color,.bool x.italic,.bool x.under,.string ⟨#[]⟩]:Array Value).toList:=by
       rw [Nat.zero_add,← HAt.out];unfold qPp;rw [← HFr.out,← HTo.out,if_pos (by rw [← HM.out];exact hru)];rfl
      rw [HT.out,qTg,List.flatMap_append,he];exact HO6.out
    . have hsc:=fun o=>HR3.out.cell o
      go_wp2_with fail;refine (HCs.out _ HX3.out).mono ?_;rintro e w4 ⟨rfl,hx4⟩;have HX4:=gH (HX3.out.trans hx4);have HZ4:=gH (HZ3.out.ext hx4);have HO4:=gH (qAh HO3.out hx4);have HR4:=gH (HR3.out.ext hx4);(have tsc:=fun o=>HR4.out.cell o);(have tsf:=fun o=>HR4.out.frozen o);have tse:=qAd HR4.out 0 (.string (csl x.text fr tt));(have tsd:=fun o=>(HR4.out.put #[.string (csl x.text fr tt),.int .u8 x.color,.bool x.italic,.bool x.under,.string x.ruby]).cell o);have HX5:=gH ((HX4.out.put hsz 102 #[.string (csl x.text fr tt),.int .u8 x.color,.bool x.italic,.bool x.under,.string x.ruby]).alloc (.cells #[.string (csl x.text fr tt),.int .u8 x.color,.bool x.italic,.bool x.under,.string x.ruby] 102));have HZ5:=gH ((HZ4.out.put_other (g':=wr.heap.size) (t':=102) (fun e=>qBc.ne HR4.out.typed HZ4.out.typed (by decide) e) #[.string (csl x.text fr tt),.int .u8 x.color,.bool x.italic,.bool x.under,.string x.ruby]).alloc (.cells #[.string (csl x.text fr tt),.int .u8 x.color,.bool x.italic,.bool x.under,.string x.ruby] 102));have HO5:=gH (qAh (qGm (g:=wr.heap.size) (t:=102) (cs:=#[.string (csl x.text fr tt),.int .u8 x.color,.bool x.italic,.bool x.under,.string x.ruby]) HO4.out hnb.out) ((Ext.refl _).alloc (.cells #[.string (csl x.text fr tt),.int .u8 x.color,.bool x.italic,.bool x.under,.string x.ruby] 102)))
      have HN5:=gH (Blk.new (putB w4 wr.heap.size 102 #[.string (csl x.text fr tt),.int .u8 x.color,.bool x.italic,.bool x.under,.string x.ruby]) 102 #[.string (csl x.text fr tt),.int .u8 x.color,.bool x.italic,.bool x.under,.string x.ruby]);have hs5:=HX5.out.size;clear hx4 hsc HX3 HZ3 HO3 HR3 HCs HLi
      go_wp2_with
       (at_builtin
        refine qAi rfl (.tmp 60) (.tmp 62) 59 rfl qEt Tryz.underlying59 rfl (by decide) (base:=w.heap.size) (v:=.slice Ao k co) (n:=k) (xs:=(slR I J 0 (l.take k)).flatMap Run.cells) HO5.out (by exact rfl) _ #[.string (csl x.text fr tt),.int .u8 x.color,.bool x.italic,.bool x.under,.string x.ruby] (by exact rfl) (by exact HN5.out) (by exact rfl) (by simp [Value.oneCell']) (by omega) (by unfold maxLen;omega) hs5 ?_;intro v6 w6 hown6 hgr6;obtain ⟨A6,c6,rfl⟩:=qDq hown6;have HX6:=gH (HX5.out.grown hgr6 (fun q hq=>qBg HO5.out q hq));have HZ6:=gH (HZ5.out.kb (KB.grown hgr6 (qAt HO5.out) (by decide)));have HO6:=gH hown6
        clear hown6 hgr6 HX5 HZ5 HO5 HN5 hs5 tsc tsf tse tsd)
      refine ⟨⟨k+1,A6,c6,by omega,by go_num,by rw [HAt1.out,← HM.out];exact congrArg _ HQ3.out,rfl,HX6.out,HZ6.out,?_⟩,by simp only [intOf];omega⟩
      have he:([qPp x I J (0+(rch (l.take k)).length)].flatMap Run.cells)=(#[.string (csl x.text fr tt),.int .u8 x.color,.bool x.italic,.bool x.under,.string x.ruby]:Array Value).toList:=by
       rw [Nat.zero_add,← HAt.out];unfold qPp;rw [← HFr.out,← HTo.out,if_neg (by rw [← HM.out];omega)];rfl
      rw [HT.out,qTg,List.flatMap_append,he];exact HO6.out
  . obtain rfl:k=n:=by omega
    have ht:l.take k=l:=List.take_of_length_le (by rw [HN.out];exact Nat.le_refl _);have ho:=HO.out;rw [ht] at ho;obtain ⟨hr,-⟩:=qEg ho (by rw [qTe];exact HN.out);have HNm:=gH (zAg _ k co (slR I J 0 l) wr hr (by omega) (by have:=qKv (I:Int) (J:Int) 0 HV.out;have:=HBy.out;omega));clear ht ho hr HO;go_wp2_with fail;refine HNm.out.mono ?_;rintro e w2 ⟨A2,c2,o,rfl,ho2,hok,hx2⟩;have HX2:=gH (HXr.out.trans hx2);have HZ2:=gH (HZr.out.ext hx2);clear hx2 HXr HZr HNm;go_wp2_with (refine qAc rfl 61 (.tmp 6) _ rfl (w.heap.size+1) 61 _ _ (by exact rfl) (by exact rfl) (by exact HZ2.out) (by exact rfl) (by exact qAz) (by simp [Value.oneCell']) ?_);refine bodyPost_ret (v:=.agg #[.slice A2 o.length c2]) ?_ rfl ⟨A2,c2,o,rfl,qBi (qBo ho2 hsz) HZ2.out (by decide),hok,HX2.out.put (by omega) _ _⟩;exact qBz (P:=Tryz.prog) Tryz.results53 (g:=w.heap.size+1) rfl (by exact HZ2.out.put _) Tryz.underlying61 rfl qAz
section
variable {P:Program}
theorem qJr {fn:Func} {u p v:Tmp} {ty:TypeId} (h:fn.results=#[.tmp u,.cell p ty,.tmp v]) {tmps:Array Value} {w:World} {g:Nat} {t:TypeId} {cs:Array Value} {d:TypeDesc} (hp:tmps.getD p undef = .pointer (some ⟨g,0,none⟩))
 (hB:Blk w g t cs) (hu:P.underlying ty=some d) (hd:d.isRow=true) (hi:(P.info? ty).map (·.size)=some cs.size):(results fn tmps).run P w = .ok (.tuple #[tmps.getD u undef,.agg cs,tmps.getD v undef]) w:=by
 have h1:=qEw (P:=P) g t ty cs d hB hu hd hi;simp only [results,h];(have e:tmps[p]?.getD undef = .pointer (some ⟨g,0,none⟩):=by simpa using hp);simp [Sem.run_bind,e,qGq,h1]
end
theorem qDu:(Tryz.prog.info? 42).map (·.size)=some 3:=by kernel_rfl
def Ch.style (c:Ch):Value:=.agg #[.int .u8 c.color,.bool c.italic,.bool c.under]
def zQc (w:World) (l:Row) (n i:Nat) (iv kv:Value) (wr:World):Prop:=∃ k j:Nat,k<=n/\kv = .int .i64 k/\iv = .int .i64 j/\j<=i/\Ext w wr/\(qOn l)[i]?=(qOn (l.drop k))[j]?
theorem zDd {l:Row} {k:Nat} {r:Run} (h:l[k]?=some r):qOn (l.drop k)=qYv r++qOn (l.drop (k+1)):=by
 rw [qDh l k r h];rfl
theorem zHy (r:Run):(qYv r).length=(qAo r.text 0).length:=by unfold qYv;rw [List.length_map]
theorem zQz {w w':World} {ch:Ch} {q:Int} {x:Run} (h:(⟨q,x.color,x.italic,x.under⟩:Ch)=ch) (hx:Ext w w') :
 (Ending.returned (.tuple #[.int .i32 q,.agg #[.int .u8 x.color,.bool x.italic,.bool x.under],.bool true]):Ending) = .returned (.tuple #[.int .i32 ch.r,ch.style,.bool true])/\Ext w w':=by
 subst h;exact ⟨rfl,hx⟩
theorem zNb (A:Option Addr) (n c:Nat) (l:Row) (i:Nat) (ch:Ch) (w:World) (hE:Env w) (hl:qBj w A n l) (hb:qAe l<=35184372088831) (hn:n<=4611686018427387904) (hlen:0<=qAs l) (hib:i<=1000000) (hi:(qOn l)[i]?=some ch) :
 Calls Tryz.prog 51 #[.agg #[.slice A n c],.int .i64 i] w fun en w'=>en = .returned (.tuple #[.int .i32 ch.r,ch.style,.bool true])/\Ext w w':=by
 obtain ⟨m,hm⟩:∃ m:Nat,qAs l=m:=⟨(qAs l).toNat,by omega⟩
 have him:i<m:=by
  have h1:=(List.getElem?_eq_some_iff.1 hi).1;have h2:=(qId hlen).2;omega
 have hmi:decide (m<=i)=false:=decide_eq_false (by omega);have HVl:=gH (qId hlen).1;have HLn:=gH hl.len;have HL:=gH hl;have HE:=gH hE;have HI:=gH hi;have HLen:=gH (fun w' (hx:Ext w w')=>qIm A n c l w' (hE.ext hx) (hl.ext hx) (by omega) hn)
 have HBy:Hid (∀ r∈l,r.text.size<=35184372088831):=fun r hr=>by
  have h1:r.text.size<=qAe l:=by
   obtain ⟨s,t,rfl⟩:=List.append_of_mem hr;unfold qAe;(simp;omega)
  omega
 rw [hm] at HLen;clear hm hlen hi hl hE hb;have HX0:=gH (((Ext.refl w).alloc (.cells #[.slice A n c] 61)).alloc (.cells #[.int .u8 0,.bool false,.bool false] 42));have HB0:=gH ((Blk.new w 61 #[.slice A n c]).alloc (.cells #[.int .u8 0,.bool false,.bool false] 42));have HZ0:=gH (Blk.new' (w:=w.alloc (.cells #[.slice A n c] 61)) (g:=w.heap.size+1) (t:=42) (cs:=#[.int .u8 0,.bool false,.bool false]) (by simp));go_enter Tryz.func51,Tryz.ntmps51;go_wp2_with fail;refine (HLen.out _ HX0.out).mono ?_;rintro en w1 ⟨rfl,hx1⟩;have HX1:=gH (HX0.out.trans hx1);have HB1:=gH (HB0.out.ext hx1);have HZ1:=gH (HZ0.out.ext hx1);(have hc1:=fun o=>HB1.out.cell o);clear hx1 HX0 HB0 HZ0 HLen;go_wp2_with fail;clear hc1
 go_loopw [1,22] (fun iv kv wr=>zQc w1 l n i iv kv wr) (fun _ kv _=>n-(intOf kv).toNat)
 case atStart=>exact ⟨0,i,Nat.zero_le _,rfl,rfl,Nat.le_refl _,Ext.refl _,rfl⟩
 case round =>
  obtain ⟨k,j,hk,rfl,rfl,hji,hx,hp⟩:=hrel;have HP:=gH (hp.symm.trans HI.out);have HXr:=gH hx;clear hp hx
  by_cases hlt:k<n
  . obtain ⟨b,off,r,rfl,hr,c0,c1,c2,c3,c4⟩:=(HL.out.ext (HX1.out.trans HXr.out)).at_ hlt
    have HD:=gH (zDd hr);have hvr:=HVl.out r (List.mem_of_getElem? hr);have hsr:=HBy.out r (List.mem_of_getElem? hr);have HCh:=gH (fun w' (hx:Ext w w')=>qTu r.text w' (HE.out.ext hx) hsr hvr);have HRl:=gH (zHy r);clear hr hvr hsr;have HBr:=gH (Blk.new wr 102 #[.string r.text,.int .u8 r.color,.bool r.italic,.bool r.under,.string r.ruby]);have HXw:=gH ((HX1.out.trans HXr.out).alloc (.cells #[.string r.text,.int .u8 r.color,.bool r.italic,.bool r.under,.string r.ruby] 102));have HZr:=gH ((HZ1.out.ext HXr.out).alloc (.cells #[.string r.text,.int .u8 r.color,.bool r.italic,.bool r.under,.string r.ruby] 102));go_wp2_with fail;clear c0 c1 c2 c3 c4;refine (HCh.out _ HXw.out).mono ?_;rintro en w2 ⟨RA,rn,rc,rfl,hRS,hrc,hx2⟩;have HBr2:=gH (HBr.out.ext hx2);have HZr2:=gH (HZr.out.ext hx2);have HX2:=gH (HXw.out.trans hx2);have HXr2:=gH (HXr.out.trans (((Ext.refl wr).alloc (.cells #[.string r.text,.int .u8 r.color,.bool r.italic,.bool r.under,.string r.ruby] 102)).trans hx2));have hrl:=hRS.len;have HRS:=gH hRS;have hgr:=HBr2.out.lt;have hgz:=HZr2.out.lt;clear hRS hx2 HBr HZr HXw HCh HXr
    by_cases hj:j<rn
    . obtain ⟨rb,roff,q,rfl,hq,hqc⟩:=HRS.out.at_ hj
      have hqc:=hqc 0 _ rfl;simp only [Nat.mul_one,Nat.add_zero] at hqc
      have HQ:Hid ((⟨q,r.color,r.italic,r.under⟩:Ch)=ch):=by
       have h1:=HP.out;rw [HD.out,List.getElem?_append_left (by rw [HRl.out];omega)] at h1;unfold qYv at h1;rw [List.getElem?_map,hq] at h1;exact Option.some.inj h1
      clear hq;have hne:w.heap.size+1≠wr.heap.size:=qBc.ne HZr2.out.typed HBr2.out.typed (by decide);have d1:=HBr2.out.cell 1;have d2:=HBr2.out.cell 2;have d3:=HBr2.out.cell 3;have z0:=HZr2.out.cell 0;have z1:=HZr2.out.cell 1;have z2:=HZr2.out.cell 2;have f0:=HZr2.out.frozen 0;have f1:=HZr2.out.frozen 1;have f2:=HZr2.out.frozen 2;simp at d1 d2 d3 z0 z1 z2;go_wp2_with fail;go_region
      have hW:((w2.setCell ⟨w.heap.size+1,0,none⟩ (.int .u8 r.color)).setCell ⟨w.heap.size+1,1,none⟩ (.bool r.italic)).setCell ⟨w.heap.size+1,2,none⟩ (.bool r.under)=putB w2 (w.heap.size+1) 42 #[.int .u8 r.color,.bool r.italic,.bool r.under]:=by
       rw [qAd HZr2.out,qAd (HZr2.out.put _),qBa,qAd (HZr2.out.put _),qBa];rfl
      rw [hW];have HB3:Hid (Blk (putB w2 (w.heap.size+1) 42 #[.int .u8 r.color,.bool r.italic,.bool r.under]).drew (w.heap.size+1) 42 #[.int .u8 r.color,.bool r.italic,.bool r.under]):=HZr2.out.put _;have HX3:Hid (Ext w (putB w2 (w.heap.size+1) 42 #[.int .u8 r.color,.bool r.italic,.bool r.under]).drew):=(HX2.out.put (by omega) _ _).drew;clear hW d1 d2 d3 z0 z1 z2 f0 f1 f2 hqc;generalize (putB w2 (w.heap.size+1) 42 #[.int .u8 r.color,.bool r.italic,.bool r.under]).drew=W3 at *;go_wp2_with fail;refine bodyPost_ret (v:=.tuple #[.int .i32 q,.agg #[.int .u8 r.color,.bool r.italic,.bool r.under],.bool true]) ?_ rfl (zQz HQ.out HX3.out);exact qJr (P:=Tryz.prog) Tryz.results51 (g:=w.heap.size+1) rfl (by exact HB3.out) Tryz.underlying42 rfl qDu
    . have HP2:Hid ((qOn (l.drop (k+1)))[j-rn]?=some ch):=by
       have h1:=HP.out;rw [HD.out,List.getElem?_append_right (by rw [HRl.out];omega),HRl.out,hrl] at h1;exact h1
      have HX3:=gH HXr2.out;clear HRS;go_wp2_with fail;exact ⟨⟨k+1,j-rn,by omega,by go_num,(by congr 1;omega),by omega,HX3.out,HI.out.trans HP2.out.symm⟩,by simp [intOf];omega⟩
  . exfalso
    have h1:=HP.out;rw [List.drop_eq_nil_of_le (by have:=HLn.out;omega)] at h1;simp [qOn] at h1
end
end Go.Proofs.YtneffpbodfjceaaGreatDoor