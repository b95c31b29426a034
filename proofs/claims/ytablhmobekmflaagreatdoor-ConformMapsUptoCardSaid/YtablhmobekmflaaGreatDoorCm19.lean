/- Texts laid together. -/
import Derived.Test.YtablhmobekmflaaGreatDoorCm18
import Derived.Test.YtablhmobekmflaaGreatDoorCm06
import Derived.Test.YtablhmobekmflaaGreatDoorCm03
import Derived.Test.YtablhmobekmflaaGreatDoorCm11
import Derived.Test.YtablhmobekmflaaGreatDoorCm02
set_option linter.unusedVariables false
set_option linter.unusedSimpArgs false
set_option maxRecDepth 100000
namespace Go.Proofs.YtablhmobekmflaaGreatDoor
section
open Go.RowKit
theorem wp_call0 {P:Program} {o:Oper} {a:Act} {w:World} {K:Act→World→Prop} {Q:Exit→Act→World→Prop} {f:FuncId} {ts:Array TypeId} (ho:o.op = .call { callee:=.value (.func f),args:=#[],argTypes:=ts })
 (hent:∀ args w,(callFunc f args).run P w = .ok (.enter f args) w) {r:Value} (hc:Calls P f #[] w fun en w'=>en = .returned r∧Ext w w') (h:∀ w',Ext w w'→K (a.put o.dst r) w'):o.wp P a w K Q:=by
 have h2:Calls P f #[] w (fun
  | .returned u,w''=>K (a.put o.dst u) w''
  | .panicked chain,w''=>Q (.panic chain) a w''
  | .outgrown,_=>LetsOut Q):=hc.mono fun en w' hr=>by
  obtain ⟨rfl,hk⟩:=hr;exact h w' hk
 unfold Oper.wp execOp;have hev:a.eval (.func f) = .func (.func f) #[] #[]:=rfl;simp only [ho];simp [resolve,invoke,hev,hent,Sem.run_bind,Deferred.ofValue];exact h2
set_option maxHeartbeats 2000000 in
theorem R10usable_any (r:Reg) (w:World) (hs:r.name.size≤9223372036854775807):Calls Tryz.prog 229 #[r.val] w fun e w'=>e = .returned (.bool r.usable)∧Ext w w':=by
 (have hR:=fun w=>qNe r w hs);have hU:r.usable=decide (r=Reg.default∨r.check=0):=rfl;(have hq0:=fun (hd:r≠Reg.default) w=>qLw hd w);(have hq1:=fun (hd:r=Reg.default) w=>qJy Reg.default w);generalize r.check=E at *
 by_cases hE:E=0
 · subst hE
   (have HU:Hid (r.usable=true):=by show _=_;rw [hU];exact decide_eq_true (.inr rfl));clear hU hq0 hq1;obtain ⟨nm,top,hgt,lft,wid,al,bot⟩:=r;have HR:=gH hR;have HB:=gH (Blk.new w 105 #[.string nm,.int .i64 top,.int .i64 hgt,.int .i64 lft,.int .i64 wid,.int .u8 al,.bool bot]);clear hR;unfold Reg.val at HR ⊢;dsimp only at HR ⊢;go_enter Tryz.func229,Tryz.ntmps229;go_wp2_with fail;refine qAt [.agg #[.string nm,.int .i64 top,.int .i64 hgt,.int .i64 lft,.int .i64 wid,.int .u8 al,.bool bot],.int .i64 0,.bool true,.bool true,undef,undef,undef,.bool true,.bool true] [(3,.agg #[.string nm,.int .i64 top,.int .i64 hgt,.int .i64 lft,.int .i64 wid,.int .u8 al,.bool bot]),(4,.int .i64 0),(5,.bool true),(6,.bool true),(7,undef),(8,undef),(9,undef),(10,.bool true),(2,.bool true)] (by kernel_rfl) (by kernel_rfl) (by kernel_rfl) rfl rfl ?_ ?_
   · intro i o ho a w' K' hx hn hd hk
     match i,ho with
     | 0,ho =>
      simp only [gA,gB,gC,gD] at ho;subst ho;refine qAd rfl ?_;exact qCd 105 (.tmp 1) rfl _ 105 _ _ ((hn 1 rfl).trans (show _=Value.pointer (some ⟨w.heap.size,0,none⟩) from rfl)) (HB.out.ext hx) Tryz.underlying105 rfl (by exact qBw) (hk _ rfl w' (Ext.refl _))
     | 1,ho =>
      simp only [gA,gB,gC,gD] at ho;subst ho;refine qAd rfl ?_;exact qEk rfl (qAb (hd 0 3 (.agg #[.string nm,.int .i64 top,.int .i64 hgt,.int .i64 lft,.int .i64 wid,.int .u8 al,.bool bot]) rfl rfl rfl)) Tryz.call170 (HR.out w') (hk _ rfl)
     | 2,ho =>
      simp only [gA,gB,gC,gD] at ho;subst ho;refine qAd rfl ?_;exact qCh rfl (qAb (hd 1 4 (.int .i64 0) rfl rfl rfl)) rfl (by first | (go_simp;done) | simp | (simp;omega)) (hk _ rfl w' (Ext.refl _))
     | 3,ho =>
      simp only [gA,gB,gC,gD] at ho;subst ho;refine qAd rfl ?_;exact qAv _ _ rfl (qAb (hd 2 5 (.bool true) rfl rfl rfl)) (hk _ rfl w' (Ext.refl _))
     | 4,ho | 5,ho | 6,ho =>
      simp only [gA,gB,gC,gD] at ho;subst ho;refine want_no rfl rfl (hd 3 6 (.bool true) rfl rfl rfl) rfl ?_;exact hk undef rfl w' (Ext.refl _)
     | 7,ho =>
      simp only [gA,gB,gC,gD] at ho;subst ho;refine qAd rfl ?_;exact qDg _ _ _ true _ rfl (qAb (hd 3 6 (.bool true) rfl rfl rfl)) (by exact rfl) (hk _ rfl w' (Ext.refl _))
     | 8,ho =>
      simp only [gA,gB,gC,gD] at ho;subst ho;refine qAd rfl ?_;exact qCi _ _ rfl (qAb (hd 7 10 (.bool true) rfl rfl rfl)) (hk _ rfl w' (Ext.refl _))
     | i+9,ho=>simp at ho
   intro w9 hx9;simp only [Act.put,List.foldl_cons,List.foldl_nil,List.setIfInBounds_toArray,List.set_cons_zero,List.set_cons_succ];go_wp2_with fail;go_ret;exact ⟨by rw [HU.out];rfl,((Ext.refl w).alloc _).trans hx9⟩
 by_cases hd:r=Reg.default
 · have HU:Hid (r.usable=true):=by show _=_;rw [hU];exact decide_eq_true (.inl hd)
   have hq:=hq1 hd;clear hU hq0 hq1 hs;subst hd;have HR:=gH hR;have HB:=gH (Blk.new w 105 #[.string ByteArray.empty,.int .i64 11,.int .i64 4,.int .i64 0,.int .i64 32,.int .u8 2,.bool true]);clear hR;unfold Reg.val Reg.default at HR hq ⊢;unfold Reg.default at HU;dsimp only at HR hq HU ⊢;go_enter Tryz.func229,Tryz.ntmps229;go_wp2_with fail;refine qAt [.agg #[.string ByteArray.empty,.int .i64 11,.int .i64 4,.int .i64 0,.int .i64 32,.int .u8 2,.bool true],.int .i64 E,.bool false,.bool false,.agg #[.string ByteArray.empty,.int .i64 11,.int .i64 4,.int .i64 0,.int .i64 32,.int .u8 2,.bool true],.agg #[.string ByteArray.empty,.int .i64 11,.int .i64 4,.int .i64 0,.int .i64 32,.int .u8 2,.bool true],.bool true,.bool true,.bool true] [(3,.agg #[.string ByteArray.empty,.int .i64 11,.int .i64 4,.int .i64 0,.int .i64 32,.int .u8 2,.bool true]),(4,.int .i64 E),(5,.bool false),(6,.bool false),(7,.agg #[.string ByteArray.empty,.int .i64 11,.int .i64 4,.int .i64 0,.int .i64 32,.int .u8 2,.bool true]),(8,.agg #[.string ByteArray.empty,.int .i64 11,.int .i64 4,.int .i64 0,.int .i64 32,.int .u8 2,.bool true]),(9,.bool true),(10,.bool true),(2,.bool true)] (by kernel_rfl) (by kernel_rfl) (by kernel_rfl) rfl rfl ?_ ?_
   · intro i o ho a w' K' hx hn hd hk
     match i,ho with
     | 0,ho =>
      simp only [gA,gB,gC,gD] at ho;subst ho;refine qAd rfl ?_;exact qCd 105 (.tmp 1) rfl _ 105 _ _ ((hn 1 rfl).trans (show _=Value.pointer (some ⟨w.heap.size,0,none⟩) from rfl)) (HB.out.ext hx) Tryz.underlying105 rfl (by exact qBw) (hk _ rfl w' (Ext.refl _))
     | 1,ho =>
      simp only [gA,gB,gC,gD] at ho;subst ho;refine qAd rfl ?_;exact qEk rfl (qAb (hd 0 3 (.agg #[.string ByteArray.empty,.int .i64 11,.int .i64 4,.int .i64 0,.int .i64 32,.int .u8 2,.bool true]) rfl rfl rfl)) Tryz.call170 (HR.out w') (hk _ rfl)
     | 2,ho =>
      simp only [gA,gB,gC,gD] at ho;subst ho;refine qAd rfl ?_;exact qCh rfl (qAb (hd 1 4 (.int .i64 E) rfl rfl rfl)) rfl (by first | (go_simp;done) | simp | (simp;omega)) (hk _ rfl w' (Ext.refl _))
     | 3,ho =>
      simp only [gA,gB,gC,gD] at ho;subst ho;refine qAd rfl ?_;exact qAv _ _ rfl (qAb (hd 2 5 (.bool false) rfl rfl rfl)) (hk _ rfl w' (Ext.refl _))
     | 4,ho =>
      simp only [gA,gB,gC,gD] at ho;subst ho;refine qAe rfl rfl (hd 3 6 (.bool false) rfl rfl rfl) rfl ?_;exact qCd 105 (.tmp 1) rfl _ 105 _ _ ((hn 1 rfl).trans (show _=Value.pointer (some ⟨w.heap.size,0,none⟩) from rfl)) (HB.out.ext hx) Tryz.underlying105 rfl (by exact qBw) (hk _ rfl w' (Ext.refl _))
     | 5,ho =>
      simp only [gA,gB,gC,gD] at ho;subst ho;refine qAe rfl rfl (hd 3 6 (.bool false) rfl rfl rfl) rfl ?_;exact wp_call0 rfl  Tryz.call226 (qGy w') (hk _ rfl)
     | 6,ho =>
      simp only [gA,gB,gC,gD] at ho;subst ho;refine qAe rfl rfl (hd 3 6 (.bool false) rfl rfl rfl) rfl ?_;exact qCh rfl (qAb (hd 4 7 (.agg #[.string ByteArray.empty,.int .i64 11,.int .i64 4,.int .i64 0,.int .i64 32,.int .u8 2,.bool true]) rfl rfl rfl)) (qAb (hd 5 8 (.agg #[.string ByteArray.empty,.int .i64 11,.int .i64 4,.int .i64 0,.int .i64 32,.int .u8 2,.bool true]) rfl rfl rfl)) (by first | (go_simp;done) | (go_simp;exact hq w') | (go_simp;simp [hq];done) | go_simp) (hk _ rfl w' (Ext.refl _))
     | 7,ho =>
      simp only [gA,gB,gC,gD] at ho;subst ho;refine qAd rfl ?_;exact qDg _ _ _ false _ rfl (qAb (hd 3 6 (.bool false) rfl rfl rfl)) (by exact (qAb (hd 6 9 (.bool true) rfl rfl rfl))) (hk _ rfl w' (Ext.refl _))
     | 8,ho =>
      simp only [gA,gB,gC,gD] at ho;subst ho;refine qAd rfl ?_;exact qCi _ _ rfl (qAb (hd 7 10 (.bool true) rfl rfl rfl)) (hk _ rfl w' (Ext.refl _))
     | i+9,ho=>simp at ho
   intro w9 hx9;simp only [Act.put,List.foldl_cons,List.foldl_nil,List.setIfInBounds_toArray,List.set_cons_zero,List.set_cons_succ];go_wp2_with fail;go_ret;exact ⟨by rw [HU.out];rfl,((Ext.refl w).alloc _).trans hx9⟩
 · have HU:Hid (r.usable=false):=by show _=_;rw [hU];exact decide_eq_false (by simp [hd,hE])
   have hq:=hq0 hd;clear hU hq0 hq1 hs hd;obtain ⟨nm,top,hgt,lft,wid,al,bot⟩:=r;have HR:=gH hR;have HB:=gH (Blk.new w 105 #[.string nm,.int .i64 top,.int .i64 hgt,.int .i64 lft,.int .i64 wid,.int .u8 al,.bool bot]);clear hR;unfold Reg.val at HR hq ⊢;unfold Reg.default at hq;dsimp only at HR hq ⊢;go_enter Tryz.func229,Tryz.ntmps229;go_wp2_with fail;refine qAt [.agg #[.string nm,.int .i64 top,.int .i64 hgt,.int .i64 lft,.int .i64 wid,.int .u8 al,.bool bot],.int .i64 E,.bool false,.bool false,.agg #[.string nm,.int .i64 top,.int .i64 hgt,.int .i64 lft,.int .i64 wid,.int .u8 al,.bool bot],.agg #[.string ByteArray.empty,.int .i64 11,.int .i64 4,.int .i64 0,.int .i64 32,.int .u8 2,.bool true],.bool false,.bool false,.bool false] [(3,.agg #[.string nm,.int .i64 top,.int .i64 hgt,.int .i64 lft,.int .i64 wid,.int .u8 al,.bool bot]),(4,.int .i64 E),(5,.bool false),(6,.bool false),(7,.agg #[.string nm,.int .i64 top,.int .i64 hgt,.int .i64 lft,.int .i64 wid,.int .u8 al,.bool bot]),(8,.agg #[.string ByteArray.empty,.int .i64 11,.int .i64 4,.int .i64 0,.int .i64 32,.int .u8 2,.bool true]),(9,.bool false),(10,.bool false),(2,.bool false)] (by kernel_rfl) (by kernel_rfl) (by kernel_rfl) rfl rfl ?_ ?_
   · intro i o ho a w' K' hx hn hd hk
     match i,ho with
     | 0,ho =>
      simp only [gA,gB,gC,gD] at ho;subst ho;refine qAd rfl ?_;exact qCd 105 (.tmp 1) rfl _ 105 _ _ ((hn 1 rfl).trans (show _=Value.pointer (some ⟨w.heap.size,0,none⟩) from rfl)) (HB.out.ext hx) Tryz.underlying105 rfl (by exact qBw) (hk _ rfl w' (Ext.refl _))
     | 1,ho =>
      simp only [gA,gB,gC,gD] at ho;subst ho;refine qAd rfl ?_;exact qEk rfl (qAb (hd 0 3 (.agg #[.string nm,.int .i64 top,.int .i64 hgt,.int .i64 lft,.int .i64 wid,.int .u8 al,.bool bot]) rfl rfl rfl)) Tryz.call170 (HR.out w') (hk _ rfl)
     | 2,ho =>
      simp only [gA,gB,gC,gD] at ho;subst ho;refine qAd rfl ?_;exact qCh rfl (qAb (hd 1 4 (.int .i64 E) rfl rfl rfl)) rfl (by first | (go_simp;done) | simp | (simp;omega)) (hk _ rfl w' (Ext.refl _))
     | 3,ho =>
      simp only [gA,gB,gC,gD] at ho;subst ho;refine qAd rfl ?_;exact qAv _ _ rfl (qAb (hd 2 5 (.bool false) rfl rfl rfl)) (hk _ rfl w' (Ext.refl _))
     | 4,ho =>
      simp only [gA,gB,gC,gD] at ho;subst ho;refine qAe rfl rfl (hd 3 6 (.bool false) rfl rfl rfl) rfl ?_;exact qCd 105 (.tmp 1) rfl _ 105 _ _ ((hn 1 rfl).trans (show _=Value.pointer (some ⟨w.heap.size,0,none⟩) from rfl)) (HB.out.ext hx) Tryz.underlying105 rfl (by exact qBw) (hk _ rfl w' (Ext.refl _))
     | 5,ho =>
      simp only [gA,gB,gC,gD] at ho;subst ho;refine qAe rfl rfl (hd 3 6 (.bool false) rfl rfl rfl) rfl ?_;exact wp_call0 rfl  Tryz.call226 (qGy w') (hk _ rfl)
     | 6,ho =>
      simp only [gA,gB,gC,gD] at ho;subst ho;refine qAe rfl rfl (hd 3 6 (.bool false) rfl rfl rfl) rfl ?_;exact qCh rfl (qAb (hd 4 7 (.agg #[.string nm,.int .i64 top,.int .i64 hgt,.int .i64 lft,.int .i64 wid,.int .u8 al,.bool bot]) rfl rfl rfl)) (qAb (hd 5 8 (.agg #[.string ByteArray.empty,.int .i64 11,.int .i64 4,.int .i64 0,.int .i64 32,.int .u8 2,.bool true]) rfl rfl rfl)) (by first | (go_simp;done) | (go_simp;exact hq w') | (go_simp;simp [hq];done) | go_simp) (hk _ rfl w' (Ext.refl _))
     | 7,ho =>
      simp only [gA,gB,gC,gD] at ho;subst ho;refine qAd rfl ?_;exact qDg _ _ _ false _ rfl (qAb (hd 3 6 (.bool false) rfl rfl rfl)) (by exact (qAb (hd 6 9 (.bool false) rfl rfl rfl))) (hk _ rfl w' (Ext.refl _))
     | 8,ho =>
      simp only [gA,gB,gC,gD] at ho;subst ho;refine qAd rfl ?_;exact qCi _ _ rfl (qAb (hd 7 10 (.bool false) rfl rfl rfl)) (hk _ rfl w' (Ext.refl _))
     | i+9,ho=>simp at ho
   intro w9 hx9;simp only [Act.put,List.foldl_cons,List.foldl_nil,List.setIfInBounds_toArray,List.set_cons_zero,List.set_cons_succ];go_wp2_with fail;go_ret;exact ⟨by rw [HU.out];rfl,((Ext.refl w).alloc _).trans hx9⟩
theorem qJq {w':World} {g:Nat} {r:Reg} {b:Bool} {tmps:Array Value} (hB:Blk w' g 105 #[.string r.name,.int .i64 r.top,.int .i64 r.height,.int .i64 r.left,.int .i64 r.width,.int .u8 r.align,.bool r.bottom])
 (h4:tmps.getD 4 undef = .pointer (some ⟨g,0,none⟩)) (h5:tmps.getD 5 undef = .bool b):(results Tryz.f172 tmps).run Tryz.prog w' = .ok (.tuple #[r.val,.bool b]) w':=by
 rw [qDb (P:=Tryz.prog) Tryz.results172 h4 hB Tryz.underlying105 rfl qBw,h5];rfl
set_option maxHeartbeats 1000000 in
theorem R10Find_any (A:Option Addr) (n c:Nat) (l:List Reg) (nm:ByteArray) (w:World) (hl:qDs w A n l) (hn:n≤9223372036854775807) :
 Calls Tryz.prog 172 #[.slice A n c,.string nm] w fun e w'=>e = .returned (.tuple #[((qFo l nm).getD Reg.zero).val,.bool (qFo l nm).isSome])∧Ext w w':=by
 by_cases h0:nm.toList=[]
 · have HF:Hid (qFo l nm=some Reg.default):=by show qFo l nm=_;unfold qFo;rw [if_pos h0]
   (have h0':nm.toList.isEmpty=true:=by rw [h0];rfl);clear h0;go_enter Tryz.func172,Tryz.ntmps172;go_wp2_with fail;refine (qGy _).mono ?_;rintro e w1 ⟨rfl,hx1⟩;unfold Reg.val Reg.default;dsimp only;have hB:=gH (Blk.ext (Blk.new w _ _) hx1);go_wp2_with (refine qAi rfl 105 (.tmp 4) (.tmp 10) rfl w.heap.size 105 _ _ (by exact rfl) (by exact rfl) hB.out (by exact rfl) (by exact qBw) (by simp [Value.oneCell']) ?_);refine bodyPost_ret (v:=.tuple #[Reg.default.val,.bool true]) ?_ rfl ⟨?_,?_⟩
   · exact qJq (r:=Reg.default) (hB.out.put _) rfl rfl
   · rw [HF.out];rfl
   · exact (((Ext.refl w).alloc _).trans hx1).put (Nat.le_refl _) _ _
 · have HF:Hid (qFo l nm=l.find? (fun r=>r.name.toList == nm.toList)):=by show qFo l nm=_;unfold qFo;rw [if_neg h0]
   have h0':nm.toList.isEmpty=false:=by cases h:nm.toList with
    | nil=>exact absurd h h0
    | cons a b=>rfl
   clear h0;have HL:=gH hl;clear hl;go_enter Tryz.func172,Tryz.ntmps172;go_wp2_with fail
   go_loopw [13] (fun i wr=>FindRel w A n l nm i wr) (fun i _=>n-(intOf i).toNat)
   case atStart=>exact ⟨0,Nat.zero_le _,rfl,Ext.refl _,rfl⟩
   case round =>
    obtain ⟨k,hk,rfl,hx,hp⟩:=hrel;have HP:=gH hp;clear hp;have hB:=gH (Blk.ext (Blk.new w _ _) hx);have hxw:Ext w wr:=((Ext.refl w).alloc _).trans hx
    by_cases hlt:k<n
    · obtain ⟨b,off,r,rfl,hr,hC⟩:=(HL.out.ext hxw).at_ hlt
      have HR:=gH hr;clear hr;obtain ⟨c0,c1,c2,c3,c4,c5,c6⟩:=hC
      have hdrop:Hid (l.drop k=r :: l.drop (k+1)):=by
       show l.drop k=_
       have hkl:=(List.getElem?_eq_some_iff.1 HR.out).1;rw [List.drop_eq_getElem_cons hkl]
       congr 1
       exact (List.getElem?_eq_some_iff.1 HR.out).2
      by_cases hq:(r.name.toList == nm.toList)=true
      · go_wp2_with (refine qAi rfl 105 (.tmp 4) (.tmp 21) rfl w.heap.size 105 _ _ (by exact rfl) (by exact rfl) (hB.out.alloc _) (by exact rfl) (by exact qBw) (by simp [Value.oneCell']) ?_)
        refine bodyPost_ret (v:=.tuple #[r.val,.bool true]) ?_ rfl ⟨?_,?_⟩
        · exact qJq (r:=r) ((hB.out.alloc _).put _) rfl rfl
        · rw [HF.out,HP.out,hdrop.out,List.find?_cons,hq];rfl
        · exact (hxw.alloc _).put (Nat.le_refl _) _ _
      · have hq':(r.name.toList == nm.toList)=false:=by simpa using hq
        clear hq;go_wp2_with fail;refine ⟨⟨k+1,by omega,by go_num,hx.alloc _,?_⟩,by simp [intOf];omega⟩;rw [HP.out,hdrop.out,List.find?_cons,hq']
    · have hend:Hid (l.drop k=[]):=List.drop_eq_nil_of_le (by rw [HL.out.len];omega)
      go_wp2_with (refine qAi rfl 105 (.tmp 4) (.tmp 23) rfl w.heap.size 105 _ _ (by exact rfl) (by exact rfl) hB.out (by exact rfl) (by exact qBw) (by simp [Value.oneCell']) ?_);refine bodyPost_ret (v:=.tuple #[Reg.zero.val,.bool false]) ?_ rfl ⟨?_,?_⟩
      · exact qJq (r:=Reg.zero) (hB.out.put _) rfl rfl
      · rw [HF.out,HP.out,hend.out];rfl
      · exact hxw.put (Nat.le_refl _) _ _
set_option maxHeartbeats 4000000 in
theorem qNs (A:Option Addr) (n c:Nat) (l:List Reg) (w:World) (hl:qDs w A n l) (hn:n≤9223372036854775807) (hs:qGg l) :
 Calls Tryz.prog 108 #[.slice A n c] w fun en w'=>en = .returned (.int .i64 (qDh l))∧Ext w w':=by
 have HL:=gH hl;have HLn:=gH hl.len;have HSm:=gH hs;have HF:Hid (qDh l=if 16<l.length then 9 else qEi none l):=rfl;rw [hl.len] at HF;clear hl hs
 by_cases h16:16<n
 · have h16i:(16:Int)<(n:Int):=by omega
   go_enter Tryz.func108,Tryz.ntmps108;go_wp2_with fail;go_ret;exact ⟨qAa (by rw [HF.out,if_pos h16]),Ext.refl _⟩
 (have h16i:¬ (16:Int)<(n:Int):=by omega);have HG:=gH (HF.out.trans (if_neg h16));go_enter Tryz.func108,Tryz.ntmps108;go_wp2_with fail
 go_loopw [11] (fun i wr=>ListRel w n l i wr) (fun i _=>n-(intOf i).toNat)
 case atStart=>exact ⟨0,Nat.zero_le _,rfl,Ext.refl _,by simp [qHd]⟩
 case round =>
  obtain ⟨k,hk,rfl,hx,hP⟩:=hrel;have HXr:=gH hx
  by_cases hlt:k<n
  · obtain ⟨b,off,r,rfl,hr,c0,c1,c2,c3,c4,c5,c6⟩:=(HL.out.ext hx).at_ hlt
    have HS:=gH (regs_step hr hP);have HPv:=gH (fun h0=>prev_reg (HL.out.ext hx) (k:=k) hk h0);have HCk:=gH (fun w'=>qNe r w' (HSm.out r (List.mem_of_getElem? hr)));clear hr hP;have HBc:=gH (Blk.new wr 105 #[.string r.name,.int .i64 r.top,.int .i64 r.height,.int .i64 r.left,.int .i64 r.width,.int .u8 r.align,.bool r.bottom]);have HXc:=gH ((Ext.refl wr).alloc (.cells #[.string r.name,.int .i64 r.top,.int .i64 r.height,.int .i64 r.left,.int .i64 r.width,.int .u8 r.align,.bool r.bottom] 105));unfold Reg.val at HCk;go_wp2_with (refine qAc rfl 105 (.tmp 4) rfl wr.heap.size 105 _ _ (by exact rfl) (by exact HBc.out) Tryz.underlying105 rfl (by exact qBw) ?_);refine (HCk.out _).mono ?_;rintro en w2 ⟨rfl,hx2⟩;have HX2:=gH (HXc.out.trans hx2);have HB2:=gH (HBc.out.ext hx2);(have hcb:=fun o=>HB2.out.cell o);clear hx2 c0 c1 c2 c3 c4 c5 c6 HBc HXc
    by_cases hce:r.check=0
    case neg =>
     (have hne:(r.check != 0)=true:=by simpa using hce);have HC:=gH hce;clear hce;go_wp2_with fail;go_ret;exact ⟨qAa (by rw [HG.out,HS.out.1 HC.out]),hx.trans HX2.out⟩
    rw [hce];have HC:=gH hce;clear hce
    by_cases hk0:k=0
    · subst hk0
      have HN:=gH (HS.out.2.2.2 HC.out (by simp [qHd]) (by simp [qHd]));go_wp2_with fail;go_quiet (fail);go_wp2_with fail;go_quiet (fail);go_wp2_with fail;exact ⟨⟨1,by omega,by go_num,(hx.trans HX2.out).drewN _,HN.out⟩,by simp [intOf];omega⟩
    obtain ⟨b',off',q,hA,p0,hq⟩:=HPv.out (by omega)
    cases hA
    (have hki:(0:Int)<(k:Int):=by omega);(have hkp:0<k:=by omega);(have hk1:((k:Int)-1).toNat=k-1:=by omega);(have hk2:(k:Int)-1=((k-1:Nat):Int):=by omega);have pp0:=HX2.out.cell p0;have HQ:=gH hq;clear p0 hq
    by_cases he:q=r.name
    · have he':(r.name.toList == q.toList)=true:=by rw [qFp];simpa using he.symm
      have HE:=gH (HS.out.2.1 HC.out (by rw [HQ.out,he]));clear he;go_wp2_with fail;go_quiet (fail);go_wp2_with fail;go_ret;exact ⟨qAa (by rw [HG.out,HE.out]),(hx.trans HX2.out).drewN _⟩
    (have he':(r.name.toList == q.toList)=false:=by rw [qFp];simpa using fun h=>he h.symm);(have HNe:Hid (qHd l k≠some r.name):=by show _≠_;rw [HQ.out];simpa using he);clear he
    cases hl2:Op.bytesLess r.name.toList q.toList
    case true =>
     have HE:=gH (HS.out.2.2.1 HC.out HNe.out (by rw [HQ.out];simp [hl2]));go_wp2_with fail;go_quiet (fail);go_wp2_with fail;go_quiet (fail);go_wp2_with fail;go_ret;exact ⟨qAa (by rw [HG.out,HE.out]),((hx.trans HX2.out).drewN _).drewN _⟩
    case false =>
     have HE:=gH (HS.out.2.2.2 HC.out HNe.out (by rw [HQ.out];simp [hl2]));go_wp2_with fail;go_quiet (fail);go_wp2_with fail;go_quiet (fail);go_wp2_with fail;exact ⟨⟨k+1,by omega,by go_num,(hx.trans HX2.out).drewN _,HE.out⟩,by simp [intOf];omega⟩
  · have hkn:k=n:=by omega
    subst hkn;have HE:=gH (hP.trans (by rw [List.drop_eq_nil_of_le (by have:=HLn.out;omega)];rfl):qEi none l=0);clear hP;go_wp2_with fail;go_ret;exact ⟨qAa (by rw [HG.out,HE.out]),hx⟩
end
section
open Go.RowKit
set_option maxHeartbeats 4000000 in
theorem R10Place_any (r:Reg) (A:Option Addr) (n c:Nat) (lens:List Int) (w:World) (hs:r.name.size≤9223372036854775807) (hl:qMw w A n lens) (hn:n≤9223372036854775807) :
 Calls Tryz.prog 177 #[r.val,.slice A n c] w (qKg r lens w):=by
 (have hU:=fun w=>R10usable_any r w hs);have hlen:=hl.len
 cases hu:r.usable
 · have HP:Hid (r.place lens=1):=by show r.place lens=1;unfold Reg.place;rw [if_pos hu]
   have HU:=gH hU;have Hu:=gH hu;clear hU hu hlen hl;obtain ⟨nm,top,hgt,lft,wid,al,bot⟩:=r;unfold Reg.val at HU ⊢;dsimp only at HU ⊢;go_enter Tryz.func177,Tryz.ntmps177;go_wp2_with fail;refine (HU.out _).mono ?_;rintro e w1 ⟨rfl,hx1⟩;rw [Hu.out];go_wp2_with fail;go_ret2;exact qBi HP.out (by decide) rfl (((Ext.refl w).alloc _).trans hx1)
 · have hb:=qLd hu
   obtain ⟨⟨ht0,ht1⟩,⟨hh0,hh1⟩,⟨hl0,hl1⟩,⟨hw0,hw1⟩⟩:=hb
   by_cases hgt9:r.height<n
   · have HP:Hid (r.place lens=9):=by show r.place lens=9;unfold Reg.place;rw [if_neg (by rw [hu];simp),if_pos (by rw [hlen];exact hgt9)]
     have HU:=gH hU;have Hu:=gH hu;clear hU hu hlen hl;obtain ⟨nm,top,hgt,lft,wid,al,bot⟩:=r;unfold Reg.val at HU ⊢;dsimp only at *;go_enter Tryz.func177,Tryz.ntmps177;go_wp2_with fail;refine (HU.out _).mono ?_;rintro e w1 ⟨rfl,hx1⟩;rw [Hu.out];have hc:=hx1.bcell.1 w.heap.size;simp at hc;go_wp2_with fail;go_ret2;exact qBi HP.out (by decide) rfl (((Ext.refl w).alloc _).trans hx1)
   · have hnh:(n:Int)≤r.height:=by omega
     (have hn15:n≤15:=by omega);(have HP:Hid (r.place lens=r.lensErr lens):=by show r.place lens=_;unfold Reg.place;rw [if_neg (by rw [hu];simp),if_neg (by rw [hlen];omega)]);have HLn:=gH hlen;have HL:=gH hl;have HU:=gH hU;have Hu:=gH hu;clear hU hu hlen hl hgt9;obtain ⟨i0,hi0,hz0,hz1,hz2⟩:=info_parts qCp;obtain ⟨nm,top,hgt,lft,wid,al,bot⟩:=r;unfold Reg.val at HU ⊢;dsimp only at *
     cases bot
     · go_enter Tryz.func177,Tryz.ntmps177
       go_wp2_with fail;refine (HU.out _).mono ?_;rintro e w1 ⟨rfl,hx1⟩;rw [Hu.out];have hc:=hx1.bcell.1 w.heap.size;simp at hc;go_wp2_with fail;clear hc
       go_loopw [6,20] (fun v i wr=>qKh w #[.string nm,.int .i64 top,.int .i64 hgt,.int .i64 lft,.int .i64 wid,.int .u8 al,.bool false] ⟨nm,top,hgt,lft,wid,al,false⟩ top n lens v i wr) (fun _ i _=>n-(intOf i).toNat)
       case atStart=>exact ⟨0,Nat.zero_le _,rfl,hx1,rfl,⟨by simp [Reg.spots],.inl ⟨rfl,rfl⟩⟩⟩
       case round =>
        obtain ⟨k,hk,rfl,hx,hp,hown⟩:=hrel;have HPr:=gH hp;clear hp;have hB:=gH (Blk.ext (Blk.new w _ _) hx);have hxw:Ext w wr:=((Ext.refl w).alloc _).trans hx;(have hc:=fun o=>hB.out.cell o);have hsz:w.heap.size<wr.heap.size:=hB.out.lt;(have hne:w.heap.size≠wr.heap.size:=by omega)
        by_cases hlt:k<n
        · obtain ⟨b,off,x,rfl,hxx,hcell⟩:=(HL.out.ext hxw).cell hlt
          have HX:=gH hxx;have HE:=gH (qGp ⟨nm,top,hgt,lft,wid,al,false⟩ lens k x hxx);have HT:=gH (take_snoc' lens k x hxx);(have hkl:Hid ((lens.take k).length=k):=by show (lens.take k).length=k;rw [List.length_take,HLn.out];omega);clear hxx
          by_cases hneg:x<0
          · go_wp2_with fail
            go_ret2;exact qBi (k:=2) (by rw [HP.out,HPr.out,HE.out,if_pos (by omega)]) (by decide) rfl hxw
          · by_cases hwide:wid<x
            · go_wp2_with fail
              go_ret2;exact qBi (k:=11) (by rw [HP.out,HPr.out,HE.out,if_neg (by omega),if_pos (by omega)]) (by decide) rfl hxw
            · have HS:=gH (qHa ⟨nm,top,hgt,lft,wid,al,false⟩ top (lens.take k) 0 x)
              have hE2:Hid (Reg.lensErr ⟨nm,top,hgt,lft,wid,al,false⟩ lens=Reg.lensErr ⟨nm,top,hgt,lft,wid,al,false⟩ (lens.drop (k+1))):=by
               show _=_
               rw [HPr.out,HE.out,if_neg (by omega),if_neg (by omega)]
              by_cases ha3:(al == 3)=true
              · have hal:al=3:=by simpa using ha3
                have HSp:Hid (Reg.spot ⟨nm,top,hgt,lft,wid,al,false⟩ top (0+(lens.take k).length) x=⟨top+k,lft+(wid-x),x⟩):=by
                 show _=_
                 rw [hkl.out];unfold Reg.spot;simp [hal]
                clear hal;go_wp2_with (at_builtin;refine qAf rfl (.tmp 73) (.tmp 75) 200 rfl qCp Tryz.underlying200 rfl (by decide) ((hown.alloc _).alloc _) (by exact rfl) (wr.heap.size+1) _ (by exact rfl) (by exact Blk.new' (by simp)) (by exact rfl) (by simp [Value.oneCell']) (by omega) (by simp [maxLen];omega) (by simp;omega) ?_;intro v' w' hown' hgr);refine ⟨⟨k+1,by omega,by go_num,((hx.alloc _).alloc _).grown hgr (fun q hq=>by have:=qAp hown q hq;simpa using this),hE2.out,?_⟩,by simp [intOf];omega⟩;rw [HT.out,HS.out,List.flatMap_append,HSp.out];exact hown'
              · have ha3':(al == 3)=false:=by simpa using ha3
                clear ha3;(have hn3:¬ al=3:=by simpa using ha3')
                by_cases ha2:(al == 2)=true
                · have hal:al=2:=by simpa using ha2
                  have HSp:Hid (Reg.spot ⟨nm,top,hgt,lft,wid,al,false⟩ top (0+(lens.take k).length) x=⟨top+k,lft+(wid-x) / 2,x⟩):=by
                   show _=_
                   rw [hkl.out];unfold Reg.spot;simp [hal]
                  clear hal hn3;go_wp2_with (at_builtin;refine qAf rfl (.tmp 73) (.tmp 75) 200 rfl qCp Tryz.underlying200 rfl (by decide) ((hown.alloc _).alloc _) (by exact rfl) (wr.heap.size+1) _ (by exact rfl) (by exact Blk.new' (by simp)) (by exact rfl) (by simp [Value.oneCell']) (by omega) (by simp [maxLen];omega) (by simp;omega) ?_;intro v' w' hown' hgr);refine ⟨⟨k+1,by omega,by go_num,((hx.alloc _).alloc _).grown hgr (fun q hq=>by have:=qAp hown q hq;simpa using this),hE2.out,?_⟩,by simp [intOf];omega⟩;rw [HT.out,HS.out,List.flatMap_append,HSp.out];exact hown'
                · have ha2':(al == 2)=false:=by simpa using ha2
                  clear ha2;(have hn2:¬ al=2:=by simpa using ha2')
                  have HSp:Hid (Reg.spot ⟨nm,top,hgt,lft,wid,al,false⟩ top (0+(lens.take k).length) x=⟨top+k,lft,x⟩):=by
                   show _=_
                   rw [hkl.out];unfold Reg.spot;simp [hn3,hn2]
                  clear hn2 hn3;go_wp2_with (at_builtin;refine qAf rfl (.tmp 73) (.tmp 75) 200 rfl qCp Tryz.underlying200 rfl (by decide) ((hown.alloc _).alloc _) (by exact rfl) (wr.heap.size+1) _ (by exact rfl) (by exact Blk.new' (by simp)) (by exact rfl) (by simp [Value.oneCell']) (by omega) (by simp [maxLen];omega) (by simp;omega) ?_;intro v' w' hown' hgr);refine ⟨⟨k+1,by omega,by go_num,((hx.alloc _).alloc _).grown hgr (fun q hq=>by have:=qAp hown q hq;simpa using this),hE2.out,?_⟩,by simp [intOf];omega⟩;rw [HT.out,HS.out,List.flatMap_append,HSp.out];exact hown'
        · have hkn:k=n:=by omega
          subst hkn;have HD:Hid (lens.drop k=[]):=List.drop_eq_nil_of_le (by rw [HLn.out];omega);have HTk:Hid (lens.take k=lens):=List.take_of_length_le (by rw [HLn.out];omega);have HO:=gH hown;clear hown;go_wp2_with fail;go_ret2;exact qGs (by rw [HP.out,HPr.out,HD.out];rfl) (by rw [HLn.out];rfl) (HTk.out ▸ HO.out) (by rw [HLn.out]) hxw
     · go_enter Tryz.func177,Tryz.ntmps177
       go_wp2_with fail;refine (HU.out _).mono ?_;rintro e w1 ⟨rfl,hx1⟩;rw [Hu.out];have hc:=hx1.bcell.1 w.heap.size;simp at hc;go_wp2_with fail;clear hc
       go_loopw [6,20] (fun v i wr=>qKh w #[.string nm,.int .i64 top,.int .i64 hgt,.int .i64 lft,.int .i64 wid,.int .u8 al,.bool true] ⟨nm,top,hgt,lft,wid,al,true⟩ (top+(hgt-n)) n lens v i wr) (fun _ i _=>n-(intOf i).toNat)
       case atStart=>exact ⟨0,Nat.zero_le _,rfl,hx1,rfl,⟨by simp [Reg.spots],.inl ⟨rfl,rfl⟩⟩⟩
       case round =>
        obtain ⟨k,hk,rfl,hx,hp,hown⟩:=hrel;have HPr:=gH hp;clear hp;have hB:=gH (Blk.ext (Blk.new w _ _) hx);have hxw:Ext w wr:=((Ext.refl w).alloc _).trans hx;(have hc:=fun o=>hB.out.cell o);have hsz:w.heap.size<wr.heap.size:=hB.out.lt;(have hne:w.heap.size≠wr.heap.size:=by omega)
        by_cases hlt:k<n
        · obtain ⟨b,off,x,rfl,hxx,hcell⟩:=(HL.out.ext hxw).cell hlt
          have HX:=gH hxx;have HE:=gH (qGp ⟨nm,top,hgt,lft,wid,al,true⟩ lens k x hxx);have HT:=gH (take_snoc' lens k x hxx);(have hkl:Hid ((lens.take k).length=k):=by show (lens.take k).length=k;rw [List.length_take,HLn.out];omega);clear hxx
          by_cases hneg:x<0
          · go_wp2_with fail
            go_ret2;exact qBi (k:=2) (by rw [HP.out,HPr.out,HE.out,if_pos (by omega)]) (by decide) rfl hxw
          · by_cases hwide:wid<x
            · go_wp2_with fail
              go_ret2;exact qBi (k:=11) (by rw [HP.out,HPr.out,HE.out,if_neg (by omega),if_pos (by omega)]) (by decide) rfl hxw
            · have HS:=gH (qHa ⟨nm,top,hgt,lft,wid,al,true⟩ (top+(hgt-n)) (lens.take k) 0 x)
              have hE2:Hid (Reg.lensErr ⟨nm,top,hgt,lft,wid,al,true⟩ lens=Reg.lensErr ⟨nm,top,hgt,lft,wid,al,true⟩ (lens.drop (k+1))):=by
               show _=_
               rw [HPr.out,HE.out,if_neg (by omega),if_neg (by omega)]
              by_cases ha3:(al == 3)=true
              · have hal:al=3:=by simpa using ha3
                have HSp:Hid (Reg.spot ⟨nm,top,hgt,lft,wid,al,true⟩ (top+(hgt-n)) (0+(lens.take k).length) x=⟨top+k+(hgt-n),lft+(wid-x),x⟩):=by
                 show _=_
                 rw [hkl.out];unfold Reg.spot;simp [hal];omega
                clear hal;go_wp2_with (at_builtin;refine qAf rfl (.tmp 73) (.tmp 75) 200 rfl qCp Tryz.underlying200 rfl (by decide) ((hown.alloc _).alloc _) (by exact rfl) (wr.heap.size+1) _ (by exact rfl) (by exact Blk.new' (by simp)) (by exact rfl) (by simp [Value.oneCell']) (by omega) (by simp [maxLen];omega) (by simp;omega) ?_;intro v' w' hown' hgr);refine ⟨⟨k+1,by omega,by go_num,((hx.alloc _).alloc _).grown hgr (fun q hq=>by have:=qAp hown q hq;simpa using this),hE2.out,?_⟩,by simp [intOf];omega⟩;rw [HT.out,HS.out,List.flatMap_append,HSp.out];exact hown'
              · have ha3':(al == 3)=false:=by simpa using ha3
                clear ha3;(have hn3:¬ al=3:=by simpa using ha3')
                by_cases ha2:(al == 2)=true
                · have hal:al=2:=by simpa using ha2
                  have HSp:Hid (Reg.spot ⟨nm,top,hgt,lft,wid,al,true⟩ (top+(hgt-n)) (0+(lens.take k).length) x=⟨top+k+(hgt-n),lft+(wid-x) / 2,x⟩):=by
                   show _=_
                   rw [hkl.out];unfold Reg.spot;simp [hal];omega
                  clear hal hn3;go_wp2_with (at_builtin;refine qAf rfl (.tmp 73) (.tmp 75) 200 rfl qCp Tryz.underlying200 rfl (by decide) ((hown.alloc _).alloc _) (by exact rfl) (wr.heap.size+1) _ (by exact rfl) (by exact Blk.new' (by simp)) (by exact rfl) (by simp [Value.oneCell']) (by omega) (by simp [maxLen];omega) (by simp;omega) ?_;intro v' w' hown' hgr);refine ⟨⟨k+1,by omega,by go_num,((hx.alloc _).alloc _).grown hgr (fun q hq=>by have:=qAp hown q hq;simpa using this),hE2.out,?_⟩,by simp [intOf];omega⟩;rw [HT.out,HS.out,List.flatMap_append,HSp.out];exact hown'
                · have ha2':(al == 2)=false:=by simpa using ha2
                  clear ha2;(have hn2:¬ al=2:=by simpa using ha2')
                  have HSp:Hid (Reg.spot ⟨nm,top,hgt,lft,wid,al,true⟩ (top+(hgt-n)) (0+(lens.take k).length) x=⟨top+k+(hgt-n),lft,x⟩):=by
                   show _=_
                   rw [hkl.out];unfold Reg.spot;simp [hn3,hn2];omega
                  clear hn2 hn3;go_wp2_with (at_builtin;refine qAf rfl (.tmp 73) (.tmp 75) 200 rfl qCp Tryz.underlying200 rfl (by decide) ((hown.alloc _).alloc _) (by exact rfl) (wr.heap.size+1) _ (by exact rfl) (by exact Blk.new' (by simp)) (by exact rfl) (by simp [Value.oneCell']) (by omega) (by simp [maxLen];omega) (by simp;omega) ?_;intro v' w' hown' hgr);refine ⟨⟨k+1,by omega,by go_num,((hx.alloc _).alloc _).grown hgr (fun q hq=>by have:=qAp hown q hq;simpa using this),hE2.out,?_⟩,by simp [intOf];omega⟩;rw [HT.out,HS.out,List.flatMap_append,HSp.out];exact hown'
        · have hkn:k=n:=by omega
          subst hkn;have HD:Hid (lens.drop k=[]):=List.drop_eq_nil_of_le (by rw [HLn.out];omega);have HTk:Hid (lens.take k=lens):=List.take_of_length_le (by rw [HLn.out];omega);have HO:=gH hown;clear hown;go_wp2_with fail;go_ret2;exact qGs (by rw [HP.out,HPr.out,HD.out];rfl) (by rw [HLn.out];rfl) (HTk.out ▸ HO.out) (by rw [HLn.out]) hxw
end
section
open Go.RowKit
theorem idx_two:∀ (l:List UInt8) (k:Nat),l[k]?=some 32→l[k+1]?=some 32→0≤Lib.index l [32,32]
 | [],k,h,_=>by simp at h
 | b :: l,0,h,h2=>by
  unfold Lib.index
  cases l with
  | nil=>simp at h2
  | cons c l =>
   simp at h h2;subst h h2;rw [if_pos (by rfl)];exact Int.le_refl _
 | b :: l,k+1,h,h2=>by
  have ih:=idx_two l k (by simpa using h) (by simpa using h2);unfold Lib.index
  split
  · exact Int.le_refl _
  · rw [if_neg (by simp;omega)];omega
theorem idx_no:∀ (l:List UInt8),(∀ k:Nat,l[k]?=some 32→l[k+1]?=some 32→False)→Lib.index l [32,32] = -1
 | [],_=>rfl
 | b :: l,h=>by
  (have ih:=idx_no l fun k h1 h2=>h (k+1) (by simpa using h1) (by simpa using h2));unfold Lib.index;rw [if_neg,ih]
  · rfl
  · intro hp
    cases l with
    | nil=>simp [List.isPrefixOf] at hp
    | cons c l =>
     simp only [List.isPrefixOf,Bool.and_true,Bool.and_eq_true,beq_iff_eq] at hp;exact h 0 (by simp [hp.1]) (by simp [hp.2])
theorem at32 (s:ByteArray) (k:Nat) (h:k<s.size):(s.data.toList[k]?=some 32)↔((s[k].toNat:Int) == 32)=true:=by
 have hl:s.data.toList[k]?=some s[k]:=by
  rw [List.getElem?_eq_getElem (by simpa using h)];rfl
 rw [hl]
 constructor
 · intro h1
   have h2:s[k]=32:=Option.some.inj h1;(rw [h2];rfl)
 · intro h1
   have h2:(s[k].toNat:Int)=32:=by simpa using h1
   congr 1
   apply UInt8.toNat_inj.1;(have:s[k].toNat=32:=by omega);(rw [this];rfl)
def NeatRel (s:ByteArray) (w:World) (i:Value) (wr:World):Prop:=∃ k:Nat,1≤k∧k≤s.size∧i = .int .i64 k∧wr=w∧∀ j,j+1<k→s.data.toList[j]?=some 32→s.data.toList[j+1]?=some 32→False
set_option maxHeartbeats 1000000 in
theorem qOe (s:ByteArray) (w:World) (hs:s.size≤9223372036854775807):Calls Tryz.prog 174 #[.string s] w fun e w'=>e = .returned (.bool (!badS s))∧Ext w w':=by
 by_cases e0:s.toList.isEmpty=true
 · have HFb:Hid (badS s=true):=by show _=_;unfold badS;rw [e0];rfl
   go_enter Tryz.func174,Tryz.ntmps174;go_wp2_with fail;go_ret;exact ⟨by rw [HFb.out];rfl,Ext.refl _⟩
 have e0':s.toList.isEmpty=false:=by simpa using e0
 have hpos:0<s.size:=by
  rcases Nat.eq_zero_or_pos s.size with h | h
  · exfalso
    apply e0
    have:s.toList=[]:=by
     rw [ByteArray.toList_eq];exact List.eq_nil_of_length_eq_zero (by simpa using h)
    rw [this];rfl
  · exact h
 clear e0
 by_cases e1:((s[0].toNat:Int) == 32)=true
 · have HFb:Hid (badS s=true):=by show _=_;unfold badS;rw [decide_eq_true ((head_eq s hpos).2 e1)];simp
   go_enter Tryz.func174,Tryz.ntmps174;go_wp2_with fail;go_ret;exact ⟨by rw [HFb.out];rfl,Ext.refl _⟩
 (have e1':((s[0].toNat:Int) == 32)=false:=by simpa using e1);have hd1:=gH (decide_eq_false (p:=s.data.toList.head?=some 32) (fun h=>e1 ((head_eq s hpos).1 h)));clear e1;(have hz0:(0:Int)≤(s.size:Int)-1:=by omega);(have hz1:(s.size:Int)-1<(s.size:Int):=by omega)
 by_cases e2:((s[s.size-1].toNat:Int) == 32)=true
 · have HFb:Hid (badS s=true):=by show _=_;unfold badS;rw [decide_eq_true ((last_eq s hpos).2 e2)];simp
   go_enter Tryz.func174,Tryz.ntmps174;go_wp2_with fail;go_ret;exact ⟨by rw [HFb.out];rfl,Ext.refl _⟩
 (have e2':((s[s.size-1].toNat:Int) == 32)=false:=by simpa using e2);have hd2:=gH (decide_eq_false (p:=s.data.toList.getLast?=some 32) (fun h=>e2 ((last_eq s hpos).1 h)));clear e2;(have HFb:Hid (badS s=Lib.contains s.data.toList [32,32]):=by show _=_;unfold badS;rw [e0',hd1.out,hd2.out];simp);go_enter Tryz.func174,Tryz.ntmps174;go_wp2_with fail
 go_loopw [3] (fun i wr=>NeatRel s w i wr) (fun i _=>s.size-(intOf i).toNat)
 case atStart=>exact ⟨1,Nat.le_refl _,hpos,rfl,rfl,fun j h=>by omega⟩
 case round =>
  obtain ⟨k,hk1,hk,rfl,rfl,hno⟩:=hrel;have HNo:=gH hno;clear hno e1' e2'
  by_cases hlt:k<s.size
  · have hk0:(0:Int)≤(k:Int)-1:=by omega
    (have hk2:(k:Int)-1<(s.size:Int):=by omega);(have hk3:((k:Int)-1).toNat=k-1:=by omega);(have hk4:k-1<s.size:=by omega)
    cases b1:((s[k].toNat:Int) == 32)
    · have HN:Hid (∀ j,j+1<k+1→s.data.toList[j]?=some 32→s.data.toList[j+1]?=some 32→False):=fun j h h1 h2=>by
       by_cases hj:j+1=k
       · rw [hj,at32 s k hlt,b1] at h2;cases h2
       · exact HNo.out j (by omega) h1 h2
      go_wp2_with fail;exact ⟨⟨k+1,by omega,by omega,by go_num,rfl,HN.out⟩,by simp [intOf];omega⟩
    · cases b2:((s[k-1].toNat:Int) == 32)
      · have HN:Hid (∀ j,j+1<k+1→s.data.toList[j]?=some 32→s.data.toList[j+1]?=some 32→False):=fun j h h1 h2=>by
         by_cases hj:j+1=k
         · obtain rfl:j=k-1:=by omega
           rw [at32 s (k-1) hk4,b2] at h1;cases h1
         · exact HNo.out j (by omega) h1 h2
        go_wp2_with fail;exact ⟨⟨k+1,by omega,by omega,by go_num,rfl,HN.out⟩,by simp [intOf];omega⟩
      · have HC:Hid (Lib.contains s.data.toList [32,32]=true):=by
         refine decide_eq_true (idx_two _ (k-1) ((at32 s (k-1) hk4).2 b2) ?_);rw [show k-1+1=k by omega];exact (at32 s k hlt).2 b1
        go_wp2_with fail;go_ret;exact ⟨by rw [HFb.out,HC.out];rfl,Ext.refl _⟩
  · have HC:Hid (Lib.contains s.data.toList [32,32]=false):=by
     refine decide_eq_false ?_;rw [idx_no _ fun j h1 h2=>HNo.out j (by have:=(List.getElem?_eq_some_iff.1 h2).1;simp at this;omega) h1 h2];decide
    go_wp2_with fail;go_ret;exact ⟨by rw [HFb.out,HC.out];rfl,Ext.refl _⟩
end
section
open Go.RowKit
theorem info_rune:(Tryz.prog.info? 21).map (fun i=>(i.zero,i.size,i.bytes))=some (some (.int .i32 0),1,4):=by kernel_rfl
theorem qKn (s:ByteArray):∀ f pos,Lib.runeCountFrom s f pos=(qGw s f pos).length
 | 0,_=>rfl
 | f+1,pos=>by
  unfold Lib.runeCountFrom qGw
  split
  · rw [qKn s f,List.length_cons];omega
  · rfl
theorem runes_count (s:ByteArray):Lib.runeCount s=(qGv s 0).length:=qKn s s.size 0
theorem own_iterAt {w:World} {base:Nat} {e:TypeId} {size:Nat} {v:Value} {n:Nat} {xs:List Value} (h:w.ownsRow base e size v n xs) {k:Nat} (hk:k<base) (s:ByteArray) (p:Nat):(w.iterAt k s p).ownsRow base e size v n xs:=by
 obtain ⟨h1,h2⟩:=h;refine ⟨h1,?_⟩
 rcases h2 with h2 | ⟨g,cap,cur,a,b,c,d⟩
 · exact .inl h2
 · exact .inr ⟨g,cap,cur,a,b,by rw [Lib.iterAt_other _ _ _ _ _ (by omega)];exact c,d⟩
def RunesRel (s:ByteArray) (w:World) (g:Nat) (v:Value) (wr:World):Prop :=
 ∃ (pos:Nat) (l:List Int),wr.heap[g]?=some (.stringIter s pos)∧Ext w wr∧qGv s 0=l++qGv s pos∧l.length≤pos∧wr.ownsRow (g+1) 21 1 v l.length (l.flatMap fun x=>[Value.int .i32 x])
def RunesAt (w:World) (A:Option Addr) (n:Nat) (l:List Int):Prop:=Sl w 1 (Cells fun x=>[.int .i32 x]) A n l
def RunesPost (s:ByteArray) (w:World) (en:Ending) (w':World):Prop:=∃ A n c,en = .returned (.slice A n c)∧RunesAt w' A n (qGv s 0)∧n≤c∧Ext w w'
set_option maxHeartbeats 1000000 in
theorem R8runes_any (s:ByteArray) (w:World) (hs:s.size≤35184372088831) :
 Calls Tryz.prog 263 #[.string s] w (RunesPost s w):=by
 have h1:=Ext.refl w;go_enter Tryz.func263,Tryz.ntmps263;go_wp2_with fail
 go_loopw [3] (fun v wr=>RunesRel s w w.heap.size v wr) (fun _ wr=>s.size-wr.iterPos w.heap.size)
 case atStart=>exact ⟨0,[],w.iter_heap s 0,h1.iter s 0,rfl,Nat.le_refl _,⟨rfl,.inl ⟨rfl,rfl⟩⟩⟩
 case round =>
  obtain ⟨pos,l,hk,hx,hp,hle,hown⟩:=hrel;have hpos0:=gH (iterPos_of hk);have HP:=gH hp;clear hp
  by_cases hlt:pos<s.size
  · have hn:=fun ty=>Lib.run_next_any_at (P:=Tryz.prog) wr _ s pos ty hk hlt
    have hstep:=gH (qFs s pos hlt);have hw:=qIf s pos hlt;have hk2:=Lib.iterAt_heap wr _ s pos (pos+(Utf8.decode s pos).2) hk;have hx2:=hx.iterAt (Nat.le_refl _) s (pos+(Utf8.decode s pos).2);have hown2:=own_iterAt hown (k:=w.heap.size) (by omega) s (pos+(Utf8.decode s pos).2);obtain ⟨W1,hW1⟩:∃ W1,W1=wr.iterAt w.heap.size s (pos+(Utf8.decode s pos).2):=⟨_,rfl⟩;rw [← hW1] at hn hk2 hx2 hown2;have hlt9:w.heap.size<W1.heap.size:=(Array.getElem?_eq_some_iff.1 hk2).1;clear hW1 hk hown hx;have HK:=gH hk2;clear hk2;go_wp2_with (at_builtin;refine qAf rfl (.tmp 11) (.tmp 13) 300 rfl info_rune Tryz.underlying300 rfl (by decide) (hown2.alloc _) (by exact rfl) W1.heap.size _ (by exact rfl) (by exact Blk.new' rfl) (by exact rfl) (by simp [Value.oneCell']) (by omega) (by simp [maxLen];omega) (by simp;omega) ?_;intro v' w3 hown3 hgr)
    have hk3:w3.heap[w.heap.size]?=some (.stringIter s (pos+(Utf8.decode s pos).2)):=by
     rw [hgr.block w.heap.size (by simp;omega) (fun h=>by have:=qAp hown2 _ h.symm;omega),Below.heap_alloc _ _ _ hlt9];exact HK.out
    refine ⟨⟨pos+(Utf8.decode s pos).2,l++[((Utf8.decode s pos).1:Int)],hk3,(hx2.alloc _).grown hgr (fun q hq=>by have:=qAp hown2 q hq;omega),?_,?_,?_⟩,?_⟩
    · rw [HP.out,hstep.out];simp
    · rw [List.length_append,List.length_singleton];omega
    · rw [List.length_append,List.flatMap_append];exact hown3
    · rw [iterPos_of hk3,hpos0.out];omega
  · have hn:=fun ty=>Lib.run_next_end_at (P:=Tryz.prog) wr _ s pos ty hk hlt
    (have hl:qGv s 0=l:=by rw [HP.out,qIi s pos hlt];simp);obtain ⟨A,c,rfl,hc,_,hsl,_⟩:=qBg (f:=fun x:Int=>[Value.int .i32 x]) (size:=1) (fun _=>rfl) rfl hown;have HL:=gH hl;have HX:=gH hx;clear hl hx hown HP;go_wp2_with fail;go_ret;exact ⟨A,l.length,c,rfl,by rw [HL.out];exact hsl,hc,HX.out⟩
set_option maxHeartbeats 400000 in
theorem R8Len_any (s:ByteArray) (w:World) (hs:s.size≤35184372088831) :
 Calls Tryz.prog 228 #[.string s] w fun e w'=>e = .returned (.int .i64 (clen s))∧Ext w w':=by
 cases hv:vld s
 · have HV:=gH hv
   clear hv;go_enter Tryz.func228,Tryz.ntmps228;go_wp2_with fail;refine (qEz s _ (by omega)).mono ?_;rintro e w1 ⟨rfl,hx1⟩;rw [HV.out];go_wp2_with fail;go_ret;exact ⟨qAa (by unfold clen;rw [HV.out];rfl),hx1⟩
 · have HV:=gH hv
   clear hv;go_enter Tryz.func228,Tryz.ntmps228;go_wp2_with fail;refine (qEz s _ (by omega)).mono ?_;rintro e w1 ⟨rfl,hx1⟩;rw [HV.out];go_wp2_with fail;refine (R8runes_any s _ hs).mono ?_;rintro e w2 ⟨A,n,c,rfl,hr,hc,hx2⟩;go_wp2_with fail;go_ret;exact ⟨qAa (by unfold clen;rw [HV.out,runes_count,← hr.len];rfl),hx1.trans hx2⟩
end
section
open Go.RowKit
theorem qOj (c:Int) (i u:Bool) (w:World):Calls Tryz.prog 227 #[.agg #[.int .u8 c,.bool i,.bool u]] w fun e w'=>e = .returned (.bool (decide (c≤6)))∧Ext w w':=by
 go_enter Tryz.func227,Tryz.ntmps227;go_wp2;go_ret;exact ⟨rfl,(Ext.refl w).alloc _⟩
set_option maxHeartbeats 1000000 in
theorem qOz (A:Option Addr) (n c:Nat) (l:Row) (w:World) (hE:Env w) (hl:qCt w A n l) (hb:qAk l≤35184372088831) (hn:n≤4611686018427387904) :
 Calls Tryz.prog 176 #[.agg #[.slice A n c]] w fun e w'=>e = .returned (.int .i64 (qAq l))∧Ext w w':=by
 have HL:=gH hl;have HLn:=gH hl.len;clear hl;have HEn:=gH hE;clear hE;go_enter Tryz.func176,Tryz.ntmps176;go_wp2_with fail
 go_loopw [3,10] (fun v i wr=>LenRel w n l v i wr) (fun _ i _=>n-(intOf i).toNat)
 case atStart =>
  refine ⟨0,0,Nat.zero_le _,rfl,rfl,by omega,by simp,(Ext.refl w).alloc _,?_⟩;have:=qLk l;simp only [List.drop_zero]
  split<;>omega
 case round =>
  obtain ⟨k,s,hk,rfl,rfl,hs0,hs1,hx,hp⟩:=hrel;have HP:=gH hp;clear hp
  by_cases hlt:k<n
  · obtain ⟨b,off,r,rfl,hr,hC⟩:=(HL.out.ext hx).at_ hlt
    obtain ⟨c0,c1,c2,c3,c4⟩:=hC;have HD:=gH (qDe l k r hr);have hbt:=qFk l k r hr;have hble:=qEb l (k+1);(have hsz:(r.text.size:Int)≤35184372088831:=by omega);(have hs2:s+r.text.size≤4611686018427387904:=by omega);(have hs3:Hid (s+(r.text.size:Int)≤(qAk (l.take (k+1)):Int)):=by show s+(r.text.size:Int)≤_;omega);clear hbt hble hr;have hcl:=clen_le r.text;have hcg:=clen_ge r.text;(have hcl2:s+clen r.text≤4611686018427387904:=by omega);go_wp2_with fail;refine (R8Len_any r.text _ (by omega)).mono ?_;rintro e w2 ⟨rfl,hx2⟩
    by_cases hneg:clen r.text<0
    · go_wp2_with fail
      go_ret;refine ⟨qAa ?_,(hx.alloc _).trans hx2⟩;rw [HP.out,HD.out,qAq,if_pos (by omega)]
    · go_wp2_with fail
      refine ⟨⟨k+1,s+clen r.text,by omega,by go_num,rfl,by omega,?_,(hx.alloc _).trans hx2,?_⟩,by simp [intOf];omega⟩
      · have:=hs3.out;omega
      · rw [HP.out,HD.out]
        exact qPd s r (l.drop (k+1)) (by omega)
  · have HD:Hid (l.drop k=[]):=List.drop_eq_nil_of_le (by rw [HLn.out];omega)
    go_wp2_with fail;go_ret;exact ⟨qAa (by rw [HP.out,HD.out];simp [qAq]),hx⟩
def RPlainRel (w:World) (n:Nat) (l:Row) (v i:Value) (wr:World):Prop:=∃ k:Nat,k≤n∧i = .int .i64 k∧v = .string ⟨(qDt (l.take k)).toArray⟩∧Ext w wr
theorem ba_append (x:List UInt8) (s:ByteArray):(⟨x.toArray⟩:ByteArray)++s=⟨(x++s.data.toList).toArray⟩:=by
 apply ByteArray.ext;simp [ByteArray.data_append]
set_option maxHeartbeats 1000000 in
theorem R9Plain_any (A:Option Addr) (n c:Nat) (l:Row) (w:World) (hl:qCt w A n l) (hb:qAk l≤4611686018427387904) (hn:n≤4611686018427387904) :
 Calls Tryz.prog 175 #[.agg #[.slice A n c]] w fun e w'=>e = .returned (.string ⟨(qDt l).toArray⟩)∧Ext w w':=by
 have HL:=gH hl;have HLn:=gH hl.len;clear hl;go_enter Tryz.func175,Tryz.ntmps175;go_wp2_with fail
 go_loopw [3,9] (fun v i wr=>RPlainRel w n l v i wr) (fun _ i _=>n-(intOf i).toNat)
 case atStart=>exact ⟨0,Nat.zero_le _,rfl,rfl,(Ext.refl w).alloc _⟩
 case round =>
  obtain ⟨k,hk,rfl,rfl,hx⟩:=hrel
  by_cases hlt:k<n
  · obtain ⟨b,off,r,rfl,hr,hC⟩:=(HL.out.ext hx).at_ hlt
    obtain ⟨c0,c1,c2,c3,c4⟩:=hC;have HT:=gH (qNo l k r hr);have hbt:=qFk l k r hr;have hble:=qEb l (k+1);have hlen:=qFu (l.take k);clear hr;obtain ⟨xs,hxs⟩:∃ xs,xs=qDt (l.take k):=⟨_,rfl⟩;rw [← hxs];rw [← hxs] at HT hlen;(have hcat:¬ 9223372036854775807<xs.length+r.text.size:=by omega);clear hxs hbt hble hlen;go_wp2_with fail;refine ⟨?_,by simp [intOf];omega⟩;refine ⟨k+1,by omega,by go_num,?_,hx.alloc _⟩;rw [HT.out,← ba_append]
  · have HT:Hid (l.take k=l):=List.take_of_length_le (by rw [HLn.out];omega)
    go_wp2_with fail;go_ret;exact ⟨by rw [HT.out];rfl,hx⟩
end
end Go.Proofs.YtablhmobekmflaaGreatDoor