/- Texts laid together. -/
import Derived.Test.YtneffpbodfjceaaGreatDoorTa05
set_option linter.unusedVariables false
set_option linter.unusedSimpArgs false
set_option maxRecDepth 100000
set_option maxHeartbeats 16000000
namespace Go.Proofs.YtneffpbodfjceaaGreatDoor
section
open Go.RowKit Go.Maps
theorem qCw (w:World):(zeroValue 3).run Tryz.prog w = .ok (.int .i64 0) w:=by kernel_rfl
def Com.cells (c:Com):Array Value:=#[.int .i64 c.id,.int .i64 c.ev,.int .i64 c.fr,.int .i64 c.til,.string c.author,.string c.text,.bool c.done,.bool c.lost]
def qRn (l:List Ev):Prop:=∀ e∈l,qFi e/\e.bytes<=1099511627776
theorem zMh {c:Com} {last:Int} {evs:List Ev} (h:c.ev<1\/last<c.ev):c.anchorErr last evs=2:=by unfold Com.anchorErr;rw [if_pos h]
theorem qZl {c:Com} {last:Int} {evs:List Ev} (h:¬ (c.ev<1\/last<c.ev)) (h1:c.lost=true):c.anchorErr last evs=if c.fr≠0\/c.til≠0 then 2 else 0:=by unfold Com.anchorErr;rw [if_neg h,if_pos h1]
theorem qZm {c:Com} {last:Int} {evs:List Ev} (h:¬ (c.ev<1\/last<c.ev)) (h1:c.lost=false) (h2:qBd evs c.ev=none):c.anchorErr last evs=6:=by unfold Com.anchorErr;rw [if_neg h,if_neg (by simp [h1]),h2]
theorem qZn {c:Com} {last:Int} {evs:List Ev} {k:Nat} {e:Ev} (h:¬ (c.ev<1\/last<c.ev)) (h1:c.lost=false) (h2:qBd evs c.ev=some k) (h3:evs[k]?=some e):c.anchorErr last evs=if c.fr<0\/c.til<=c.fr\/e.len<c.til then 2 else 0:=by
 unfold Com.anchorErr;rw [if_neg h,if_neg (by simp [h1]),h2];dsimp only;rw [h3];simp
theorem qSl {l:List Ev} {id:Int} {k:Nat} (h:qBd l id=some k):k<l.length:=by
 unfold qBd at h;exact (List.findIdx?_eq_some_iff_getElem.1 h).1
theorem qMy:(Tryz.prog.info? 54).map (·.size)=some 7:=by kernel_rfl
theorem qFz {o:Oper} {a:Act} {w:World} {K:Act->World->Prop} {Q:Exit->Act->World->Prop} {s s':Nat} {b off n c k:Nat} (ho:o.op = .indexAddr 24 (.tmp s) (.tmp s')) (hx:a.eval (.tmp s) = .slice (some ⟨b,off,none⟩) n c) (hy:a.eval (.tmp s') = .int .i64 k) (hk:k<n) (h:K (a.put o.dst (.pointer (some ⟨b,off+k*7,none⟩))) w):o.wp Tryz.prog a w K Q:=by
 obtain ⟨dst,op,ty,pos,after,guard⟩:=o;simp only at ho;subst ho;(have fx:a.tmps[s]?.getD undef = .slice (some ⟨b,off,none⟩) n c:=by simpa [Act.eval] using hx);(have fy:a.tmps[s']?.getD undef = .int .i64 k:=by simpa [Act.eval] using hy);clear hx hy;go_simp;exact h
theorem qFh {o:Oper} {a:Act} {w:World} {K:Act->World->Prop} {Q:Exit->Act->World->Prop} {s:Nat} (ho:o.op = .load 54 (.tmp s)) (g off:Nat) (e:Ev) (A:Option Addr) (n c:Nat) (hx:a.eval (.tmp s) = .pointer (some ⟨g,off,none⟩))
 (hC:∀ j u,(e.cells A n c).toList[j]?=some u->w.cell? ⟨g,off+j,none⟩=some u) (h:K (a.put o.dst (.agg (e.cells A n c))) w):o.wp Tryz.prog a w K Q:=by
 obtain ⟨dst,op,ty,pos,after,guard⟩:=o;simp only at ho;subst ho;(have fx:a.tmps[s]?.getD undef = .pointer (some ⟨g,off,none⟩):=by simpa [Act.eval] using hx);(have c0:w.cell? ⟨g,off,none⟩=some (.int .i64 e.id):=by simpa using hC 0 _ rfl);have c1:=hC 1 _ rfl;have c2:=hC 2 _ rfl;have c3:=hC 3 _ rfl;have c4:=hC 4 _ rfl;have c5:=hC 5 _ rfl;have c6:=hC 6 _ rfl;unfold Ev.cells at h;clear hC hx;go_simp;exact h
theorem qUk (d:Doc) (h:DocH) (c:Com) (B:Nat) (w:World) (hE:Env w) (hat:qCx w d h) (hm:MapE w 3 B d.evs) (hsm:qRn d.evs) (hn:h.en<=1000000) (hce:IW c.ev) :
 Calls Tryz.prog 186 #[.agg (d.cells h),.agg c.cells,.map (some B)] w fun en w'=>en = .returned (.int .i64 (c.anchorErr d.last d.evs))/\Ext w w':=by
 have HX:=gH (((Ext.refl w).alloc (.cells (d.cells h) 27)).alloc (.cells c.cells 95));have HB0:=gH ((Blk.new w 27 (d.cells h)).alloc (.cells c.cells 95));have HB1:=gH (Blk.new' (w:=w.alloc (.cells (d.cells h) 27)) (g:=w.heap.size+1) (t:=95) (cs:=c.cells) (by simp));have HEv:=gH hat.evs;have HEl:=gH hat.evs.len;have HSm:=gH hsm;have HEn:=gH hE;have HM:=gH (hm.ext HX.out);have HKey:=gH hce.key;have HCe:=gH hce;have H1:=gH (@zMh c d.last d.evs);have H2:=gH (@qZl c d.last d.evs);have H3:=gH (@qZm c d.last d.evs);have H4:=gH (fun k e=>@qZn c d.last d.evs k e);clear hat hsm hm hE hce;unfold Doc.cells Com.cells at *;obtain ⟨hra,hrn,hrc,hea,hen,hec,hca,hcn,hcc⟩:=h;obtain ⟨cid,cev,cfr,ctil,cau,ctx,cdn,clo⟩:=c;dsimp only at *;go_enter Tryz.func186,Tryz.ntmps186;(have hcd:=fun o=>HB0.out.cell o);(have hkc:=fun o=>HB1.out.cell o)
 by_cases he1:cev<1
 . go_wp2_with fail
   go_ret;exact ⟨qAf (H1.out (.inl he1)).symm,HX.out⟩
 by_cases he2:d.last<cev
 . go_wp2_with fail
   go_ret;exact ⟨qAf (H1.out (.inr he2)).symm,HX.out⟩
 have HNo:Hid (¬ (cev<1\/d.last<cev)):=by show ¬ _;omega
 cases clo
 case true =>
  have HF:=gH (H2.out HNo.out rfl)
  by_cases hf0:cfr=0
  . by_cases ht0:ctil=0
    . have h1:(cfr != 0)=false:=by simpa using hf0
      (have h2:(ctil != 0)=false:=by simpa using ht0);have HG:=gH (HF.out.trans (if_neg (by omega)));clear hf0 ht0;go_wp2_with fail;go_ret;exact ⟨qAf HG.out.symm,HX.out⟩
    . have h1:(cfr != 0)=false:=by simpa using hf0
      (have h2:(ctil != 0)=true:=by simpa using ht0);have HG:=gH (HF.out.trans (if_pos (.inr ht0)));clear hf0 ht0;go_wp2_with fail;go_ret;exact ⟨qAf HG.out.symm,HX.out⟩
  . have h1:(cfr != 0)=true:=by simpa using hf0
    have HG:=gH (HF.out.trans (if_pos (.inl hf0)));clear hf0;go_wp2_with fail;go_ret;exact ⟨qAf HG.out.symm,HX.out⟩
 case false =>
  obtain ⟨nm,Dm,hown,hnm,hmap,hhas,hatk⟩:=HM.out;have HOw:=gH hown;have HHas:=gH (hhas cev HCe.out);have HAtk:=gH (fun k=>hatk cev k HCe.out);clear hown hmap hhas hatk
  cases hf:qBd d.evs cev with
  | none =>
   have HG:=gH (H3.out HNo.out rfl hf);(have hh:Maps.has Dm (.int .i64 cev)=false:=by rw [HHas.out,hf];rfl);clear hf;go_wp2_with (at_lookup;refine wpList_lookup_own_ok_int _ rfl _ _ 191 rfl 2 3 .i64 qHy Tryz.underlying191 Tryz.underlying3 (qCw _) B nm Dm rfl (by exact HOw.out) _ _ rfl (by exact HKey.out) ?_;intro c0 hat hwc;have HAt0:=gH hat;clear hat hwc);go_ret;exact ⟨qAf HG.out.symm,HX.out⟩
  | some k =>
   have hkl:=qSl hf;rw [HEl.out] at hkl;obtain ⟨b,off,e,rfl,hev,A',n',c',hC,hEv⟩:=(HEv.out.ext HX.out).at_ hkl;have HG:=gH (H4.out k e HNo.out rfl hf hev);have HC:=gH hC;have HLen:=gH (fun w' (hx:Ext ((w.alloc (.cells #[.string d.title,.string d.lang,.int .u8 d.rate,.bool d.drop,.int .i64 d.last,.slice hra hrn hrc,.slice (some ⟨b,off,none⟩) hen hec,.slice hca hcn hcc] 27)).alloc (.cells #[.int .i64 cid,.int .i64 cev,.int .i64 cfr,.int .i64 ctil,.string cau,.string ctx,.bool cdn,.bool false] 95)) w')=>qZi e A' n' c' w' (HEn.out.ext (HX.out.trans hx)) (hEv.ext hx) (HSm.out e (List.mem_of_getElem? hev)).1.2.2 (HSm.out e (List.mem_of_getElem? hev)).2);(have hh:Maps.has Dm (.int .i64 cev)=true:=by rw [HHas.out,hf];rfl);have HK0:=gH (HAtk.out k hf);clear hf hev hC hEv;go_wp2_with (at_lookup;refine wpList_lookup_own_ok_int _ rfl _ _ 191 rfl 2 3 .i64 qHy Tryz.underlying191 Tryz.underlying3 (qCw _) B nm Dm rfl (by exact HOw.out) _ _ rfl (by exact HKey.out) ?_;intro c0 hat hwc;have HAt0:=gH hat;clear hat hwc)
   obtain rfl:c0=k:=by
    have h1:=HAt0.out;rw [HK0.out] at h1;simpa using h1.symm
   clear HAt0
   by_cases hf0:cfr<0
   . have HGG:=gH (HG.out.trans (if_pos (.inl hf0)))
     refine qCl [.pointer (some ⟨w.heap.size+1,2,none⟩),.int .i64 cfr,.bool true,.bool true,undef,undef,undef,undef,undef,.bool true,.bool true,undef,undef,undef,undef,undef,undef,undef,undef,undef,.bool true] [(38,.pointer (some ⟨w.heap.size+1,2,none⟩)),(39,.int .i64 cfr),(40,.bool true),(41,.bool true),(42,undef),(43,undef),(44,undef),(45,undef),(46,undef),(47,.bool true),(48,.bool true),(49,undef),(50,undef),(51,undef),(52,undef),(53,undef),(54,undef),(55,undef),(56,undef),(57,undef),(58,.bool true)] (by kernel_rfl) (by kernel_rfl) (by kernel_rfl) rfl rfl ?_ ?_
     . intro i o ho a w' K' hx hn hd hk
       match i,ho with
       | 0,ho =>
        simp only [gA,gB,gC,gD] at ho;subst ho;refine qAm rfl ?_;have ex4:=((hn 4 rfl).trans (show _=Value.pointer (some ⟨w.heap.size+1,0,none⟩) from rfl));simp only [Act.eval] at ex4;have HK:=gH (hk (.pointer (some ⟨w.heap.size+1,2,none⟩)) rfl w' (Ext.refl _));clear hx hn hd hk;go_simp;exact HK.out
       | 1,ho =>
        simp only [gA,gB,gC,gD] at ho;subst ho;refine qAm rfl ?_;have ex38:=(qAg (hd 0 38 (.pointer (some ⟨w.heap.size+1,2,none⟩)) rfl rfl rfl));have hcl:w'.cell? ⟨w.heap.size+1,2,none⟩=some (.int .i64 cfr):=(HB1.out.ext hx).cell 2;simp only [Act.eval] at ex38;have HK:=gH (hk (.int .i64 cfr) rfl w' (Ext.refl _));clear hx hn hd hk;go_simp;exact HK.out
       | 2,ho =>
        simp only [gA,gB,gC,gD] at ho;subst ho;refine qAm rfl ?_;exact qFr rfl (qAg (hd 1 39 (.int .i64 cfr) rfl rfl rfl)) rfl (by first | (go_simp;done) | (go_simp;simp;omega) | (simp;omega)) (hk _ rfl w' (Ext.refl _))
       | 3,ho =>
        simp only [gA,gB,gC,gD] at ho;subst ho;refine qAm rfl ?_;exact qCs _ _ rfl (qAg (hd 2 40 (.bool true) rfl rfl rfl)) (hk _ rfl w' (Ext.refl _))
       | 4,ho | 5,ho | 6,ho | 7,ho | 8,ho =>
        simp only [gA,gB,gC,gD] at ho;subst ho;refine qTo rfl rfl (hd 3 41 (.bool true) rfl rfl rfl) rfl ?_;exact hk undef rfl w' (Ext.refl _)
       | 9,ho =>
        simp only [gA,gB,gC,gD] at ho;subst ho;refine qAm rfl ?_;exact qFt _ _ _ true _ rfl (qAg (hd 3 41 (.bool true) rfl rfl rfl)) (by exact rfl) (hk _ rfl w' (Ext.refl _))
       | 10,ho =>
        simp only [gA,gB,gC,gD] at ho;subst ho;refine qAm rfl ?_;exact qCs _ _ rfl (qAg (hd 9 47 (.bool true) rfl rfl rfl)) (hk _ rfl w' (Ext.refl _))
       | 11,ho | 12,ho | 13,ho | 14,ho | 15,ho | 16,ho | 17,ho | 18,ho | 19,ho =>
        simp only [gA,gB,gC,gD] at ho;subst ho;refine qTo rfl rfl (hd 10 48 (.bool true) rfl rfl rfl) rfl ?_;exact hk undef rfl w' (Ext.refl _)
       | 20,ho =>
        simp only [gA,gB,gC,gD] at ho;subst ho;refine qAm rfl ?_;exact qFt _ _ _ true _ rfl (qAg (hd 10 48 (.bool true) rfl rfl rfl)) (by exact rfl) (hk _ rfl w' (Ext.refl _))
       | i+21,ho=>simp at ho
     intro w9 hx9;simp only [Act.put,List.foldl_cons,List.foldl_nil,List.setIfInBounds_toArray,List.set_cons_zero,List.set_cons_succ];go_wp2_with fail;go_ret;exact ⟨qAf HGG.out.symm,HX.out.trans hx9⟩
   by_cases hf1:ctil<=cfr
   . have HGG:=gH (HG.out.trans (if_pos (.inr (.inl hf1))))
     refine qCl [.pointer (some ⟨w.heap.size+1,2,none⟩),.int .i64 cfr,.bool false,.bool false,.pointer (some ⟨w.heap.size+1,2,none⟩),.int .i64 cfr,.pointer (some ⟨w.heap.size+1,3,none⟩),.int .i64 ctil,.bool true,.bool true,.bool true,undef,undef,undef,undef,undef,undef,undef,undef,undef,.bool true] [(38,.pointer (some ⟨w.heap.size+1,2,none⟩)),(39,.int .i64 cfr),(40,.bool false),(41,.bool false),(42,.pointer (some ⟨w.heap.size+1,2,none⟩)),(43,.int .i64 cfr),(44,.pointer (some ⟨w.heap.size+1,3,none⟩)),(45,.int .i64 ctil),(46,.bool true),(47,.bool true),(48,.bool true),(49,undef),(50,undef),(51,undef),(52,undef),(53,undef),(54,undef),(55,undef),(56,undef),(57,undef),(58,.bool true)] (by kernel_rfl) (by kernel_rfl) (by kernel_rfl) rfl rfl ?_ ?_
     . intro i o ho a w' K' hx hn hd hk
       match i,ho with
       | 0,ho =>
        simp only [gA,gB,gC,gD] at ho;subst ho;refine qAm rfl ?_;have ex4:=((hn 4 rfl).trans (show _=Value.pointer (some ⟨w.heap.size+1,0,none⟩) from rfl));simp only [Act.eval] at ex4;have HK:=gH (hk (.pointer (some ⟨w.heap.size+1,2,none⟩)) rfl w' (Ext.refl _));clear hx hn hd hk;go_simp;exact HK.out
       | 1,ho =>
        simp only [gA,gB,gC,gD] at ho;subst ho;refine qAm rfl ?_;have ex38:=(qAg (hd 0 38 (.pointer (some ⟨w.heap.size+1,2,none⟩)) rfl rfl rfl));have hcl:w'.cell? ⟨w.heap.size+1,2,none⟩=some (.int .i64 cfr):=(HB1.out.ext hx).cell 2;simp only [Act.eval] at ex38;have HK:=gH (hk (.int .i64 cfr) rfl w' (Ext.refl _));clear hx hn hd hk;go_simp;exact HK.out
       | 2,ho =>
        simp only [gA,gB,gC,gD] at ho;subst ho;refine qAm rfl ?_;exact qFr rfl (qAg (hd 1 39 (.int .i64 cfr) rfl rfl rfl)) rfl (by first | (go_simp;done) | (go_simp;simp;omega) | (simp;omega)) (hk _ rfl w' (Ext.refl _))
       | 3,ho =>
        simp only [gA,gB,gC,gD] at ho;subst ho;refine qAm rfl ?_;exact qCs _ _ rfl (qAg (hd 2 40 (.bool false) rfl rfl rfl)) (hk _ rfl w' (Ext.refl _))
       | 4,ho =>
        simp only [gA,gB,gC,gD] at ho;subst ho;refine qAk rfl rfl (hd 3 41 (.bool false) rfl rfl rfl) rfl ?_;have ex4:=((hn 4 rfl).trans (show _=Value.pointer (some ⟨w.heap.size+1,0,none⟩) from rfl));simp only [Act.eval] at ex4;have HK:=gH (hk (.pointer (some ⟨w.heap.size+1,2,none⟩)) rfl w' (Ext.refl _));clear hx hn hd hk;go_simp;exact HK.out
       | 5,ho =>
        simp only [gA,gB,gC,gD] at ho;subst ho;refine qAk rfl rfl (hd 3 41 (.bool false) rfl rfl rfl) rfl ?_;have ex42:=(qAg (hd 4 42 (.pointer (some ⟨w.heap.size+1,2,none⟩)) rfl rfl rfl));have hcl:w'.cell? ⟨w.heap.size+1,2,none⟩=some (.int .i64 cfr):=(HB1.out.ext hx).cell 2;simp only [Act.eval] at ex42;have HK:=gH (hk (.int .i64 cfr) rfl w' (Ext.refl _));clear hx hn hd hk;go_simp;exact HK.out
       | 6,ho =>
        simp only [gA,gB,gC,gD] at ho;subst ho;refine qAk rfl rfl (hd 3 41 (.bool false) rfl rfl rfl) rfl ?_;have ex4:=((hn 4 rfl).trans (show _=Value.pointer (some ⟨w.heap.size+1,0,none⟩) from rfl));simp only [Act.eval] at ex4;have HK:=gH (hk (.pointer (some ⟨w.heap.size+1,3,none⟩)) rfl w' (Ext.refl _));clear hx hn hd hk;go_simp;exact HK.out
       | 7,ho =>
        simp only [gA,gB,gC,gD] at ho;subst ho;refine qAk rfl rfl (hd 3 41 (.bool false) rfl rfl rfl) rfl ?_;have ex44:=(qAg (hd 6 44 (.pointer (some ⟨w.heap.size+1,3,none⟩)) rfl rfl rfl));have hcl:w'.cell? ⟨w.heap.size+1,3,none⟩=some (.int .i64 ctil):=(HB1.out.ext hx).cell 3;simp only [Act.eval] at ex44;have HK:=gH (hk (.int .i64 ctil) rfl w' (Ext.refl _));clear hx hn hd hk;go_simp;exact HK.out
       | 8,ho =>
        simp only [gA,gB,gC,gD] at ho;subst ho;refine qAk rfl rfl (hd 3 41 (.bool false) rfl rfl rfl) rfl ?_;exact qFr rfl (qAg (hd 5 43 (.int .i64 cfr) rfl rfl rfl)) (qAg (hd 7 45 (.int .i64 ctil) rfl rfl rfl)) (by first | (go_simp;done) | (go_simp;simp;omega) | (simp;omega)) (hk _ rfl w' (Ext.refl _))
       | 9,ho =>
        simp only [gA,gB,gC,gD] at ho;subst ho;refine qAm rfl ?_;exact qFt _ _ _ false _ rfl (qAg (hd 3 41 (.bool false) rfl rfl rfl)) (by exact (qAg (hd 8 46 (.bool true) rfl rfl rfl))) (hk _ rfl w' (Ext.refl _))
       | 10,ho =>
        simp only [gA,gB,gC,gD] at ho;subst ho;refine qAm rfl ?_;exact qCs _ _ rfl (qAg (hd 9 47 (.bool true) rfl rfl rfl)) (hk _ rfl w' (Ext.refl _))
       | 11,ho | 12,ho | 13,ho | 14,ho | 15,ho | 16,ho | 17,ho | 18,ho | 19,ho =>
        simp only [gA,gB,gC,gD] at ho;subst ho;refine qTo rfl rfl (hd 10 48 (.bool true) rfl rfl rfl) rfl ?_;exact hk undef rfl w' (Ext.refl _)
       | 20,ho =>
        simp only [gA,gB,gC,gD] at ho;subst ho;refine qAm rfl ?_;exact qFt _ _ _ true _ rfl (qAg (hd 10 48 (.bool true) rfl rfl rfl)) (by exact rfl) (hk _ rfl w' (Ext.refl _))
       | i+21,ho=>simp at ho
     intro w9 hx9;simp only [Act.put,List.foldl_cons,List.foldl_nil,List.setIfInBounds_toArray,List.set_cons_zero,List.set_cons_succ];go_wp2_with fail;go_ret;exact ⟨qAf HGG.out.symm,HX.out.trans hx9⟩
   cases hlt:decide (e.len<ctil)
   . have hlt':=of_decide_eq_false hlt
     have HGG:=gH (HG.out.trans (if_neg (by omega)));refine qCl [.pointer (some ⟨w.heap.size+1,2,none⟩),.int .i64 cfr,.bool false,.bool false,.pointer (some ⟨w.heap.size+1,2,none⟩),.int .i64 cfr,.pointer (some ⟨w.heap.size+1,3,none⟩),.int .i64 ctil,.bool false,.bool false,.bool false,.pointer (some ⟨w.heap.size+1,3,none⟩),.int .i64 ctil,.pointer (some ⟨w.heap.size,6,none⟩),.slice (some ⟨b,off,none⟩) hen hec,.int .i64 (k:Int),.pointer (some ⟨b,off+k*7,none⟩),.agg (e.cells A' n' c'),.int .i64 e.len,.bool false,.bool false] [(38,.pointer (some ⟨w.heap.size+1,2,none⟩)),(39,.int .i64 cfr),(40,.bool false),(41,.bool false),(42,.pointer (some ⟨w.heap.size+1,2,none⟩)),(43,.int .i64 cfr),(44,.pointer (some ⟨w.heap.size+1,3,none⟩)),(45,.int .i64 ctil),(46,.bool false),(47,.bool false),(48,.bool false),(49,.pointer (some ⟨w.heap.size+1,3,none⟩)),(50,.int .i64 ctil),(51,.pointer (some ⟨w.heap.size,6,none⟩)),(52,.slice (some ⟨b,off,none⟩) hen hec),(53,.int .i64 (k:Int)),(54,.pointer (some ⟨b,off+k*7,none⟩)),(55,.agg (e.cells A' n' c')),(56,.int .i64 e.len),(57,.bool false),(58,.bool false)] (by kernel_rfl) (by kernel_rfl) (by kernel_rfl) rfl rfl ?_ ?_
     . intro i o ho a w' K' hx hn hd hk
       match i,ho with
       | 0,ho =>
        simp only [gA,gB,gC,gD] at ho;subst ho;refine qAm rfl ?_;have ex4:=((hn 4 rfl).trans (show _=Value.pointer (some ⟨w.heap.size+1,0,none⟩) from rfl));simp only [Act.eval] at ex4;have HK:=gH (hk (.pointer (some ⟨w.heap.size+1,2,none⟩)) rfl w' (Ext.refl _));clear hx hn hd hk;go_simp;exact HK.out
       | 1,ho =>
        simp only [gA,gB,gC,gD] at ho;subst ho;refine qAm rfl ?_;have ex38:=(qAg (hd 0 38 (.pointer (some ⟨w.heap.size+1,2,none⟩)) rfl rfl rfl));have hcl:w'.cell? ⟨w.heap.size+1,2,none⟩=some (.int .i64 cfr):=(HB1.out.ext hx).cell 2;simp only [Act.eval] at ex38;have HK:=gH (hk (.int .i64 cfr) rfl w' (Ext.refl _));clear hx hn hd hk;go_simp;exact HK.out
       | 2,ho =>
        simp only [gA,gB,gC,gD] at ho;subst ho;refine qAm rfl ?_;exact qFr rfl (qAg (hd 1 39 (.int .i64 cfr) rfl rfl rfl)) rfl (by first | (go_simp;done) | (go_simp;simp;omega) | (simp;omega)) (hk _ rfl w' (Ext.refl _))
       | 3,ho =>
        simp only [gA,gB,gC,gD] at ho;subst ho;refine qAm rfl ?_;exact qCs _ _ rfl (qAg (hd 2 40 (.bool false) rfl rfl rfl)) (hk _ rfl w' (Ext.refl _))
       | 4,ho =>
        simp only [gA,gB,gC,gD] at ho;subst ho;refine qAk rfl rfl (hd 3 41 (.bool false) rfl rfl rfl) rfl ?_;have ex4:=((hn 4 rfl).trans (show _=Value.pointer (some ⟨w.heap.size+1,0,none⟩) from rfl));simp only [Act.eval] at ex4;have HK:=gH (hk (.pointer (some ⟨w.heap.size+1,2,none⟩)) rfl w' (Ext.refl _));clear hx hn hd hk;go_simp;exact HK.out
       | 5,ho =>
        simp only [gA,gB,gC,gD] at ho;subst ho;refine qAk rfl rfl (hd 3 41 (.bool false) rfl rfl rfl) rfl ?_;have ex42:=(qAg (hd 4 42 (.pointer (some ⟨w.heap.size+1,2,none⟩)) rfl rfl rfl));have hcl:w'.cell? ⟨w.heap.size+1,2,none⟩=some (.int .i64 cfr):=(HB1.out.ext hx).cell 2;simp only [Act.eval] at ex42;have HK:=gH (hk (.int .i64 cfr) rfl w' (Ext.refl _));clear hx hn hd hk;go_simp;exact HK.out
       | 6,ho =>
        simp only [gA,gB,gC,gD] at ho;subst ho;refine qAk rfl rfl (hd 3 41 (.bool false) rfl rfl rfl) rfl ?_;have ex4:=((hn 4 rfl).trans (show _=Value.pointer (some ⟨w.heap.size+1,0,none⟩) from rfl));simp only [Act.eval] at ex4;have HK:=gH (hk (.pointer (some ⟨w.heap.size+1,3,none⟩)) rfl w' (Ext.refl _));clear hx hn hd hk;go_simp;exact HK.out
       | 7,ho =>
        simp only [gA,gB,gC,gD] at ho;subst ho;refine qAk rfl rfl (hd 3 41 (.bool false) rfl rfl rfl) rfl ?_;have ex44:=(qAg (hd 6 44 (.pointer (some ⟨w.heap.size+1,3,none⟩)) rfl rfl rfl));have hcl:w'.cell? ⟨w.heap.size+1,3,none⟩=some (.int .i64 ctil):=(HB1.out.ext hx).cell 3;simp only [Act.eval] at ex44;have HK:=gH (hk (.int .i64 ctil) rfl w' (Ext.refl _));clear hx hn hd hk;go_simp;exact HK.out
       | 8,ho =>
        simp only [gA,gB,gC,gD] at ho;subst ho;refine qAk rfl rfl (hd 3 41 (.bool false) rfl rfl rfl) rfl ?_;exact qFr rfl (qAg (hd 5 43 (.int .i64 cfr) rfl rfl rfl)) (qAg (hd 7 45 (.int .i64 ctil) rfl rfl rfl)) (by first | (go_simp;done) | (go_simp;simp;omega) | (simp;omega)) (hk _ rfl w' (Ext.refl _))
       | 9,ho =>
        simp only [gA,gB,gC,gD] at ho;subst ho;refine qAm rfl ?_;exact qFt _ _ _ false _ rfl (qAg (hd 3 41 (.bool false) rfl rfl rfl)) (by exact (qAg (hd 8 46 (.bool false) rfl rfl rfl))) (hk _ rfl w' (Ext.refl _))
       | 10,ho =>
        simp only [gA,gB,gC,gD] at ho;subst ho;refine qAm rfl ?_;exact qCs _ _ rfl (qAg (hd 9 47 (.bool false) rfl rfl rfl)) (hk _ rfl w' (Ext.refl _))
       | 11,ho =>
        simp only [gA,gB,gC,gD] at ho;subst ho;refine qAk rfl rfl (hd 10 48 (.bool false) rfl rfl rfl) rfl ?_;have ex4:=((hn 4 rfl).trans (show _=Value.pointer (some ⟨w.heap.size+1,0,none⟩) from rfl));simp only [Act.eval] at ex4;have HK:=gH (hk (.pointer (some ⟨w.heap.size+1,3,none⟩)) rfl w' (Ext.refl _));clear hx hn hd hk;go_simp;exact HK.out
       | 12,ho =>
        simp only [gA,gB,gC,gD] at ho;subst ho;refine qAk rfl rfl (hd 10 48 (.bool false) rfl rfl rfl) rfl ?_;have ex49:=(qAg (hd 11 49 (.pointer (some ⟨w.heap.size+1,3,none⟩)) rfl rfl rfl));have hcl:w'.cell? ⟨w.heap.size+1,3,none⟩=some (.int .i64 ctil):=(HB1.out.ext hx).cell 3;simp only [Act.eval] at ex49;have HK:=gH (hk (.int .i64 ctil) rfl w' (Ext.refl _));clear hx hn hd hk;go_simp;exact HK.out
       | 13,ho =>
        simp only [gA,gB,gC,gD] at ho;subst ho;refine qAk rfl rfl (hd 10 48 (.bool false) rfl rfl rfl) rfl ?_;have ex3:=((hn 3 rfl).trans (show _=Value.pointer (some ⟨w.heap.size,0,none⟩) from rfl));simp only [Act.eval] at ex3;have HK:=gH (hk (.pointer (some ⟨w.heap.size,6,none⟩)) rfl w' (Ext.refl _));clear hx hn hd hk;go_simp;exact HK.out
       | 14,ho =>
        simp only [gA,gB,gC,gD] at ho;subst ho;refine qAk rfl rfl (hd 10 48 (.bool false) rfl rfl rfl) rfl ?_;have ex51:=(qAg (hd 13 51 (.pointer (some ⟨w.heap.size,6,none⟩)) rfl rfl rfl));have hcl:w'.cell? ⟨w.heap.size,6,none⟩=some (.slice (some ⟨b,off,none⟩) hen hec):=(HB0.out.ext hx).cell 6;simp only [Act.eval] at ex51;have HK:=gH (hk (.slice (some ⟨b,off,none⟩) hen hec) rfl w' (Ext.refl _));clear hx hn hd hk;go_simp;exact HK.out
       | 15,ho =>
        simp only [gA,gB,gC,gD] at ho;subst ho;refine qAk rfl rfl (hd 10 48 (.bool false) rfl rfl rfl) rfl ?_;exact qCs _ _ rfl ((hn 7 rfl).trans (show _=Value.int .i64 (k:Int) from rfl)) (hk _ rfl w' (Ext.refl _))
       | 16,ho =>
        simp only [gA,gB,gC,gD] at ho;subst ho;refine qAk rfl rfl (hd 10 48 (.bool false) rfl rfl rfl) rfl ?_;exact qFz rfl (qAg (hd 14 52 (.slice (some ⟨b,off,none⟩) hen hec) rfl rfl rfl)) (qAg (hd 15 53 (.int .i64 (k:Int)) rfl rfl rfl)) hkl (hk _ rfl w' (Ext.refl _))
       | 17,ho =>
        simp only [gA,gB,gC,gD] at ho;subst ho;refine qAk rfl rfl (hd 10 48 (.bool false) rfl rfl rfl) rfl ?_;exact qFh rfl b _ e _ _ _ (qAg (hd 16 54 (.pointer (some ⟨b,off+k*7,none⟩)) rfl rfl rfl)) (fun j u hu=>hx.cell (HC.out j u hu)) (hk _ rfl w' (Ext.refl _))
       | 18,ho =>
        simp only [gA,gB,gC,gD] at ho;subst ho;refine qAk rfl rfl (hd 10 48 (.bool false) rfl rfl rfl) rfl ?_;exact qPc rfl (qAg (hd 17 55 (.agg (e.cells A' n' c')) rfl rfl rfl)) Tryz.call122 (HLen.out w' hx) (hk _ rfl)
       | 19,ho =>
        simp only [gA,gB,gC,gD] at ho;subst ho;refine qAk rfl rfl (hd 10 48 (.bool false) rfl rfl rfl) rfl ?_;exact qFr rfl (qAg (hd 12 50 (.int .i64 ctil) rfl rfl rfl)) (qAg (hd 18 56 (.int .i64 e.len) rfl rfl rfl)) (by first | (go_simp;done) | (go_simp;rw [hlt]) | (simp [hlt])) (hk _ rfl w' (Ext.refl _))
       | 20,ho =>
        simp only [gA,gB,gC,gD] at ho;subst ho;refine qAm rfl ?_;exact qFt _ _ _ false _ rfl (qAg (hd 10 48 (.bool false) rfl rfl rfl)) (by exact (qAg (hd 19 57 (.bool false) rfl rfl rfl))) (hk _ rfl w' (Ext.refl _))
       | i+21,ho=>simp at ho
     intro w9 hx9;simp only [Act.put,List.foldl_cons,List.foldl_nil,List.setIfInBounds_toArray,List.set_cons_zero,List.set_cons_succ];go_wp2_with fail;go_ret;exact ⟨qAf HGG.out.symm,HX.out.trans hx9⟩
   . have hlt':=of_decide_eq_true hlt
     have HGG:=gH (HG.out.trans (if_pos (.inr (.inr hlt'))));refine qCl [.pointer (some ⟨w.heap.size+1,2,none⟩),.int .i64 cfr,.bool false,.bool false,.pointer (some ⟨w.heap.size+1,2,none⟩),.int .i64 cfr,.pointer (some ⟨w.heap.size+1,3,none⟩),.int .i64 ctil,.bool false,.bool false,.bool false,.pointer (some ⟨w.heap.size+1,3,none⟩),.int .i64 ctil,.pointer (some ⟨w.heap.size,6,none⟩),.slice (some ⟨b,off,none⟩) hen hec,.int .i64 (k:Int),.pointer (some ⟨b,off+k*7,none⟩),.agg (e.cells A' n' c'),.int .i64 e.len,.bool true,.bool true] [(38,.pointer (some ⟨w.heap.size+1,2,none⟩)),(39,.int .i64 cfr),(40,.bool false),(41,.bool false),(42,.pointer (some ⟨w.heap.size+1,2,none⟩)),(43,.int .i64 cfr),(44,.pointer (some ⟨w.heap.size+1,3,none⟩)),(45,.int .i64 ctil),(46,.bool false),(47,.bool false),(48,.bool false),(49,.pointer (some ⟨w.heap.size+1,3,none⟩)),(50,.int .i64 ctil),(51,.pointer (some ⟨w.heap.size,6,none⟩)),(52,.slice (some ⟨b,off,none⟩) hen hec),(53,.int .i64 (k:Int)),(54,.pointer (some ⟨b,off+k*7,none⟩)),(55,.agg (e.cells A' n' c')),(56,.int .i64 e.len),(57,.bool true),(58,.bool true)] (by kernel_rfl) (by kernel_rfl) (by kernel_rfl) rfl rfl ?_ ?_
     . intro i o ho a w' K' hx hn hd hk
       match i,ho with
       | 0,ho =>
        simp only [gA,gB,gC,gD] at ho;subst ho;refine qAm rfl ?_;have ex4:=((hn 4 rfl).trans (show _=Value.pointer (some ⟨w.heap.size+1,0,none⟩) from rfl));simp only [Act.eval] at ex4;have HK:=gH (hk (.pointer (some ⟨w.heap.size+1,2,none⟩)) rfl w' (Ext.refl _));clear hx hn hd hk;go_simp;exact HK.out
       | 1,ho =>
        simp only [gA,gB,gC,gD] at ho;subst ho;refine qAm rfl ?_;have ex38:=(qAg (hd 0 38 (.pointer (some ⟨w.heap.size+1,2,none⟩)) rfl rfl rfl));have hcl:w'.cell? ⟨w.heap.size+1,2,none⟩=some (.int .i64 cfr):=(HB1.out.ext hx).cell 2;simp only [Act.eval] at ex38;have HK:=gH (hk (.int .i64 cfr) rfl w' (Ext.refl _));clear hx hn hd hk;go_simp;exact HK.out
       | 2,ho =>
        simp only [gA,gB,gC,gD] at ho;subst ho;refine qAm rfl ?_;exact qFr rfl (qAg (hd 1 39 (.int .i64 cfr) rfl rfl rfl)) rfl (by first | (go_simp;done) | (go_simp;simp;omega) | (simp;omega)) (hk _ rfl w' (Ext.refl _))
       | 3,ho =>
        simp only [gA,gB,gC,gD] at ho;subst ho;refine qAm rfl ?_;exact qCs _ _ rfl (qAg (hd 2 40 (.bool false) rfl rfl rfl)) (hk _ rfl w' (Ext.refl _))
       | 4,ho =>
        simp only [gA,gB,gC,gD] at ho;subst ho;refine qAk rfl rfl (hd 3 41 (.bool false) rfl rfl rfl) rfl ?_;have ex4:=((hn 4 rfl).trans (show _=Value.pointer (some ⟨w.heap.size+1,0,none⟩) from rfl));simp only [Act.eval] at ex4;have HK:=gH (hk (.pointer (some ⟨w.heap.size+1,2,none⟩)) rfl w' (Ext.refl _));clear hx hn hd hk;go_simp;exact HK.out
       | 5,ho =>
        simp only [gA,gB,gC,gD] at ho;subst ho;refine qAk rfl rfl (hd 3 41 (.bool false) rfl rfl rfl) rfl ?_;have ex42:=(qAg (hd 4 42 (.pointer (some ⟨w.heap.size+1,2,none⟩)) rfl rfl rfl));have hcl:w'.cell? ⟨w.heap.size+1,2,none⟩=some (.int .i64 cfr):=(HB1.out.ext hx).cell 2;simp only [Act.eval] at ex42;have HK:=gH (hk (.int .i64 cfr) rfl w' (Ext.refl _));clear hx hn hd hk;go_simp;exact HK.out
       | 6,ho =>
        simp only [gA,gB,gC,gD] at ho;subst ho;refine qAk rfl rfl (hd 3 41 (.bool false) rfl rfl rfl) rfl ?_;have ex4:=((hn 4 rfl).trans (show _=Value.pointer (some ⟨w.heap.size+1,0,none⟩) from rfl));simp only [Act.eval] at ex4;have HK:=gH (hk (.pointer (some ⟨w.heap.size+1,3,none⟩)) rfl w' (Ext.refl _));clear hx hn hd hk;go_simp;exact HK.out
       | 7,ho =>
        simp only [gA,gB,gC,gD] at ho;subst ho;refine qAk rfl rfl (hd 3 41 (.bool false) rfl rfl rfl) rfl ?_;have ex44:=(qAg (hd 6 44 (.pointer (some ⟨w.heap.size+1,3,none⟩)) rfl rfl rfl));have hcl:w'.cell? ⟨w.heap.size+1,3,none⟩=some (.int .i64 ctil):=(HB1.out.ext hx).cell 3;simp only [Act.eval] at ex44;have HK:=gH (hk (.int .i64 ctil) rfl w' (Ext.refl _));clear hx hn hd hk;go_simp;exact HK.out
       | 8,ho =>
        simp only [gA,gB,gC,gD] at ho;subst ho;refine qAk rfl rfl (hd 3 41 (.bool false) rfl rfl rfl) rfl ?_;exact qFr rfl (qAg (hd 5 43 (.int .i64 cfr) rfl rfl rfl)) (qAg (hd 7 45 (.int .i64 ctil) rfl rfl rfl)) (by first | (go_simp;done) | (go_simp;simp;omega) | (simp;omega)) (hk _ rfl w' (Ext.refl _))
       | 9,ho =>
        simp only [gA,gB,gC,gD] at ho;subst ho;refine qAm rfl ?_;exact qFt _ _ _ false _ rfl (qAg (hd 3 41 (.bool false) rfl rfl rfl)) (by exact (qAg (hd 8 46 (.bool false) rfl rfl rfl))) (hk _ rfl w' (Ext.refl _))
       | 10,ho =>
        simp only [gA,gB,gC,gD] at ho;subst ho;refine qAm rfl ?_;exact qCs _ _ rfl (qAg (hd 9 47 (.bool false) rfl rfl rfl)) (hk _ rfl w' (Ext.refl _))
       | 11,ho =>
        simp only [gA,gB,gC,gD] at ho;subst ho;refine qAk rfl rfl (hd 10 48 (.bool false) rfl rfl rfl) rfl ?_;have ex4:=((hn 4 rfl).trans (show _=Value.pointer (some ⟨w.heap.size+1,0,none⟩) from rfl));simp only [Act.eval] at ex4;have HK:=gH (hk (.pointer (some ⟨w.heap.size+1,3,none⟩)) rfl w' (Ext.refl _));clear hx hn hd hk;go_simp;exact HK.out
       | 12,ho =>
        simp only [gA,gB,gC,gD] at ho;subst ho;refine qAk rfl rfl (hd 10 48 (.bool false) rfl rfl rfl) rfl ?_;have ex49:=(qAg (hd 11 49 (.pointer (some ⟨w.heap.size+1,3,none⟩)) rfl rfl rfl));have hcl:w'.cell? ⟨w.heap.size+1,3,none⟩=some (.int .i64 ctil):=(HB1.out.ext hx).cell 3;simp only [Act.eval] at ex49;have HK:=gH (hk (.int .i64 ctil) rfl w' (Ext.refl _));clear hx hn hd hk;go_simp;exact HK.out
       | 13,ho =>
        simp only [gA,gB,gC,gD] at ho;subst ho;refine qAk rfl rfl (hd 10 48 (.bool false) rfl rfl rfl) rfl ?_;have ex3:=((hn 3 rfl).trans (show _=Value.pointer (some ⟨w.heap.size,0,none⟩) from rfl));simp only [Act.eval] at ex3;have HK:=gH (hk (.pointer (some ⟨w.heap.size,6,none⟩)) rfl w' (Ext.refl _));clear hx hn hd hk;go_simp;exact HK.out
       | 14,ho =>
        simp only [gA,gB,gC,gD] at ho;subst ho;refine qAk rfl rfl (hd 10 48 (.bool false) rfl rfl rfl) rfl ?_;have ex51:=(qAg (hd 13 51 (.pointer (some ⟨w.heap.size,6,none⟩)) rfl rfl rfl));have hcl:w'.cell? ⟨w.heap.size,6,none⟩=some (.slice (some ⟨b,off,none⟩) hen hec):=(HB0.out.ext hx).cell 6;simp only [Act.eval] at ex51;have HK:=gH (hk (.slice (some ⟨b,off,none⟩) hen hec) rfl w' (Ext.refl _));clear hx hn hd hk;go_simp;exact HK.out
       | 15,ho =>
        simp only [gA,gB,gC,gD] at ho;subst ho;refine qAk rfl rfl (hd 10 48 (.bool false) rfl rfl rfl) rfl ?_;exact qCs _ _ rfl ((hn 7 rfl).trans (show _=Value.int .i64 (k:Int) from rfl)) (hk _ rfl w' (Ext.refl _))
       | 16,ho =>
        simp only [gA,gB,gC,gD] at ho;subst ho;refine qAk rfl rfl (hd 10 48 (.bool false) rfl rfl rfl) rfl ?_;exact qFz rfl (qAg (hd 14 52 (.slice (some ⟨b,off,none⟩) hen hec) rfl rfl rfl)) (qAg (hd 15 53 (.int .i64 (k:Int)) rfl rfl rfl)) hkl (hk _ rfl w' (Ext.refl _))
       | 17,ho =>
        simp only [gA,gB,gC,gD] at ho;subst ho;refine qAk rfl rfl (hd 10 48 (.bool false) rfl rfl rfl) rfl ?_;exact qFh rfl b _ e _ _ _ (qAg (hd 16 54 (.pointer (some ⟨b,off+k*7,none⟩)) rfl rfl rfl)) (fun j u hu=>hx.cell (HC.out j u hu)) (hk _ rfl w' (Ext.refl _))
       | 18,ho =>
        simp only [gA,gB,gC,gD] at ho;subst ho;refine qAk rfl rfl (hd 10 48 (.bool false) rfl rfl rfl) rfl ?_;exact qPc rfl (qAg (hd 17 55 (.agg (e.cells A' n' c')) rfl rfl rfl)) Tryz.call122 (HLen.out w' hx) (hk _ rfl)
       | 19,ho =>
        simp only [gA,gB,gC,gD] at ho;subst ho;refine qAk rfl rfl (hd 10 48 (.bool false) rfl rfl rfl) rfl ?_;exact qFr rfl (qAg (hd 12 50 (.int .i64 ctil) rfl rfl rfl)) (qAg (hd 18 56 (.int .i64 e.len) rfl rfl rfl)) (by first | (go_simp;done) | (go_simp;rw [hlt]) | (simp [hlt])) (hk _ rfl w' (Ext.refl _))
       | 20,ho =>
        simp only [gA,gB,gC,gD] at ho;subst ho;refine qAm rfl ?_;exact qFt _ _ _ false _ rfl (qAg (hd 10 48 (.bool false) rfl rfl rfl)) (by exact (qAg (hd 19 57 (.bool true) rfl rfl rfl))) (hk _ rfl w' (Ext.refl _))
       | i+21,ho=>simp at ho
     intro w9 hx9;simp only [Act.put,List.foldl_cons,List.foldl_nil,List.setIfInBounds_toArray,List.set_cons_zero,List.set_cons_succ];go_wp2_with fail;go_ret;exact ⟨qAf HGG.out.symm,HX.out.trans hx9⟩
end
section
open Go.RowKit
def qPo (r:Int) (d:Bool):Int:=if qIb r d=true then 0 else 13
theorem zFe (r:Int) (d:Bool) (w:World) (h0:0<=r) (h1:r<=255):Calls Tryz.prog 178 #[.int .u8 r,.bool d] w fun e w'=>e = .returned (.int .i64 (qPo r d))/\Ext w w':=by
 have HF:Hid (qPo r d=if (rOk r && (!d || qMj r))=true then 0 else 13):=rfl
 cases ho:rOk r
 . have HO:=gH ho
   clear ho;go_enter Tryz.func178,Tryz.ntmps178;go_wp2_with fail;refine (qJj r _ h0 h1).mono ?_;rintro e w1 ⟨rfl,hx⟩;rw [HO.out];go_wp2_with fail;go_ret;exact ⟨qAf (by rw [HF.out,HO.out];rfl),hx⟩
 . have HO:=gH ho
   clear ho
   cases d
   . go_enter Tryz.func178,Tryz.ntmps178
     go_wp2_with fail;refine (qJj r _ h0 h1).mono ?_;rintro e w1 ⟨rfl,hx⟩;rw [HO.out];go_wp2_with fail;go_ret;exact ⟨qAf (by rw [HF.out,HO.out];rfl),hx⟩
   . go_enter Tryz.func178,Tryz.ntmps178
     go_wp2_with fail;refine (qJj r _ h0 h1).mono ?_;rintro e w1 ⟨rfl,hx⟩;rw [HO.out];go_wp2_with fail;refine (qWy r _ h0 h1).mono ?_;rintro e w2 ⟨rfl,hx2⟩
     cases hd:qMj r
     . have HD:=gH hd
       clear hd;go_wp2_with fail;go_ret;exact ⟨qAf (by rw [HF.out,HO.out,HD.out];rfl),hx.trans hx2⟩
     . have HD:=gH hd
       clear hd;go_wp2_with fail;go_ret;exact ⟨qAf (by rw [HF.out,HO.out,HD.out];rfl),hx.trans hx2⟩
structure zPu (d:Doc):Prop where
 r0:0<=d.rate
 r1:d.rate<=255
 title:d.title.size<=9223372036854775807
 lang:d.lang.size<=9223372036854775807
theorem zGe {d:Doc} (h:vld d.title=false):d.headErr=10:=by unfold Doc.headErr;rw [if_pos h]
theorem zCm {d:Doc} (h:vld d.title=true) (h1:400<d.title.size):d.headErr=9:=by unfold Doc.headErr;rw [if_neg (by simp [h]),if_pos h1]
theorem zGg {d:Doc} (h:vld d.title=true) (h1:¬ 400<d.title.size) (h2:d.lang.toList.isEmpty=false/\qCt d.lang=false):d.headErr=5:=by unfold Doc.headErr;rw [if_neg (by simp [h]),if_neg h1,if_pos h2]
theorem zGi {d:Doc} (h:vld d.title=true) (h1:¬ 400<d.title.size) (h2:¬ (d.lang.toList.isEmpty=false/\qCt d.lang=false)) (h3:qIb d.rate d.drop=false):d.headErr=13:=by unfold Doc.headErr;rw [if_neg (by simp [h]),if_neg h1,if_neg h2,if_pos h3]
theorem zGh {d:Doc} (h:vld d.title=true) (h1:¬ 400<d.title.size) (h2:¬ (d.lang.toList.isEmpty=false/\qCt d.lang=false)) (h3:qIb d.rate d.drop=true) (h4:d.last<0\/1099511627776<d.last):d.headErr=2:=by unfold Doc.headErr;rw [if_neg (by simp [h]),if_neg h1,if_neg h2,if_neg (by simp [h3]),if_pos h4]
theorem zOd {d:Doc} (h:vld d.title=true) (h1:¬ 400<d.title.size) (h2:¬ (d.lang.toList.isEmpty=false/\qCt d.lang=false)) (h3:qIb d.rate d.drop=true) (h4:¬ (d.last<0\/1099511627776<d.last)):d.headErr=0:=by unfold Doc.headErr;rw [if_neg (by simp [h]),if_neg h1,if_neg h2,if_neg (by simp [h3]),if_neg h4]
theorem zCn (d:Doc) (h:DocH) (w:World) (hE:Env w) (hok:zPu d):Calls Tryz.prog 97 #[.agg (d.cells h)] w fun e w'=>e = .returned (.int .i64 d.headErr)/\Ext w w':=by
 have HX:=gH ((Ext.refl w).alloc (.cells (d.cells h) 27));have HB:=gH (Blk.new w 27 (d.cells h));have HV:=gH (fun w' (hx:Ext w w')=>qDj d.title w' (hE.ext hx) hok.title);have HN:=gH (fun w'=>qDc d.lang w' hok.lang);have HR:=gH (fun w'=>zFe d.rate d.drop w' hok.r0 hok.r1);have H1:=gH (@zGe d);have H2:=gH (@zCm d);have H3:=gH (@zGg d);have H4:=gH (@zGi d);have H5:=gH (@zGh d);have H6:=gH (@zOd d);clear hE hok;unfold Doc.cells at *;go_enter Tryz.func97,Tryz.ntmps97;go_wp2_with fail;refine (HV.out _ HX.out).mono ?_;rintro en w1 ⟨rfl,hx1⟩;have HX1:=gH (HX.out.trans hx1);have HB1:=gH (HB.out.ext hx1);clear hx1 HX HB;(have hc:=fun o=>HB1.out.cell o)
 cases hv:vld d.title
 . have HA:=gH hv
   clear hv;go_wp2_with fail;go_ret;exact ⟨qAf (H1.out HA.out).symm,HX1.out⟩
 have HA:=gH hv;clear hv
 by_cases h4:400<d.title.size
 . have h4i:(400:Int)<(d.title.size:Int):=by omega
   go_wp2_with fail;go_ret;exact ⟨qAf (H2.out HA.out h4).symm,HX1.out⟩
 (have h4i:¬ (400:Int)<(d.title.size:Int):=by omega);have HT:=gH h4;clear h4;(have key:∀ (P:Prop),(d.lang.toList.isEmpty=true->P)->(d.lang.toList.isEmpty=false->P)->P:=fun P a b=>by cases hx:d.lang.toList.isEmpty;exact b hx;exact a hx)
 cases hl:d.lang.toList.isEmpty
 . have HLg:=gH hl
   go_wp2_with fail;refine (HN.out _).mono ?_;rintro en w2 ⟨rfl,hx2⟩;subst hx2
   cases hn:qCt d.lang
   . have HNm:=gH hn
     clear hn;go_wp2_with fail;go_ret;exact ⟨qAf (H3.out HA.out HT.out ⟨HLg.out,HNm.out⟩).symm,HX1.out⟩
   (have HNm:Hid (¬ (d.lang.toList.isEmpty=false/\qCt d.lang=false)):=by show ¬ _;rw [hn];simp);clear hn key;go_wp2_with fail;refine (HR.out _).mono ?_;rintro en w2 ⟨rfl,hx2⟩;have HX2:=gH (HX1.out.trans hx2);have HB2:=gH (HB1.out.ext hx2);clear hx2 hc;(have hc:=fun o=>HB2.out.cell o)
   cases hr:qIb d.rate d.drop
   . have HRt:=gH hr
     (have he:qPo d.rate d.drop=13:=by unfold qPo;rw [hr];rfl);rw [he];clear hr he;go_wp2_with fail;go_ret;exact ⟨qAf (H4.out HA.out HT.out HNm.out HRt.out).symm,HX2.out⟩
   have HRt:=gH hr;(have he:qPo d.rate d.drop=0:=by unfold qPo;rw [hr];rfl);rw [he];clear hr he
   by_cases hz:d.last<0
   . go_wp2_with fail
     go_ret;exact ⟨qAf (H5.out HA.out HT.out HNm.out HRt.out (.inl hz)).symm,HX2.out⟩
   by_cases hy:1099511627776<d.last
   . go_wp2_with fail
     go_ret;exact ⟨qAf (H5.out HA.out HT.out HNm.out HRt.out (.inr hy)).symm,HX2.out⟩
   (have HZ:Hid (¬ (d.last<0\/1099511627776<d.last)):=by show ¬ _;omega);go_wp2_with fail;go_ret;exact ⟨qAf (H6.out HA.out HT.out HNm.out HRt.out HZ.out).symm,HX2.out⟩
 . have HNm:Hid (¬ (d.lang.toList.isEmpty=false/\qCt d.lang=false)):=by show ¬ _;rw [hl];simp
   clear key;go_wp2_with fail;refine (HR.out _).mono ?_;rintro en w2 ⟨rfl,hx2⟩;have HX2:=gH (HX1.out.trans hx2);have HB2:=gH (HB1.out.ext hx2);clear hx2 hc;(have hc:=fun o=>HB2.out.cell o)
   cases hr:qIb d.rate d.drop
   . have HRt:=gH hr
     (have he:qPo d.rate d.drop=13:=by unfold qPo;rw [hr];rfl);rw [he];clear hr he;go_wp2_with fail;go_ret;exact ⟨qAf (H4.out HA.out HT.out HNm.out HRt.out).symm,HX2.out⟩
   have HRt:=gH hr;(have he:qPo d.rate d.drop=0:=by unfold qPo;rw [hr];rfl);rw [he];clear hr he
   by_cases hz:d.last<0
   . go_wp2_with fail
     go_ret;exact ⟨qAf (H5.out HA.out HT.out HNm.out HRt.out (.inl hz)).symm,HX2.out⟩
   by_cases hy:1099511627776<d.last
   . go_wp2_with fail
     go_ret;exact ⟨qAf (H5.out HA.out HT.out HNm.out HRt.out (.inr hy)).symm,HX2.out⟩
   (have HZ:Hid (¬ (d.last<0\/1099511627776<d.last)):=by show ¬ _;omega);go_wp2_with fail;go_ret;exact ⟨qAf (H6.out HA.out HT.out HNm.out HRt.out HZ.out).symm,HX2.out⟩
def qJa (l:List Reg):Nat->Option ByteArray | 0=>none | k+1=>(l[k]?).map (·.name)
theorem zHu {l:List Reg} {k:Nat} {r:Reg} {E:Int} (hr:l[k]?=some r) (hP:E=qFf (qJa l k) (l.drop k)) :
 (r.check≠0->E=r.check)/\(r.check=0->qJa l k=some r.name->E=7)/\(r.check=0->qJa l k≠some r.name->((qJa l k).map fun q=>Op.bytesLess r.name.toList q.toList)=some true->E=8) /\
  (r.check=0->qJa l k≠some r.name->((qJa l k).map fun q=>Op.bytesLess r.name.toList q.toList)≠some true->E=qFf (qJa l (k+1)) (l.drop (k+1))):=by
 rw [qDh l k r hr] at hP;unfold qFf at hP;(have hn:qJa l (k+1)=some r.name:=by simp [qJa,hr]);refine ⟨fun h=>?_,fun h h1=>?_,fun h h1 h2=>?_,fun h h1 h2=>?_⟩
 . rw [if_pos h] at hP;exact hP
 . rw [if_neg (by omega),if_pos h1] at hP;exact hP
 . rw [if_neg (by omega),if_neg h1,if_pos h2] at hP;exact hP
 . rw [if_neg (by omega),if_neg h1,if_neg h2] at hP;rw [hP,hn]
theorem zLd {w:World} {A:Option Addr} {n:Nat} {l:List Reg} (h:qFw w A n l) {k:Nat} (hk:k<=n) (h0:0<k):∃ b off q,A=some ⟨b,off,none⟩/\w.cell? ⟨b,off+(k-1)*7,none⟩=some (.string q)/\qJa l k=some q:=by
 obtain ⟨j,rfl⟩:∃ j,k=j+1:=⟨k-1,by omega⟩;obtain ⟨b,off,r,hA,hr,hc⟩:=h.at_ (i:=j) (by omega);exact ⟨b,off,r.name,hA,by simpa using hc.1,by simp [qJa,hr]⟩
def zMz (w:World) (n:Nat) (l:List Reg) (i:Value) (wr:World):Prop:=∃ k:Nat,k<=n/\i = .int .i64 k/\Ext w wr/\qFf none l=qFf (qJa l k) (l.drop k)
theorem qKz (x y:ByteArray):(x.toList == y.toList)=decide (x=y):=by
 by_cases h:x=y
 . subst h;simp
 . rw [decide_eq_false h,beq_eq_false_iff_ne]
   intro he;rw [ByteArray.toList_eq,ByteArray.toList_eq] at he;exact h (by cases x;cases y;simp_all [Array.toList_inj])
theorem qRc (A:Option Addr) (n c:Nat) (l:List Reg) (w:World) (hl:qFw w A n l) (hn:n<=9223372036854775807) (hs:qHp l) :
 Calls Tryz.prog 98 #[.slice A n c] w fun en w'=>en = .returned (.int .i64 (qEc l))/\Ext w w':=by
 have HL:=gH hl;have HLn:=gH hl.len;have HSm:=gH hs;have HF:Hid (qEc l=if 16<l.length then 9 else qFf none l):=rfl;rw [hl.len] at HF;clear hl hs
 by_cases h16:16<n
 . have h16i:(16:Int)<(n:Int):=by omega
   go_enter Tryz.func98,Tryz.ntmps98;go_wp2_with fail;go_ret;exact ⟨qAf (by rw [HF.out,if_pos h16]),Ext.refl _⟩
 (have h16i:¬ (16:Int)<(n:Int):=by omega);have HG:=gH (HF.out.trans (if_neg h16));go_enter Tryz.func98,Tryz.ntmps98;go_wp2_with fail
 go_loopw [11] (fun i wr=>zMz w n l i wr) (fun i _=>n-(intOf i).toNat)
 case atStart=>exact ⟨0,Nat.zero_le _,rfl,Ext.refl _,by simp [qJa]⟩
 case round =>
  obtain ⟨k,hk,rfl,hx,hP⟩:=hrel;have HXr:=gH hx
  by_cases hlt:k<n
  . obtain ⟨b,off,r,rfl,hr,c0,c1,c2,c3,c4,c5,c6⟩:=(HL.out.ext hx).at_ hlt
    have HS:=gH (zHu hr hP);have HPv:=gH (fun h0=>zLd (HL.out.ext hx) (k:=k) hk h0);have HCk:=gH (fun w'=>qPw r w' (HSm.out r (List.mem_of_getElem? hr)));clear hr hP;have HBc:=gH (Blk.new wr 45 #[.string r.name,.int .i64 r.top,.int .i64 r.height,.int .i64 r.left,.int .i64 r.width,.int .u8 r.align,.bool r.bottom]);have HXc:=gH ((Ext.refl wr).alloc (.cells #[.string r.name,.int .i64 r.top,.int .i64 r.height,.int .i64 r.left,.int .i64 r.width,.int .u8 r.align,.bool r.bottom] 45));unfold Reg.val at HCk;go_wp2_with (refine qAa rfl 45 (.tmp 4) rfl wr.heap.size 45 _ _ (by exact rfl) (by exact HBc.out) Tryz.underlying45 rfl (by exact qKk) ?_);refine (HCk.out _).mono ?_;rintro en w2 ⟨rfl,hx2⟩;have HX2:=gH (HXc.out.trans hx2);have HB2:=gH (HBc.out.ext hx2);(have hcb:=fun o=>HB2.out.cell o);clear hx2 c0 c1 c2 c3 c4 c5 c6 HBc HXc
    by_cases hce:r.check=0
    case neg =>
     (have hne:(r.check != 0)=true:=by simpa using hce);have HC:=gH hce;clear hce;go_wp2_with fail;go_ret;exact ⟨qAf (by rw [HG.out,HS.out.1 HC.out]),hx.trans HX2.out⟩
    rw [hce];have HC:=gH hce;clear hce
    by_cases hk0:k=0
    . subst hk0
      have HN:=gH (HS.out.2.2.2 HC.out (by simp [qJa]) (by simp [qJa]));go_wp2_with fail;go_quiet (fail);go_wp2_with fail;go_quiet (fail);go_wp2_with fail;exact ⟨⟨1,by omega,by go_num,(hx.trans HX2.out).drewN _,HN.out⟩,by simp [intOf];omega⟩
    obtain ⟨b',off',q,hA,p0,hq⟩:=HPv.out (by omega)
    cases hA
    (have hki:(0:Int)<(k:Int):=by omega);(have hkp:0<k:=by omega);(have hk1:((k:Int)-1).toNat=k-1:=by omega);(have hk2:(k:Int)-1=((k-1:Nat):Int):=by omega);have pp0:=HX2.out.cell p0;have HQ:=gH hq;clear p0 hq
    by_cases he:q=r.name
    . have he':(r.name.toList == q.toList)=true:=by rw [qKz];simpa using he.symm
      have HE:=gH (HS.out.2.1 HC.out (by rw [HQ.out,he]));clear he;go_wp2_with fail;go_quiet (fail);go_wp2_with fail;go_ret;exact ⟨qAf (by rw [HG.out,HE.out]),(hx.trans HX2.out).drewN _⟩
    (have he':(r.name.toList == q.toList)=false:=by rw [qKz];simpa using fun h=>he h.symm);(have HNe:Hid (qJa l k≠some r.name):=by show _≠_;rw [HQ.out];simpa using he);clear he
    cases hl2:Op.bytesLess r.name.toList q.toList
    case true =>
     have HE:=gH (HS.out.2.2.1 HC.out HNe.out (by rw [HQ.out];simp [hl2]));go_wp2_with fail;go_quiet (fail);go_wp2_with fail;go_quiet (fail);go_wp2_with fail;go_ret;exact ⟨qAf (by rw [HG.out,HE.out]),((hx.trans HX2.out).drewN _).drewN _⟩
    case false =>
     have HE:=gH (HS.out.2.2.2 HC.out HNe.out (by rw [HQ.out];simp [hl2]));go_wp2_with fail;go_quiet (fail);go_wp2_with fail;go_quiet (fail);go_wp2_with fail;exact ⟨⟨k+1,by omega,by go_num,(hx.trans HX2.out).drewN _,HE.out⟩,by simp [intOf];omega⟩
  . have hkn:k=n:=by omega
    subst hkn;have HE:=gH (hP.trans (by rw [List.drop_eq_nil_of_le (by have:=HLn.out;omega)];rfl):qFf none l=0);clear hP;go_wp2_with fail;go_ret;exact ⟨qAf (by rw [HG.out,HE.out]),hx⟩
end
end Go.Proofs.YtneffpbodfjceaaGreatDoor