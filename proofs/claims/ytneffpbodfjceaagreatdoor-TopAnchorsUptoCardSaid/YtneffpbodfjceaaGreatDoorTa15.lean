/- Texts laid together. -/
import Derived.Test.YtneffpbodfjceaaGreatDoorTa14
import Derived.Deep.AppendLies
set_option linter.unusedVariables false
set_option linter.unusedSimpArgs false
set_option maxRecDepth 100000
set_option maxHeartbeats 16000000
namespace Go.Proofs.YtneffpbodfjceaaGreatDoor
section
open Go.RowKit
structure ButB (g:Nat) (w w':World):Prop where
 os:w'.os=w.os
 tape:w'.tape=w.tape
 output:w'.output=w.output
 size:w.heap.size<=w'.heap.size
 block:∀ k,k<w.heap.size->k≠g->w'.heap[k]?=w.heap[k]?
section
variable {g:Nat} {w w1 w2 w0:World} {t:TypeId} {cs:Array Value}
theorem ButB.ext (h:Ext w w1):ButB g w w1:=⟨h.os,h.tape,h.output,h.size,fun k hk _=>h.block k hk⟩
theorem ButB.refl (w:World):ButB g w w:=.ext (Ext.refl w)
theorem ButB.trans (h:ButB g w w1) (k:ButB g w1 w2):ButB g w w2:=⟨k.os.trans h.os,k.tape.trans h.tape,k.output.trans h.output,Nat.le_trans h.size k.size,fun b hb hg=>(k.block b (Nat.lt_of_lt_of_le hb h.size) hg).trans (h.block b hb hg)⟩
theorem ButB.put (h:ButB g w w1) (t:TypeId) (cs:Array Value):ButB g w (putB w1 g t cs):=⟨h.os,h.tape,h.output,by rw [qGn];exact h.size,fun k hk hg=>by
 unfold putB;simp only;rw [Array.getElem?_setIfInBounds_ne (fun e=>hg e.symm)]
 exact h.block k hk hg⟩
theorem ButB.own (h:ButB g w1 w2) (k:Ext w w1) (hg:w.heap.size<=g):Ext w w2:=⟨h.os.trans k.os,h.tape.trans k.tape,h.output.trans k.output,Nat.le_trans k.size h.size,fun b hb=>(h.block b (Nat.lt_of_lt_of_le hb k.size) (by omega)).trans (k.block b hb)⟩
theorem ButB.blk {b:Nat} (h:ButB g w w1) (hB:Blk w b t cs) (hne:b≠g):Blk w1 b t cs:=(h.block b hB.lt hne).trans hB
theorem ButB.kb {T T':TypeId} (h:ButB g w w1) (hB:qBc w T g) (hne:T'≠T):KB T' w w1:=fun b cur hc =>
 (h.block b (Array.getElem?_eq_some_iff.1 hc).1 (qBc.ne ⟨cur,hc⟩ hB hne)).trans hc
end
structure Fd where
 text:ByteArray
 col:Int
 quoted:Bool
def Fd.vals (f:Fd):List Value:=[.string f.text,.int .i64 f.col,.bool f.quoted]
def qDz (l:List Fl):Nat->List Fl->List Fd
 | _,[]=>[]
 | k,f :: r=>⟨f.text,(begF l k:Nat)+1,f.quoted⟩ :: qDz l (k+1) r
theorem qQi (l:List Fl):∀ (k:Nat) (r:List Fl),(qDz l k r).flatMap Fd.vals=flVs l k r
 | _,[]=>rfl
 | k,f :: r=>by rw [qDz,List.flatMap_cons,qQi l (k+1) r];rfl
theorem qNq (l:List Fl):∀ (k:Nat) (r:List Fl),(qDz l k r).length=r.length
 | _,[]=>rfl
 | k,f :: r=>by rw [qDz,List.length_cons,List.length_cons,qNq l (k+1) r]
theorem qCo:(Tryz.prog.info? 116).map (·.size)=some 3:=by kernel_rfl
theorem zPa {x y:ByteArray} (h:x≠y):(x.toList == y.toList)=false:=by
 rw [ByteArray.toList_eq,ByteArray.toList_eq,beq_eq_false_iff_ne];intro e;exact h (ByteArray.ext (Array.ext' e))
def ScAt (w:World) (g:Nat) (num:Int) (fl:List Fd) (next:Nat) (last:Int):Prop :=
 ∃ A c,Blk w g 234 #[.int .i64 num,.slice A fl.length c,.int .i64 next,.int .i64 last,.int .i64 0,.int .i64 0,.int .i64 0]/\w.ownsRow 0 122 3 (.slice A fl.length c) fl.length (fl.flatMap Fd.vals)
section
variable {w w1:World} {g:Nat} {num last:Int} {fl:List Fd} {next:Nat}
theorem ScAt.ext (h:ScAt w g num fl next last) (k:Ext w w1):ScAt w1 g num fl next last:=by
 obtain ⟨A,c,h1,h2⟩:=h;exact ⟨A,c,h1.ext k,qAh h2 k⟩
theorem ScAt.typed (h:ScAt w g num fl next last):qBc w 234 g:=h.elim fun _ h=>h.elim fun _ h=>h.1.typed
end
theorem qBi {w:World} {base g:Nat} {e t:TypeId} {size:Nat} {v:Value} {n:Nat} {xs:List Value} {cs0 cs:Array Value} (h:w.ownsRow base e size v n xs) (hB:Blk w g t cs0) (hne:e≠t):(putB w g t cs).ownsRow base e size v n xs :=
 qGm h fun hb=>qBc.ne (qAt h g hb) hB.typed hne rfl
theorem qTc {g:Nat} {num last:Int} {fl:List Fd} {next:Nat} {w:World} (h:ScAt w g num fl next last) :
 Calls Tryz.prog 158 #[.pointer (some ⟨g,0,none⟩)] w fun e w'=>e = .returned (.bool false)/\w=w':=by
 obtain ⟨A,c,hB,ho⟩:=h;(have hc:=fun o=>hB.cell o);clear hB ho;go_enter Tryz.func158,Tryz.ntmps158;go_wp2_with fail;go_ret;exact ⟨rfl,rfl⟩
theorem qKw {g:Nat} {num last:Int} {fl:List Fd} {next:Nat} {w:World} (h:ScAt w g num fl next last) (f:Fd) (hf:fl[next]?=some f) (hn:fl.length<=1000000) :
 Calls Tryz.prog 150 #[.pointer (some ⟨g,0,none⟩),.bool f.quoted] w fun e w'=>e = .returned (.tuple #[.string f.text,.bool true])/\ScAt w' g num fl (next+1) f.col/\ButB g w w':=by
 have HD:=gH (qTc h);obtain ⟨A,c,hB,ho⟩:=h;have hlt:=(List.getElem?_eq_some_iff.1 hf).1;obtain ⟨A',c',hv,hcap,-,hsl,-⟩:=qBn (f:=Fd.vals) (size:=3) (fun _=>rfl) rfl ho
 cases hv
 obtain ⟨b,off,f',hA,hf',hcl⟩:=hsl.at_ hlt;subst hA;rw [hf] at hf'
 cases hf'
 have c0:=hcl 0 _ rfl;have c1:=hcl 1 _ rfl;have c2:=hcl 2 _ rfl;simp only [Nat.add_zero] at c0;have q1:((next:Int) == (fl.length:Int))=false:=beq_eq_false_iff_ne.2 (by omega);have HO:=gH ho;have HB:=gH hB;obtain ⟨n,hn2⟩:∃ n,n=fl.length:=⟨_,rfl⟩;have HN2:=gH hn2;rw [← hn2] at hB hlt q1 hn;clear hn2;(have hc:=fun o=>hB.cell o);(have hfz:=fun o=>hB.frozen o);have hglt:=hB.lt;clear ho hcl hsl hf hB;go_enter Tryz.func150,Tryz.ntmps150;go_wp2_with fail;refine HD.out.mono ?_;rintro e w1 ⟨rfl,rfl⟩;go_wp2_with fail;go_quiet (fail);go_wp2_with fail;have hx1:Ext w (w.drewN nq):=(Ext.refl w).drewN nq;generalize w.drewN nq=W1 at *;clear hc hfz;have HX1:=gH hx1;have HB1:=gH (HB.out.ext hx1);have k0:=hx1.cell c0;have k1:=hx1.cell c1;have k2:=hx1.cell c2;have kb0:=HB1.out.cell 1;have kb1:=HB1.out.cell 2;rw [← HN2.out] at kb0;simp only [gA,gB,gC] at kb0 kb1;clear c0 c1 c2 hx1
 refine qBb [some 22,some 23,some 24,some 25,some 26,some 27,some 28,some 29,some 30,some 31,some 32,some 6,none] [[],[0],[1],[2],[3],[],[5],[6],[7],[4,8],[9],[],[11,10,0,1,2,3,4,5,6,7,8,9,10,11]] [12] [11] [.pointer (some ⟨g,0,none⟩),.pointer (some ⟨g,0,none⟩),.pointer (some ⟨g,0,none⟩),.pointer (some ⟨g,1,none⟩),.slice (some ⟨b,off,none⟩) n c,.pointer (some ⟨g,0,none⟩),.pointer (some ⟨g,0,none⟩),.pointer (some ⟨g,2,none⟩),.int .i64 (next:Int),.pointer (some ⟨b,off+next*3,none⟩),.agg #[.string f.text,.int .i64 f.col,.bool f.quoted],undef,undef] (fun _=>.cells #[.string ⟨#[]⟩,.int .i64 0,.bool false] 122) (VrJ 122 11 #[.string ⟨#[]⟩,.int .i64 0,.bool false] #[.string f.text,.int .i64 f.col,.bool f.quoted] W1) (by kernel_rfl) (by kernel_rfl) (by kernel_rfl) (by kernel_rfl) (by kernel_rfl) (by kernel_rfl) (by kernel_rfl) (by decide) (by kernel_rfl) ?_ ?_ ?_ ?_ ?_ ?_
 . exact VrJ.start W1
 . intro i o ho ha a w' K' hk
   match i,ho with
   | 0,ho | 1,ho | 2,ho | 3,ho | 4,ho | 5,ho | 6,ho | 7,ho | 8,ho | 9,ho | 10,ho=>simp at ha
   | 11,ho =>
    simp only [gA,gB,gC,gD] at ho;subst ho;exact qDv rfl Tryz.zeroValue122 hk
   | 12,ho=>simp at ha
   | i+13,ho=>simp at ho
 . intro i ha us gs w' hJ hn hlim
   match i,ha with
   | 0,ha | 1,ha | 2,ha | 3,ha | 4,ha | 5,ha | 6,ha | 7,ha | 8,ha | 9,ha | 10,ha=>simp at ha
   | 11,ha=>exact hJ.alloc (hlim 0 12 rfl rfl)
   | 12,ha=>simp at ha
   | i+13,ha=>simp at ha
 . intro i o ho hc ha a w' us gs K' hJ hF hlim hk
   match i,ho with
   | 0,ho =>
    simp only [gA,gB,gC,gD] at ho;subst ho;have e0:=hF.old 0 (.pointer (some ⟨g,0,none⟩)) rfl rfl;simp only [Act.eval] at e0;clear hF hlim hJ;go_simp;exact hk
   | 1,ho =>
    simp only [gA,gB,gC,gD] at ho;subst ho;have e22:=hF.pure 0 22 (.pointer (some ⟨g,0,none⟩)) rfl rfl rfl rfl rfl;simp only [Act.eval] at e22;clear hF hlim hJ;go_simp;exact hk
   | 2,ho =>
    simp only [gA,gB,gC,gD] at ho;subst ho;have e23:=hF.pure 1 23 (.pointer (some ⟨g,0,none⟩)) rfl rfl rfl rfl rfl;simp only [Act.eval] at e23;clear hF hlim hJ;go_simp;exact hk
   | 3,ho =>
    simp only [gA,gB,gC,gD] at ho;subst ho;have e24:=hF.pure 2 24 (.pointer (some ⟨g,0,none⟩)) rfl rfl rfl rfl rfl;simp only [Act.eval] at e24;clear hF hlim hJ;go_simp;exact hk
   | 4,ho =>
    simp only [gA,gB,gC,gD] at ho;subst ho;have e25:=hF.pure 3 25 (.pointer (some ⟨g,1,none⟩)) rfl rfl rfl rfl rfl;have hcl:=hJ.ext.cell (kb0);simp only [Act.eval] at e25;clear hF hlim hJ;go_simp;exact hk
   | 5,ho =>
    simp only [gA,gB,gC,gD] at ho;subst ho;have e0:=hF.old 0 (.pointer (some ⟨g,0,none⟩)) rfl rfl;simp only [Act.eval] at e0;clear hF hlim hJ;go_simp;exact hk
   | 6,ho =>
    simp only [gA,gB,gC,gD] at ho;subst ho;have e27:=hF.pure 5 27 (.pointer (some ⟨g,0,none⟩)) rfl rfl rfl rfl rfl;simp only [Act.eval] at e27;clear hF hlim hJ;go_simp;exact hk
   | 7,ho =>
    simp only [gA,gB,gC,gD] at ho;subst ho;have e28:=hF.pure 6 28 (.pointer (some ⟨g,0,none⟩)) rfl rfl rfl rfl rfl;simp only [Act.eval] at e28;clear hF hlim hJ;go_simp;exact hk
   | 8,ho =>
    simp only [gA,gB,gC,gD] at ho;subst ho;have e29:=hF.pure 7 29 (.pointer (some ⟨g,2,none⟩)) rfl rfl rfl rfl rfl;have hcl:=hJ.ext.cell (kb1);simp only [Act.eval] at e29;clear hF hlim hJ;go_simp;exact hk
   | 9,ho =>
    simp only [gA,gB,gC,gD] at ho;subst ho;have e26:=hF.pure 4 26 (.slice (some ⟨b,off,none⟩) n c) rfl rfl rfl rfl rfl;have e30:=hF.pure 8 30 (.int .i64 (next:Int)) rfl rfl rfl rfl rfl;simp only [Act.eval] at e26 e30;clear hF hlim hJ;go_simp;exact hk
   | 10,ho =>
    simp only [gA,gB,gC,gD] at ho;subst ho;have e31:=hF.pure 9 31 (.pointer (some ⟨b,off+next*3,none⟩)) rfl rfl rfl rfl rfl;have q0:=hJ.ext.cell k0;have q1:=hJ.ext.cell k1;have q2:=hJ.ext.cell k2;simp only [Act.eval] at e31;clear hF hlim hJ;go_simp;exact hk
   | 11,ho=>simp at ha
   | 12,ho=>simp at hc
   | i+13,ho=>simp at ho
 . intro p c' o hp ho a w' us gs K' hl hJ hF hk
   match p,hp with
   | 0,hp =>
    (obtain rfl:12=c':=by simpa using hp);simp only [gA,gB,gC,gD] at ho;subst ho;obtain rfl:us=[]:=List.eq_nil_of_length_eq_zero hl;obtain ⟨g6,hg6,e6⟩:=hF.ptr 11 6 rfl rfl rfl rfl;have e32:=hF.pure 10 32 (.agg #[.string f.text,.int .i64 f.col,.bool f.quoted]) rfl rfl rfl rfl rfl;exact qCh 122 (.tmp 6) (.tmp 32) rfl g6 122 _ _ e6 e32 (by exact qJv) (by simp [Value.oneCell']) (hJ.blk hg6 (by simp)) rfl (hk undef _ (hJ.store hg6 rfl))
   | p+1,hp=>simp at hp
 intro us gs w4 hl hgs hJ;obtain ⟨u0,rfl⟩:=qBv hl;obtain ⟨g11,hg11⟩:=Option.isSome_iff_exists.1 (hgs 11 rfl)
 first | (rename_i hK;refine hK _ _ ?_;clear hK) | (rename_i hK hK_1;refine hK _ _ ?_;clear hK) | (rename_i hK hK_1 hK_2;refine hK _ _ ?_;clear hK) | (rename_i hK hK_1 hK_2 hK_3;refine hK _ _ ?_;clear hK)
 generalize hL:qFy _ _ _ _ _ _=L;obtain rfl:L=[(22,.pointer (some ⟨g,0,none⟩)),(23,.pointer (some ⟨g,0,none⟩)),(24,.pointer (some ⟨g,0,none⟩)),(25,.pointer (some ⟨g,1,none⟩)),(26,.slice (some ⟨b,off,none⟩) n c),(27,.pointer (some ⟨g,0,none⟩)),(28,.pointer (some ⟨g,0,none⟩)),(29,.pointer (some ⟨g,2,none⟩)),(30,.int .i64 (next:Int)),(31,.pointer (some ⟨b,off+next*3,none⟩)),(32,.agg #[.string f.text,.int .i64 f.col,.bool f.quoted]),(6,.pointer ((gs 11).map fun g=>⟨g,0,none⟩))]:=hL.symm.trans (by kernel_rfl);rw [hg11];clear hL hl;simp only [Act.put,Option.map_some,List.foldl_cons,List.foldl_nil,List.setIfInBounds_toArray,List.set_cons_zero,List.set_cons_succ];obtain ⟨hgl11,hgb11⟩:=hJ.va g11 hg11;rw [if_neg (by simp)] at hgb11;have hxj:=hJ.ext;clear hJ hgs hg11;have HB4:=gH (HB1.out.ext hxj);have HO4:=gH (qAh HO.out (HX1.out.trans hxj));have HX4:=gH (HX1.out.trans hxj);(have hgne:g11≠g:=by have:=HB1.out.lt;omega);(have hqq:(f.quoted != f.quoted)=false:=by simp);have HF4:=gH hgb11;rw [← HN2.out] at HB4 HO4;have HP2:=gH (HB4.out.put #[.int .i64 num,.slice (some ⟨b,off,none⟩) n c,.int .i64 ((next:Int)+1),.int .i64 last,.int .i64 0,.int .i64 0,.int .i64 0]);have HP3:=gH (HP2.out.put #[.int .i64 num,.slice (some ⟨b,off,none⟩) n c,.int .i64 ((next:Int)+1),.int .i64 f.col,.int .i64 0,.int .i64 0,.int .i64 0])
 have HF2:=gH (HF4.out.put_other (g':=g) (t':=234) hgne.symm #[.int .i64 num,.slice (some ⟨b,off,none⟩) n c,.int .i64 ((next:Int)+1),.int .i64 last,.int .i64 0,.int .i64 0,.int .i64 0]);have HF3:=gH (HF4.out.put_other (g':=g) (t':=234) hgne.symm #[.int .i64 num,.slice (some ⟨b,off,none⟩) n c,.int .i64 ((next:Int)+1),.int .i64 f.col,.int .i64 0,.int .i64 0,.int .i64 0]);have HO5:=gH (qBi (cs:=#[.int .i64 num,.slice (some ⟨b,off,none⟩) n c,.int .i64 ((next:Int)+1),.int .i64 f.col,.int .i64 0,.int .i64 0,.int .i64 0]) HO4.out HB4.out (by decide));rw [qBa] at HP3;have hst2:w4.setCell ⟨g,2,none⟩ (.int .i64 ((next:Int)+1))=putB w4 g 234 #[.int .i64 num,.slice (some ⟨b,off,none⟩) n c,.int .i64 ((next:Int)+1),.int .i64 last,.int .i64 0,.int .i64 0,.int .i64 0]:=qAd HB4.out 2 _
 have hst3:(putB w4 g 234 #[.int .i64 num,.slice (some ⟨b,off,none⟩) n c,.int .i64 ((next:Int)+1),.int .i64 last,.int .i64 0,.int .i64 0,.int .i64 0]).setCell ⟨g,3,none⟩ (.int .i64 f.col)=putB w4 g 234 #[.int .i64 num,.slice (some ⟨b,off,none⟩) n c,.int .i64 ((next:Int)+1),.int .i64 f.col,.int .i64 0,.int .i64 0,.int .i64 0]:=by
  rw [qAd HP2.out 3 _,qBa];rfl
 (have ha:=fun o=>HB4.out.cell o);(have ha':=fun o=>HB4.out.frozen o);(have hb:=fun o=>HP2.out.cell o);(have hb':=fun o=>HP2.out.frozen o);(have hd:=fun o=>HF4.out.cell o);(have he:=fun o=>HF2.out.cell o);(have hf9:=fun o=>HF3.out.cell o);clear hgb11 hxj k0 k1 k2 kb0 kb1;go_wp2_with fail;go_ret2;refine ⟨rfl,⟨some ⟨b,off,none⟩,c,?_,?_⟩,((ButB.ext HX4.out)).put _ _⟩
 . rw [← HN2.out];exact HP3.out
 . rw [← HN2.out];exact HO5.out
theorem qTk {g:Nat} {num last:Int} {fl:List Fd} {next:Nat} {w:World} (h:ScAt w g num fl next last) (f:Fd) (hf:fl[next]?=some f) (hq:f.quoted=false) (hn:fl.length<=1000000) :
 Calls Tryz.prog 66 #[.pointer (some ⟨g,0,none⟩)] w fun e w'=>e = .returned (.string f.text)/\ScAt w' g num fl (next+1) f.col/\ButB g w w':=by
 have HT:=gH (qKw h f hf hn);rw [hq] at HT;clear h hf;go_enter Tryz.func66,Tryz.ntmps66;go_wp2_with fail;refine HT.out.mono ?_;rintro e w1 ⟨rfl,h1,h2⟩;go_wp2_with fail;go_ret;exact ⟨rfl,h1,h2⟩
theorem qLq {g:Nat} {num last:Int} {fl:List Fd} {next:Nat} {w:World} (h:ScAt w g num fl next last) (f:Fd) (hf:fl[next]?=some f) (hq:f.quoted=true) (hn:fl.length<=1000000) :
 Calls Tryz.prog 69 #[.pointer (some ⟨g,0,none⟩)] w fun e w'=>e = .returned (.string f.text)/\ScAt w' g num fl (next+1) f.col/\ButB g w w':=by
 have HT:=gH (qKw h f hf hn);rw [hq] at HT;clear h hf;go_enter Tryz.func69,Tryz.ntmps69;go_wp2_with fail;refine HT.out.mono ?_;rintro e w1 ⟨rfl,h1,h2⟩;go_wp2_with fail;go_ret;exact ⟨rfl,h1,h2⟩
theorem qGt {g:Nat} {num last:Int} {fl:List Fd} {next:Nat} {w:World} (h:ScAt w g num fl next last) (f:Fd) (hf:fl[next]?=some f) (hq:f.quoted=false) (hn:fl.length<=1000000) (n lo hi:Int) (hs:DigS f.text) (hp:Lib.parseIntB 64 f.text.data.toList = .ok n) (h0:lo<=n) (h1:n<=hi) :
 Calls Tryz.prog 64 #[.pointer (some ⟨g,0,none⟩),.int .i64 lo,.int .i64 hi] w fun e w'=>e = .returned (.int .i64 n)/\ScAt w' g num fl (next+1) f.col/\ButB g w w':=by
 have HT:=gH (qKw h f hf hn);rw [hq] at HT;have HN:=gH (fun w=>zBf f.text n lo hi w hs hp h0 h1);clear h hf hs hp h0 h1;go_enter Tryz.func64,Tryz.ntmps64;go_wp2_with fail;refine HT.out.mono ?_;rintro e w1 ⟨rfl,h1,h2⟩;have H1:=gH h1;have H2:=gH h2;clear h1 h2;go_wp2_with fail;refine (HN.out _).mono ?_;rintro e w2 ⟨rfl,hx⟩;have HX:=gH hx;clear hx;go_wp2_with fail;go_ret;exact ⟨rfl,H1.out.ext HX.out,H2.out.trans (.ext HX.out)⟩
theorem qTi {g:Nat} {num last:Int} {fl:List Fd} {next:Nat} {w:World} (h:ScAt w g num fl next last) (f:Fd) (hf:fl[next]?=some f) (hq:f.quoted=false) (hn:fl.length<=1000000) (hd:f.text=⟨#[45]⟩) :
 Calls Tryz.prog 67 #[.pointer (some ⟨g,0,none⟩),.bool true] w fun e w'=>e = .returned (.string ⟨#[]⟩)/\ScAt w' g num fl (next+1) f.col/\ButB g w w':=by
 have HT:=gH (qKw h f hf hn);rw [hq,hd] at HT;(have q1:((⟨#[45]⟩:ByteArray).toList == (⟨#[45]⟩:ByteArray).toList)=true:=by simp);clear h hf;go_enter Tryz.func67,Tryz.ntmps67;go_wp2_with fail;refine HT.out.mono ?_;rintro e w1 ⟨rfl,h1,h2⟩;go_wp2_with fail;go_ret;exact ⟨rfl,h1,h2⟩
def qFj (w:World) (A:Option Addr) (n:Nat) (l:List ByteArray):Prop:=Sl w 1 (Cells fun x=>[Value.string x]) A n l
def ChRel (w:World) (ws:List ByteArray) (j:Nat) (v:Value) (wr:World):Prop:=∃ k:Nat,k<=j/\v = .int .i64 k/\w=wr
theorem qIx {g:Nat} {num last:Int} {fl:List Fd} {next:Nat} {w:World} (h:ScAt w g num fl next last) (f:Fd) (hf:fl[next]?=some f) (hq:f.quoted=false) (hn:fl.length<=1000000) (A:Option Addr) (m c:Nat) (ws:List ByteArray) (j:Nat)
 (hw:∀ w',ButB g w w'->qFj w' A m ws) (hm:m<=1000000) (hj:ws[j]?=some f.text) (hne:∀ i x,i<j->ws[i]?=some x->x≠f.text) :
 Calls Tryz.prog 61 #[.pointer (some ⟨g,0,none⟩),.slice A m c] w fun e w'=>e = .returned (.int .i64 (j:Int))/\ScAt w' g num fl (next+1) f.col/\ButB g w w':=by
 have HT:=gH (qKw h f hf hn);rw [hq] at HT;have HJ:=gH hj;have HNe:=gH hne;have HW:=gH hw;have hml:ws.length=m:=(hw w (ButB.refl w)).len;(have hjm:j<m:=by have:=(List.getElem?_eq_some_iff.1 hj).1;omega);obtain ⟨tx,htx⟩:∃ tx,tx=f.text:=⟨_,rfl⟩;rw [← htx] at HT HJ HNe;clear h hf hw hj hne htx hml;go_enter Tryz.func61,Tryz.ntmps61;go_wp2_with fail;refine HT.out.mono ?_;rintro e w1 ⟨rfl,h1,h2⟩;have H1:=gH h1;have H2:=gH h2;clear h1 h2;go_wp2_with fail
 go_loopw [18] (fun v wr=>ChRel w1 ws j v wr) (fun v _=>j+1-(intOf v).toNat)
 case atStart=>exact ⟨0,Nat.zero_le _,rfl,rfl⟩
 case round =>
  obtain ⟨k,hk,rfl,rfl⟩:=hrel;obtain ⟨b,off,x,rfl,hx,hc⟩:=(HW.out _ H2.out).at_ (i:=k) (by omega);have c0:=hc 0 _ rfl;simp only [Nat.mul_one,Nat.add_zero] at c0;have HX:=gH hx;clear hc hx
  by_cases hkj:k<j
  . have q1:(x.toList == tx.toList)=false:=zPa (HNe.out k x hkj HX.out)
    go_wp2_with fail;exact ⟨⟨k+1,by omega,by go_num,rfl⟩,by simp [intOf];omega⟩
  . obtain rfl:k=j:=by omega
    (have hxt:x=tx:=by have:=HX.out;rw [HJ.out] at this;exact (Option.some.inj this).symm);(have q1:(x.toList == tx.toList)=true:=by rw [hxt];simp);clear hxt;go_wp2_with fail;go_ret;exact ⟨rfl,H1.out,H2.out⟩
theorem zLo {g:Nat} {num last:Int} {fl:List Fd} {next:Nat} {w:World} (h:ScAt w g num fl next last) (c:Int) :
 Calls Tryz.prog 151 #[.pointer (some ⟨g,0,none⟩),.int .i64 c,.int .i64 0] w fun e w'=>e = .returned (.tuple #[])/\w=w':=by
 have HD:=gH (qTc h);clear h;go_enter Tryz.func151,Tryz.ntmps151;go_wp2_with fail;refine HD.out.mono ?_;rintro e w1 ⟨rfl,rfl⟩;go_wp2_with fail;go_end0;exact ⟨rfl,rfl⟩
theorem zLl {g:Nat} {num last:Int} {fl:List Fd} {next:Nat} {w:World} (h:ScAt w g num fl next last) :
 Calls Tryz.prog 148 #[.pointer (some ⟨g,0,none⟩),.int .i64 0] w fun e w'=>e = .returned (.tuple #[])/\w=w':=by
 have HN:=gH (zLo h);obtain ⟨A,c,hB,-⟩:=h;(have hc:=fun o=>hB.cell o);clear hB;go_enter Tryz.func148,Tryz.ntmps148;go_wp2_with fail;refine (HN.out _).mono ?_;rintro e w1 ⟨rfl,rfl⟩;go_wp2_with fail;go_end0;exact ⟨rfl,rfl⟩
theorem zAr {g:Nat} {num last:Int} {fl:List Fd} {next:Nat} {w:World} (h:ScAt w g num fl next last) (hn:fl.length<=1000000) (hnx:next<=fl.length) :
 Calls Tryz.prog 72 #[.pointer (some ⟨g,0,none⟩)] w fun e w'=>e = .returned (.int .i64 ((fl.length-next:Nat):Int))/\Ext w w':=by
 have HD:=gH (qTc h);obtain ⟨A,c,hB,-⟩:=h;(have hc:=fun o=>hB.cell o);have HR:Hid (((fl.length-next:Nat):Int)=(fl.length:Int)-next):=gH (by omega);obtain ⟨n,hn2⟩:∃ n,n=fl.length:=⟨_,rfl⟩;rw [← hn2] at hc HR hn hnx ⊢;clear hB hn2;go_enter Tryz.func72,Tryz.ntmps72;go_wp2_with fail;refine HD.out.mono ?_;rintro e w1 ⟨rfl,rfl⟩;go_wp2_with fail;go_quiet (fail);go_wp2_with fail;go_ret;exact ⟨by rw [HR.out];rfl,(Ext.refl w).drewN nq⟩
theorem qTd {g:Nat} {num last:Int} {fl:List Fd} {w:World} (h:ScAt w g num fl fl.length last) (hn:fl.length<=1000000) :
 Calls Tryz.prog 74 #[.pointer (some ⟨g,0,none⟩)] w fun e w'=>e = .returned (.tuple #[.agg #[.int .i64 0,.int .i64 0,.int .i64 0],.bool false])/\Ext w w':=by
 obtain ⟨A,c,hB,-⟩:=h;have hx:=(Ext.refl w).alloc (.cells #[.int .i64 0,.int .i64 0,.int .i64 0] 116);have HX:=gH hx;(have hc:=fun o=>(hB.ext hx).cell o);obtain ⟨n,hn2⟩:∃ n,n=fl.length:=⟨_,rfl⟩;rw [← hn2] at hc hn;have HB:=gH (Blk.new w 116 #[.int .i64 0,.int .i64 0,.int .i64 0]);clear hB hn2 hx;go_enter Tryz.func74,Tryz.ntmps74;go_wp2_with fail;go_quiet (fail);have HB1:=gH (HB.out.drewN nq);have HX1:=gH (HX.out.drewN nq);generalize World.drewN _ nq=W1 at *;go_wp2_with (refine qAc rfl 116 (.tmp 2) (.tmp 49) rfl w.heap.size 116 _ _ (by exact rfl) (by exact rfl) (by exact HB1.out) rfl (by exact qCo) (by simp [Value.oneCell']) ?_);refine bodyPost_ret (v:=.tuple #[.agg #[.int .i64 0,.int .i64 0,.int .i64 0],.bool false]) ?_ rfl ⟨rfl,HX1.out.put (Nat.le_refl _) _ _⟩;exact qAq (P:=Tryz.prog) Tryz.results74 (g:=w.heap.size) rfl (by exact HB1.out.put _) Tryz.underlying116 rfl qCo
def qOk (deps:List (List Nat)):Nat->Nat->Nat->Bool
 | 0,c,i=>(deps.getD c []).contains i
 | f+1,c,i=>(deps.getD c []).contains i || (deps.getD c []).any fun j=>qOk deps f j i
theorem qHe {deps:List (List Nat)} {D:Nat->Prop} {i:Nat} (hD:∀ j k,D j->(deps.getD j []).contains k=true->D k):∀ (f c:Nat),D c->qOk deps f c i=true->D i
 | 0,c,hc,h=>hD c i hc h
 | f+1,c,hc,h=>by
  unfold qOk at h
  rcases Bool.or_eq_true_iff.1 h with h | h
  . exact hD c i hc h
  . obtain ⟨j,hj,h1⟩:=List.any_eq_true.1 h
    exact qHe hD f j (hD c j hc (by simpa using hj)) h1
theorem qMk {P:Program} {ops:Array Oper} {Q:Exit->Act->World->Prop} {id:Nat} {a0:Act} {W:World} (chain:List Nat) (pv:List Value) (J:List Value->World->Prop) (hm:P.follows .mixedOrders=true) (hdst:qGi ops a0.tmps.size=true) (hord:ordB 0 ops.toList=true)
 (hch:qEl ops chain=true) (hnd:chain.Nodup) (h0:J [] W.drew)
 (hpure:∀ (i:Nat) (o:Oper),ops[i]?=some o->chain.contains i=false->∀ (a:Act) (w:World) (us:List Value) (K:Act->World->Prop),J us w->qRo ops chain pv us a0 a o->(∀ p c,chain[p]?=some c->(∀ D:Nat->Prop,(∀ j oj,D j->ops[j]?=some oj->∀ d∈oj.after,Region.binds .any d=true->D d.on)->D c->D i)->us.length<=p)->K (a.put o.dst (pv.getD i undef)) w ->
  if Region.wanted o (yielded ops a.tmps)=true then Oper.wp P o a w K Q else K (a.put o.dst undef) w)
 (hlink:∀ (p c:Nat) (o:Oper),chain[p]?=some c->ops[c]?=some o->∀ (a:Act) (w:World) (us:List Value) (K:Act->World->Prop),us.length=p->J us w->qRo ops chain pv us a0 a o->(∀ v w',J (us++[v]) w'->K (a.put o.dst v) w') ->
  if Region.wanted o (yielded ops a.tmps)=true then Oper.wp P o a w K Q else K (a.put o.dst undef) w)
 (hQ:∀ us w,us.length=chain.length->J us w->Q .normal { a0 with tmps:=(qCd ops chain pv us).foldl (fun t p=>t.setIfInBounds p.1 p.2) a0.tmps } w) :
 (Code.region id ops true).wp P Q a0 W:=by
 refine wp_region_any hm ?_;refine qGv (zPq ops chain pv a0 J) (fun l a w h=>h.1) ?_ (zGk hord) ?_ _ _ _ _ (by simp) ?_
 . intro l a w hI i o ho hl hall K hK
   obtain ⟨hs,hdf,hsz,hnot,hcl,us,hul,hcu,hval,hJ⟩:=hI;have hi:i<ops.size:=(Array.getElem?_eq_some_iff.1 ho).1;have hnl:=qIs hl;have hself:(l.setIfInBounds i true).getD i false=true:=qFc (by omega)
   have hfind:qRo ops chain pv us a0 a o:=by
    refine ⟨fun s hsn=>?_,fun j s v he hd hc hv=>?_,fun p j s v hp he hd hv=>?_,fun p j hp he=>by obtain ⟨d,hd1,hd2,rfl⟩:=qDy he;exact (hcu p _ hp).1 (hall d hd1 hd2),fun p j s hp hj hl0=>hnot s fun j' hj'=>by
     have e:j'=j:=qHt hdst hj' hj;subst e
     cases hx:l.getD j' false
     . rfl
     . exact absurd ((hcu p _ hp).1 hx) (by omega)⟩
    . have:=hnot s (fun j hj=>by
       unfold dstO at hj;rw [Option.bind_eq_some_iff] at hj;obtain ⟨o',h1,h2⟩:=hj;have h3:=List.all_eq_true.1 hsn o' (by simpa using Array.mem_of_getElem? h1);rw [h2] at h3
       simp at h3)
      simp [Act.eval,this]
    . obtain ⟨d,hd1,hd2,rfl⟩:=qDy he
      rw [hval _ s (hall d hd1 hd2) hd];have:chain.idxOf? d.on=none:=qBx (by simpa using hc);simp only [qFv,this];simp [hv]
    . obtain ⟨d,hd1,hd2,rfl⟩:=qDy he
      rw [hval _ s (hall d hd1 hd2) hd];have:chain.idxOf? d.on=some p:=qBk hnd hp;simp only [qFv,this];simp [hv]
   have hclosed:∀ j o',(l.setIfInBounds i true).getD j false=true->ops[j]?=some o'->∀ d∈o'.after,Region.binds .any d=true->(l.setIfInBounds i true).getD d.on false=true:=by
    intro j o' hj ho' d hd hb
    have mono:∀ k,l.getD k false=true->(l.setIfInBounds i true).getD k false=true:=fun k hk=>by
     by_cases hik:i=k
     . subst hik;exact hself
     . rw [qAj hik];exact hk
    by_cases hij:i=j
    . subst hij
      rw [ho] at ho'
      cases ho'
      exact mono _ (hall d hd hb)
    . rw [qAj hij] at hj
      exact mono _ (hcl j o' hj ho' d hd hb)
   have hput:∀ v s,(∀ j,dstO ops j=some s->(l.setIfInBounds i true).getD j false=false)->(a.put o.dst v).tmps[s]?=a0.tmps[s]?:=fun v s hsn=>by
    have hsn':∀ j,dstO ops j=some s->l.getD j false=false:=fun j hj=>by
     have h1:=hsn j hj
     by_cases hij:i=j
     . subst hij;rw [hself] at h1;cases h1
     . rwa [qAj hij] at h1
    cases hd:o.dst with
    | none=>simp only [Act.put];exact hnot s hsn'
    | some t =>
     have:dstO ops i=some t:=by unfold dstO;rw [ho];exact hd
     have hts:t≠s:=fun e=>by
      have h1:=hsn i (by rw [this,e]);(rw [hself] at h1;cases h1)
     simp only [Act.put];rw [Array.getElem?_setIfInBounds_ne hts];exact hnot s hsn'
   have hputd:∀ v,(a.put o.dst v).defers=a0.defers/\(a.put o.dst v).tmps.size=a0.tmps.size:=fun v=>by
    cases hd:o.dst with
    | none=>exact ⟨hdf,hsz⟩
    | some t=>exact ⟨hdf,by simpa [Act.put] using hsz⟩
   have hputv:∀ us' v,qFv chain pv us' i=v->(∀ j,l.getD j false=true->qFv chain pv us' j=qFv chain pv us j)->∀ j s,(l.setIfInBounds i true).getD j false=true->dstO ops j=some s->(a.put o.dst v).tmps[s]?=some (qFv chain pv us' j):=by
    intro us' v hv hsame j s hj hd
    by_cases hij:i=j
    . subst hij
      (have hod:o.dst=some s:=by unfold dstO at hd;rw [ho] at hd;exact hd);rw [hod,hv];have:=qZo hdst hd;simp [Act.put,hsz,this]
    . rw [qAj hij] at hj
      rw [hsame j hj]
      cases hod:o.dst with
      | none=>simp only [Act.put];exact hval j s hj hd
      | some t =>
       (have h1:dstO ops i=some t:=by unfold dstO;rw [ho];exact hod);(have hts:t≠s:=fun e=>hij (qHt hdst h1 (by rw [hd,e])));simp only [Act.put];rw [Array.getElem?_setIfInBounds_ne hts];exact hval j s hj hd
   by_cases hc:i∈chain
   . obtain ⟨p,hp⟩:=List.getElem?_of_mem hc
     have hle:us.length<=p:=by
      rcases Nat.lt_or_ge p us.length with h | h
      . have:=(hcu p i hp).2 h
        rw [hnl] at this
        cases this
      . exact h
     have hge:p<=us.length:=by
      cases p with
      | zero=>omega
      | succ q =>
       have hpl:=(List.getElem?_eq_some_iff.1 hp).1;have hq:chain[q]?=some chain[q]:=List.getElem?_eq_getElem (by omega);have:=(hcu q _ hq).1 (qIo hcl hall hch hq hp ho);omega
     have hpl:=(List.getElem?_eq_some_iff.1 hp).1;refine hlink p i o hp ho a w us K (by omega) hJ hfind (fun v w' hJ'=>?_);apply hK;(have hlen:(us++[v]).length=us.length+1:=by simp);refine ⟨by simpa using hs,(hputd v).1,(hputd v).2,hput v,hclosed,us++[v],by rw [hlen];omega,fun q c hq=>?_,hputv _ v ?_ ?_,hJ'⟩
     . rw [hlen]
       by_cases hic:i=c
       . subst hic
         have:q=p:=by
          have h1:=qBk hnd hq;have h2:=qBk hnd hp;rw [h1] at h2;exact Option.some.inj h2
         rw [hself];simp;omega
       . rw [qAj hic,hcu q c hq]
         (have:q≠p:=fun e=>hic (by rw [e,hp] at hq;exact Option.some.inj hq));omega
     . simp only [qFv,qBk hnd hp]
       rw [List.getD_eq_getElem?_getD,List.getElem?_append_right (by omega)];(have:p-us.length=0:=by omega);simp [this]
     . intro j hj
       unfold qFv
       cases hx:chain.idxOf? j with
       | none=>rfl
       | some q =>
        have hq:chain[q]?=some j:=by
         obtain ⟨h1,h2,_⟩:=List.idxOf?_eq_some_iff.1 hx;rw [List.getElem?_eq_getElem h1,h2]
        have:=(hcu q j hq).1 hj;simp only [List.getD_eq_getElem?_getD];rw [List.getElem?_append_left this]
   . refine hpure i o ho (by simpa using hc) a w us K hJ hfind (fun p c hp he=>?_) ?_
     . rcases Nat.lt_or_ge p us.length with h | h
       . have:=he (fun k=>l.getD k false=true) hcl ((hcu p c hp).2 h)
         rw [hnl] at this
         cases this
       . exact h
     . apply hK
       refine ⟨by simpa using hs,(hputd _).1,(hputd _).2,hput _,hclosed,us,hul,fun q c hq=>?_,hputv us _ ?_ (fun _ _=>rfl),hJ⟩
       . have:i≠c:=fun e=>hc (by rw [e];exact List.mem_of_getElem? hq)
         rw [qAj this];exact hcu q c hq
       . simp only [qFv,qBx hc]
 . rintro l a w ⟨hs,hdf,hsz,hnot,hcl,us,hul,hcu,hval,hJ⟩ hall
   have hlen:us.length=chain.length:=by
    rcases Nat.lt_or_ge us.length chain.length with h | h
    . have hq:chain[us.length]?=some chain[us.length]:=List.getElem?_eq_getElem h
      have:=(hcu _ _ hq).1 (hall _ (qEs hch hq));omega
    . omega
   have hfr:=qIr (a0:=a0.tmps) (qCd ops chain pv us) a.tmps a0.tmps hsz (fun p hp=>by
    obtain ⟨j,hj,hv⟩:=List.mem_filterMap.1 hp;rw [Option.map_eq_some_iff] at hv;obtain ⟨s,hd,rfl⟩:=hv
    exact hval j s (hall j (by simpa using hj)) hd) (fun s hsn=>hnot s fun j hj=>absurd (by
     have hjl:j<ops.size:=by
      unfold dstO at hj;rw [Option.bind_eq_some_iff] at hj;obtain ⟨o',h1,_⟩:=hj;exact (Array.getElem?_eq_some_iff.1 h1).1
     rw [List.mem_map]
     exact ⟨(s,qFv chain pv us j),List.mem_filterMap.2 ⟨j,by simpa using hjl,by rw [hj];rfl⟩,rfl⟩) hsn)
   have:a={ a0 with tmps:=(qCd ops chain pv us).foldl (fun t p=>t.setIfInBounds p.1 p.2) a0.tmps }:=by
    obtain ⟨at_,ad⟩:=a;simp only at hfr hdf;rw [hfr,hdf]
   rw [this];exact hQ us w hlen hJ
 . refine ⟨by simp,rfl,rfl,fun _ _=>rfl,fun j o h=>?_,[],by simp,fun i c hc=>?_,fun j s h=>?_,h0⟩
   . simp [Array.getElem?_replicate] at h
     split at h<;>simp at h
   . have:(Array.replicate ops.size false).getD c false=false:=by
      simp [Array.getElem?_replicate]
      split<;>rfl
     rw [this];simp
   . simp [Array.getElem?_replicate] at h
     split at h<;>simp at h
theorem qDo {P:Program} {ops:Array Oper} {Q:Exit->Act->World->Prop} {id:Nat} {a0:Act} {W:World} (slots:List (Option Nat)) (deps:List (List Nat)) (chain:List Nat) (pv:List Value) (J:List Value->World->Prop) (hm:P.follows .mixedOrders=true) (hdst:qGi ops a0.tmps.size=true) (hord:ordB 0 ops.toList=true)
 (hs:ops.toList.map (·.dst)=slots) (hd:ops.toList.map qFm=deps) (hg:ops.toList.all (fun o=>o.guard.isNone)=true) (hch:qEl ops chain=true) (hnd:chain.Nodup) (h0:J [] W.drew)
 (hpure:∀ (i:Nat) (o:Oper),ops[i]?=some o->chain.contains i=false->∀ (a:Act) (w:World) (us:List Value) (K:Act->World->Prop),J us w->Sees slots deps chain pv us a0 a i->(∀ p c,chain[p]?=some c->qOk deps 9 c i=true->us.length<=p)->K (a.put o.dst (pv.getD i undef)) w->Oper.wp P o a w K Q)
 (hlink:∀ (p c:Nat) (o:Oper),chain[p]?=some c->ops[c]?=some o->∀ (a:Act) (w:World) (us:List Value) (K:Act->World->Prop),us.length=p->J us w->Sees slots deps chain pv us a0 a c->(∀ v w',J (us++[v]) w'->K (a.put o.dst v) w')->Oper.wp P o a w K Q)
 (hQ:∀ us w,us.length=chain.length->J us w->Q .normal { a0 with tmps:=(qCd ops chain pv us).foldl (fun t p=>t.setIfInBounds p.1 p.2) a0.tmps } w) :
 (Code.region id ops true).wp P Q a0 W:=by
 have hgd:∀ (i:Nat) (o:Oper),ops[i]?=some o->o.guard=none:=fun i o ho=>by
  have:=List.all_eq_true.1 hg o (by simpa using Array.mem_of_getElem? ho);simpa using this
 refine qMk chain pv J hm hdst hord hch hnd h0 (fun i o ho hc a w us K hJ hF hl hk=>?_) (fun p c o hp ho a w us K hl hJ hF hk=>?_) hQ
 . refine qAm (hgd i o ho) (hpure i o ho hc a w us K hJ (hF.sees hs hd ho) (fun p c hp he=>hl p c hp fun D hD hc=>qHe (fun j k hj hk=>?_) 9 c hc he) hk)
   rw [← hd,List.getD_eq_getElem?_getD,List.getElem?_map] at hk
   cases hoj:ops.toList[j]? with
   | none=>rw [hoj] at hk;simp at hk
   | some oj =>
    rw [hoj] at hk;obtain ⟨d,hd1,hd2,hd3⟩:=qDy (qDk hk);rw [← hd3];exact hD j oj hj (by simpa using hoj) d hd1 hd2
 . exact qAm (hgd c o ho) (hlink p c o hp ho a w us K hl hJ (hF.sees hs hd ho) hk)
theorem qFq {P:Program} {o:Oper} {a:Act} {w:World} {K:Act->World->Prop} {Q:Exit->Act->World->Prop} (s x:Operand) (t:TypeId)
 (ho:o.op = .call { callee:=.builtin .append,args:=#[s,x],argTypes:=#[t,t] })
 {base:Nat} {e:TypeId} {z:Value} {size bytes:Nat} (inf:(P.info? e).map (fun i=>(i.zero,i.size,i.bytes))=some (some z,size,bytes)) (ht:P.underlying t=some (.slice e)) (hzs:z.cells.size=size) (hsz:0<size)
 {v:Value} {n:Nat} {xs:List Value} (hown:w.ownsRow base e size v n xs) (hs:a.eval s=v) (g:Nat) (news:Array Value) (hx:a.eval x = .slice (some ⟨g,0,none⟩) 1 1) (hB:Blk w g e news) (hl:news.size=size) (h1:news.all (·.oneCell')=true)
 (hroom:(n+1)*bytes<=140737488355328) (hmax:n+1<=maxLen) (hbase:base<=w.heap.size)
 (h:∀ v' w',w'.ownsRow base e size v' (n+1) (xs++news.toList)->w.grownBy w' v.ownBlock->(v'.ownBlock=v.ownBlock\/v'.ownBlock=some w.heap.size)->K (a.put o.dst v') w'):o.wp P a w K Q:=by
 obtain ⟨i,hi,hz0,hz1,hz2⟩:=info_parts inf
 obtain ⟨v',w',hrun,h2,h3,_,h5⟩:=run_append_own_at (P:=P) w base t o.type e i z size bytes ht hi hz0 hz1 hz2 hzs hsz v n xs hown ⟨g,0,none⟩ 1 1 news.toList (by simpa using hl)
  (fun j u hu=>by rw [Addr.add_mid,Nat.zero_add,hB.cell];simpa using hu) (fun u hu=>(Array.all_eq_true_iff_forall_mem.1 h1) u (by simpa using hu)) hmax hroom hbase
 unfold Oper.wp execOp;simp only [ho,resolve,invoke,builtin,Sem.run_bind,Sem.run_pure,Result.andThen_ok,List.map_toArray,List.map_cons,List.map_nil,hs,hx,hrun];exact h v' w' h2 h3 h5
theorem qYy {α:Type} {f:α->List Value} {P:Program} (w:World) (t ty:TypeId) {base:Nat} {e:TypeId} {z:Value} {size bytes:Nat} (inf:(P.info? e).map (fun i=>(i.zero,i.size,i.bytes))=some (some z,size,bytes)) (ht:P.underlying t=some (.slice e)) (hzs:z.cells.size=size) (hsz:0<size)
 {v:Value} {n:Nat} {xs:List Value} (hown:w.ownsRow base e size v n xs) {A:Option Addr} {m c:Nat} {l:List α} (hS:Sl w size (Cells f) A m l) (hf:∀ x,(f x).length=size) (h1:∀ x,∀ u∈f x,u.oneCell'=true)
 (hroom:(n+m)*bytes<=140737488355328) (hmax:n+m<=maxLen) (hbase:base<=w.heap.size) :
 ∃ v' w',(Builtin.append_ #[t,t] ty #[v,.slice A m c]).run P w = .ok v' w'/\w'.ownsRow base e size v' (n+m) (xs++l.flatMap f)/\w.grownBy w' v.ownBlock:=by
 obtain ⟨i,hi,hz0,hz1,hz2⟩:=info_parts inf;(have hlen:(l.flatMap f).length=m*size:=by rw [qCc f size hf,hS.len])
 cases A with
 | none =>
  have hm:m=0:=by
   rcases Nat.eq_zero_or_pos m with h0 | h0
   . exact h0
   . obtain ⟨_,_,h,_⟩:=hS.2 h0
     cases h
  subst hm;obtain rfl:l=[]:=List.eq_nil_of_length_eq_zero hS.len;exact ⟨v,w,qGp (P:=P) w base t ty e i size ht hi v n xs hown c,by simpa using hown,World.grownBy.refl w _⟩
 | some ad =>
  obtain ⟨v',w',hrun,h2,h3,_,h5⟩:=run_append_own_at (P:=P) w base t ty e i z size bytes ht hi hz0 hz1 hz2 hzs hsz v n xs hown ad m c (l.flatMap f) hlen (fun j u hu=>by
   rcases Nat.eq_zero_or_pos m with h0 | h0
   . subst h0
     obtain rfl:l=[]:=List.eq_nil_of_length_eq_zero hS.len;simp at hu
   . obtain ⟨b,off,hA,hc⟩:=hS.2 h0
     cases hA
     exact zIg hf hS.len hc j u hu) (qNt h1 l) hmax hroom hbase
  exact ⟨v',w',hrun,h2,h3⟩
theorem zDu {α:Type} {f:α->List Value} {P:Program} {o:Oper} {a:Act} {w:World} {K:Act->World->Prop} {Q:Exit->Act->World->Prop} (s x:Operand) (t:TypeId)
 (ho:o.op = .call { callee:=.builtin .append,args:=#[s,x],argTypes:=#[t,t] })
 {base:Nat} {e:TypeId} {z:Value} {size bytes:Nat} (inf:(P.info? e).map (fun i=>(i.zero,i.size,i.bytes))=some (some z,size,bytes)) (ht:P.underlying t=some (.slice e)) (hzs:z.cells.size=size) (hsz:0<size)
 {v:Value} {n:Nat} {xs:List Value} (hown:w.ownsRow base e size v n xs) (hs:a.eval s=v) {A:Option Addr} {m c:Nat} {l:List α} (hx:a.eval x = .slice A m c) (hS:Sl w size (Cells f) A m l) (hf:∀ x,(f x).length=size) (h1:∀ x,∀ u∈f x,u.oneCell'=true)
 (hroom:(n+m)*bytes<=140737488355328) (hmax:n+m<=maxLen) (hbase:base<=w.heap.size)
 (h:∀ v' w',w'.ownsRow base e size v' (n+m) (xs++l.flatMap f)->w.grownBy w' v.ownBlock->K (a.put o.dst v') w'):o.wp P a w K Q:=by
 obtain ⟨v',w',hrun,h2,h3⟩:=qYy (P:=P) w t o.type inf ht hzs hsz hown (c:=c) hS hf h1 hroom hmax hbase;unfold Oper.wp execOp;simp only [ho,resolve,invoke,builtin,Sem.run_bind,Sem.run_pure,Result.andThen_ok,List.map_toArray,List.map_cons,List.map_nil,hs,hx,hrun];exact h v' w' h2 h3
def ApQS (T:TypeId) (size:Nat) (cells:Array Value) (base:Nat) (v:Value) (k:Nat) (xs:List Value) (p:Addr) (W:World):List Value->World->Prop
 | [],w'=>Ext W w'
 | [u0],w'=>(∃ g,u0 = .slice (some ⟨g,0,none⟩) 1 1/\Blk w' g T cells)/\Ext W w'
 | [_,u1],w'=>∃ w5,Ext W w5/\w5.grownBy w' v.ownBlock/\w'.ownsRow base T size u1 (k+1) (xs++cells.toList)
 | [_,u1,_],w'=>∃ w5 w6,Ext W w5/\w5.grownBy w6 v.ownBlock/\w6.ownsRow base T size u1 (k+1) (xs++cells.toList)/\w'=w6.setCell p u1
 | _,_=>False
structure ApQ (T:TypeId) (size:Nat) (cells:Array Value) (base:Nat) (v:Value) (k:Nat) (xs:List Value) (p:Addr) (W:World) (us:List Value) (w':World):Prop where
 kb:us.length<=2->∀ T',T'≠T->KB T' W w'
 st:ApQS T size cells base v k xs p W us w'
section
variable {T:TypeId} {size:Nat} {cells:Array Value} {base k:Nat} {v:Value} {xs:List Value} {p:Addr} {W w' w2:World} {u0 u1 u2:Value}
theorem ApQ.start (W:World):ApQ T size cells base v k xs p W [] W.drew:=⟨fun _ _ _=>KB.ext (Ext.refl W).drew,(Ext.refl W).drew⟩
theorem ApQ.build (h:ApQ T size cells base v k xs p W [] w'):ApQ T size cells base v k xs p W ([]++[.slice (some ⟨w'.heap.size,0,none⟩) 1 1]) (w'.alloc (.cells cells T)) :=
 ⟨fun _ _ _=>KB.ext (Ext.alloc h.st _),⟨⟨_,rfl,Blk.new w' _ _⟩,Ext.alloc h.st _⟩⟩
theorem ApQ.app (h:ApQ T size cells base v k xs p W [u0] w') (hv:∀ q,v.ownBlock=some q->qBc w' T q) (hg:w'.grownBy w2 v.ownBlock) (ho:w2.ownsRow base T size u1 (k+1) (xs++cells.toList)):ApQ T size cells base v k xs p W ([u0]++[u1]) w2 :=
 ⟨fun _ T' hn=>(h.kb (by simp) T' hn).trans (KB.grown hg hv hn),⟨w',h.st.2,hg,ho⟩⟩
theorem ApQ.store (h:ApQ T size cells base v k xs p W [u0,u1] w'):ApQ T size cells base v k xs p W ([u0,u1]++[u2]) (w'.setCell p u1):=by
 obtain ⟨w5,h1,h2,h3⟩:=h.st;exact ⟨fun hl=>by simp at hl,⟨w5,w',h1,h2,h3,rfl⟩⟩
end
theorem cell_kb {w w1:World} {T:TypeId} {g:Nat} {v:Value} {o:Nat} (hT:qBc w T g) (k:KB T w w1) (h:w.cell? ⟨g,o,none⟩=some v):w1.cell? ⟨g,o,none⟩=some v:=(hT.cell_kb k o).trans h
def qJu (num:Int) (v:Value) (next last:Int):Array Value:=#[.int .i64 num,v,.int .i64 next,.int .i64 last,.int .i64 0,.int .i64 0,.int .i64 0]
def ScJ (W:World) (num:Int) (fl:List Fd):List Value->World->Prop
 | [],w'=>Ext W w'
 | [u0],w'=>w'.ownsRow W.heap.size 122 3 u0 fl.length (fl.flatMap Fd.vals)/\Ext W w'
 | [u0,u1],w'=>u1 = .agg #[.int .i64 num,u0]/\w'.ownsRow W.heap.size 122 3 u0 fl.length (fl.flatMap Fd.vals)/\Ext W w'
 | [u0,_,u2],w'=>u2 = .agg (qJu num u0 0 0)/\w'.ownsRow W.heap.size 122 3 u0 fl.length (fl.flatMap Fd.vals)/\Ext W w'
 | [u0,_,_,u3],w'=>∃ g,u3 = .pointer (some ⟨g,0,none⟩)/\W.heap.size<=g/\Blk w' g 234 (qJu num u0 0 0)/\w'.ownsRow W.heap.size 122 3 u0 fl.length (fl.flatMap Fd.vals)/\Ext W w'
 | [u0,_,_,u3,u4],w'=>u4=u3/\∃ g,u3 = .pointer (some ⟨g,0,none⟩)/\W.heap.size<=g/\Blk w' g 234 (qJu num u0 0 0)/\w'.ownsRow W.heap.size 122 3 u0 fl.length (fl.flatMap Fd.vals)/\Ext W w'
 | _,_=>False
theorem ScJ.ext {W:World} {num:Int} {fl:List Fd}:∀ {us:List Value} {w':World},ScJ W num fl us w'->Ext W w'
 | [],_,h=>h
 | [_],_,h=>h.2
 | [_,_],_,h=>h.2.2
 | [_,_,_],_,h=>h.2.2
 | [_,_,_,_],_,h=>by obtain ⟨g,-,-,-,-,h⟩:=h;exact h
 | [_,_,_,_,_],_,h=>by obtain ⟨-,g,-,-,-,-,h⟩:=h;exact h
 | _ :: _ :: _ :: _ :: _ :: _ :: _,_,h=>h.elim
def qJy (w:World) (A:Option Addr) (n:Nat) (l:List Fd):Prop:=Sl w 3 (Cells Fd.vals) A n l
theorem qJy.ext {w w1:World} {A:Option Addr} {n:Nat} {l:List Fd} (h:qJy w A n l) (k:Ext w w1):qJy w1 A n l:=Sl.ext (Cells.stays _) h k
theorem zOa:∀ f:Fd,∀ u∈f.vals,u.oneCell'=true:=fun f u hu=>by
 simp only [Fd.vals,List.mem_cons,List.not_mem_nil,or_false] at hu
 rcases hu with rfl | rfl | rfl<;>rfl
theorem qBo {w:World} {b b':Nat} {e:TypeId} {size:Nat} {v:Value} {n:Nat} {xs:List Value} (h:w.ownsRow b e size v n xs) (hb:b'<=b):w.ownsRow b' e size v n xs:=by
 refine ⟨h.1,?_⟩
 rcases h.2 with hn | ⟨g,cap,cur,rfl,hg,rest⟩
 . exact .inl hn
 . exact .inr ⟨g,cap,cur,rfl,Nat.le_trans hb hg,rest⟩
theorem qTb (num:Int) (A:Option Addr) (n c:Nat) (fl:List Fd) (w:World) (hl:qJy w A n fl) (hn:n<=1000000) :
 Calls Tryz.prog 60 #[.agg #[.int .i64 num,.slice A n c]] w fun e w'=>∃ g,e = .returned (.pointer (some ⟨g,0,none⟩))/\w.heap.size<=g/\ScAt w' g num fl 0 0/\Ext w w':=by
 have hx:=(Ext.refl w).alloc (.cells #[.int .i64 num,.slice A n c] 119);have HX:=gH hx;have HB:=gH (Blk.new w 119 #[.int .i64 num,.slice A n c]);have HL:=gH (hl.ext hx);have hlen:=hl.len;subst hlen;clear hl hx;go_enter Tryz.func60,Tryz.ntmps60;go_wp2_with fail;obtain ⟨W1,hW1⟩:∃ W1,W1=w.alloc (.cells #[.int .i64 num,.slice A fl.length c] 119):=⟨_,rfl⟩;rw [← hW1] at HX HB HL ⊢;clear hW1;have kc0:=HB.out.cell 0;have kc1:=HB.out.cell 1;simp only [gA,gB,gC] at kc0 kc1;refine qAr [some 3,some 4,some 5,some 6,some 7,some 8,some 9,some 10,some 2] [[],[0],[],[2],[3],[1,4],[5],[6],[7,4,0,1,2,3,4,5,6,7]] [4,5,6,7,8] [.pointer (some ⟨w.heap.size,0,none⟩),.int .i64 num,.pointer (some ⟨w.heap.size,1,none⟩),.slice A fl.length c,undef,undef,undef,undef,undef] (ScJ W1 num fl) (by kernel_rfl) (by kernel_rfl) (by kernel_rfl) (by kernel_rfl) (by kernel_rfl) (by kernel_rfl) (by kernel_rfl) (by decide) ?_ ?_ ?_ ?_
 . exact (Ext.refl W1).drew
 . intro i o ho hc a w' us K' hJ hF hlim hk
   match i,ho with
   | 0,ho =>
    simp only [gA,gB,gC,gD] at ho;subst ho;have e1:=hF.old 1 (.pointer (some ⟨w.heap.size,0,none⟩)) rfl rfl;simp only [Act.eval] at e1;clear hF hlim hJ;go_simp;exact hk
   | 1,ho =>
    simp only [gA,gB,gC,gD] at ho;subst ho;have e3:=hF.pure 0 3 (.pointer (some ⟨w.heap.size,0,none⟩)) rfl rfl rfl rfl;have hcl:=(ScJ.ext hJ).cell kc0;simp only [Act.eval] at e3;clear hF hlim hJ;go_simp;exact hk
   | 2,ho =>
    simp only [gA,gB,gC,gD] at ho;subst ho;have e1:=hF.old 1 (.pointer (some ⟨w.heap.size,0,none⟩)) rfl rfl;simp only [Act.eval] at e1;clear hF hlim hJ;go_simp;exact hk
   | 3,ho =>
    simp only [gA,gB,gC,gD] at ho;subst ho;have e5:=hF.pure 2 5 (.pointer (some ⟨w.heap.size,1,none⟩)) rfl rfl rfl rfl;have hcl:=(ScJ.ext hJ).cell kc1;simp only [Act.eval] at e5;clear hF hlim hJ;go_simp;exact hk
   | 4,ho | 5,ho | 6,ho | 7,ho | 8,ho=>simp at hc
   | i+9,ho=>simp at ho
 . intro p c' o hp ho a w' us K' hl hJ hF hk
   match p,hp with
   | 0,hp =>
    (obtain rfl:4=c':=by simpa using hp);simp only [gA,gB,gC,gD] at ho;subst ho;obtain rfl:us=[]:=List.eq_nil_of_length_eq_zero hl;have e6:=hF.pure 3 6 (.slice A fl.length c) rfl rfl rfl rfl;have hJ':Ext W1 w':=hJ;exact zDu (.const (.slice none 0 0)) (.tmp 6) 117 rfl qJn Tryz.underlying117 rfl (by decide) (base:=W1.heap.size) (n:=0) (xs:=[]) ⟨rfl,.inl ⟨rfl,rfl⟩⟩ rfl e6 (Sl.ext (Cells.stays _) HL.out hJ') (fun _=>rfl) zOa (by omega) (by unfold maxLen;omega) hJ'.size (fun v' w'' ho hg=>hk v' w'' ⟨by simpa using ho,hJ'.grown hg (fun q hq=>by simp [Value.ownBlock] at hq)⟩)
   | 1,hp =>
    (obtain rfl:5=c':=by simpa using hp);simp only [gA,gB,gC,gD] at ho;subst ho;obtain ⟨u0,rfl⟩:=qBv hl;have e4:=hF.pure 1 4 (.int .i64 num) rfl rfl rfl rfl;have e7:=hF.link 0 4 7 _ rfl rfl rfl rfl;obtain ⟨ho,hx⟩:=hJ;have HK:=gH (hk (.agg #[.int .i64 num,u0]) w' ⟨rfl,ho,hx⟩);obtain ⟨A0,c0,rfl,-,-,-⟩:=qBn (f:=Fd.vals) (size:=3) (fun _=>rfl) rfl ho;clear hk hF ho hx;simp [Act.eval] at e4 e7;go_simp;exact HK.out
   | 2,hp =>
    (obtain rfl:6=c':=by simpa using hp);simp only [gA,gB,gC,gD] at ho;subst ho;obtain ⟨u0,u1,rfl⟩:=qCm hl;have e8:=hF.link 1 5 8 _ rfl rfl rfl rfl;obtain ⟨rfl,ho,hx⟩:=hJ;have HK:=gH (hk (.agg (qJu num u0 0 0)) w' ⟨rfl,ho,hx⟩);obtain ⟨A0,c0,rfl,-,-,-⟩:=qBn (f:=Fd.vals) (size:=3) (fun _=>rfl) rfl ho;unfold qJu at HK;clear hk hF ho hx;simp [Act.eval] at e8;go_simp;exact HK.out
   | 3,hp =>
    (obtain rfl:7=c':=by simpa using hp);simp only [gA,gB,gC,gD] at ho;subst ho;obtain ⟨u0,u1,u2,rfl⟩:=qCn hl;have e9:=hF.link 2 6 9 _ rfl rfl rfl rfl;obtain ⟨rfl,ho,hx⟩:=hJ;have HK:=gH (hk (.pointer (some ⟨w'.heap.size,0,none⟩)) (w'.alloc (.cells (qJu num u0 0 0) 234)) ⟨_,rfl,hx.size,Blk.new w' _ _,qAh ho ((Ext.refl w').alloc _),hx.alloc _⟩);obtain ⟨A0,c0,rfl,-,-,-⟩:=qBn (f:=Fd.vals) (size:=3) (fun _=>rfl) rfl ho;unfold qJu at HK e9;clear hk hF ho hx;simp [Act.eval] at e9;go_simp;exact HK.out
   | 4,hp =>
    (obtain rfl:8=c':=by simpa using hp);simp only [gA,gB,gC,gD] at ho;subst ho;obtain ⟨u0,u1,u2,u3,rfl⟩:=qEm hl;have e10:=hF.link 3 7 10 _ rfl rfl rfl rfl;obtain ⟨g,rfl,hg,hB,ho,hx⟩:=hJ;have HK:=gH (hk (.pointer (some ⟨g,0,none⟩)) w' ⟨rfl,g,rfl,hg,hB,ho,hx⟩);clear hk hF hB ho hx;simp [Act.eval] at e10;go_simp;exact HK.out
   | p+5,hp=>simp at hp
 intro us w4 hl hJ;obtain ⟨u0,u1,u2,u3,u4,rfl⟩:=qHz hl
 first | (rename_i hK;refine hK _ _ ?_;clear hK) | (rename_i hK hK_1;refine hK _ _ ?_;clear hK) | (rename_i hK hK_1 hK_2;refine hK _ _ ?_;clear hK) | (rename_i hK hK_1 hK_2 hK_3;refine hK _ _ ?_;clear hK)
 generalize hL:qCd _ _ _ _=L;obtain rfl:L=[(3,.pointer (some ⟨w.heap.size,0,none⟩)),(4,.int .i64 num),(5,.pointer (some ⟨w.heap.size,1,none⟩)),(6,.slice A fl.length c),(7,u0),(8,u1),(9,u2),(10,u3),(2,u4)]:=hL.symm.trans (by kernel_rfl);clear hL hl;simp only [Act.put,List.foldl_cons,List.foldl_nil,List.setIfInBounds_toArray,List.set_cons_zero,List.set_cons_succ];obtain ⟨rfl,g,rfl,hg,hB,ho,hx⟩:=hJ;obtain ⟨A0,c0,rfl,-,-,-⟩:=qBn (f:=Fd.vals) (size:=3) (fun _=>rfl) rfl ho;have HG:=gH (Nat.le_trans HX.out.size hg);have HXf:=gH (HX.out.trans hx);clear hg hx;go_wp2_with fail;go_ret;exact ⟨g,rfl,HG.out,⟨A0,c0,hB,qBo ho (Nat.zero_le _)⟩,HXf.out⟩
end
end Go.Proofs.YtneffpbodfjceaaGreatDoor