/- Texts laid together. -/
import Derived.Test.YtneffpbodfjceaaGreatDoorTa28
set_option linter.unusedVariables false
set_option linter.unusedSimpArgs false
set_option maxRecDepth 100000
set_option maxHeartbeats 16000000
namespace Go.Proofs.YtneffpbodfjceaaGreatDoor
section
open Go.RowKit
def Ev.withR (x:Ev) (rs:List Row):Ev:=⟨x.id,x.inn,x.out,x.region,x.kind,x.speaker,rs⟩
def fldC:Array Value:=#[.string ⟨#[83,80,65,78]⟩,.bool false,.string ⟨#[82,69,71,73,79,78]⟩,.bool false,.string ⟨#[75,73,78,68]⟩,.bool false,.string ⟨#[83,80,69,65,75,69,82]⟩,.bool false,.string ⟨#[82,79,87,83]⟩,.bool true]
def zOb:List (Value->World->Prop):=[fun u _=>u = .bool false,fun u w=>∃ g,u = .slice (some ⟨g,0,none⟩) 5 5/\Blk w g 265 fldC,fun u w=>∃ g,u = .slice (some ⟨g,0,none⟩) 5 5/\Blk w g 265 fldC]
theorem qSn:QSt zOb:=by
 intro p hp u wa wb hx hh;simp only [zOb,List.mem_cons,List.not_mem_nil,or_false] at hp
 rcases hp with rfl | rfl | rfl
 . exact hh
 . obtain ⟨g,e,b⟩:=hh
   exact ⟨g,e,b.ext hx⟩
 . obtain ⟨g,e,b⟩:=hh
   exact ⟨g,e,b.ext hx⟩
theorem qQy:(Tryz.prog.info? 38).map (·.size)=some 2:=by kernel_rfl
theorem qMw:(Tryz.prog.info? 159).map (·.size)=some 59:=by kernel_rfl
theorem qYc (x:Ev) (rs:List Row) (Ax:Option Addr) (nx cx:Nat) (Ay:Option Addr) (ny cy:Nat) (w:World) (h1:qCb w Ax nx x.rows) (h2:qCb w Ay ny rs) (hne:x.rows≠rs) (hn:nx<=1000000) :
 Calls Tryz.prog 176 #[.agg (chgC x Ax nx cx (x.withR rs) Ay ny cy)] w fun e w'=>∃ g,e = .returned (.slice (some ⟨g,0,none⟩) 5 5)/\Blk w' g 265 fldC/\Ext w w':=by
 have HSR:=gH (fun w' (hx':Ext w w')=>qLt Ax nx cx Ay ny cy x.rows rs w' (h1.ext hx') (h2.ext hx') (by omega));rw [decide_eq_false hne] at HSR;clear h1 h2 hne hn;obtain ⟨W1,hW1⟩:∃ W1,W1=w.alloc (.cells (chgC x Ax nx cx (x.withR rs) Ay ny cy) 159):=⟨_,rfl⟩;have HX1:=gH (show Ext w W1 from by rw [hW1];exact (Ext.refl w).alloc _);have HC:=gH (show Blk W1 w.heap.size 159 (chgC x Ax nx cx (x.withR rs) Ay ny cy) from by rw [hW1];exact Blk.new w _ _);have k0:=HC.out.cell 0;unfold chgC at k0;simp only [gA,gB,gC] at k0;rw [hW1] at k0;go_enter Tryz.func176,Tryz.ntmps176;go_wp2_with fail;rw [← hW1];clear hW1 k0
 refine qBb [some 99,some 100,some 101,some 102,some 7,some 8,none,none] [[],[0],[],[2],[],[],[4,1,0,1,4,5],[5,3,6,0,1,2,3,4,5,6]] [6,7] [4,5] [.pointer (some ⟨w.heap.size,29,none⟩),.agg #[.int .i64 1,.int .i64 x.inn,.int .i64 x.out,.string x.region,.int .u8 x.kind,.string x.speaker,.slice Ax nx cx],.pointer (some ⟨w.heap.size,36,none⟩),.agg #[.int .i64 1,.int .i64 x.inn,.int .i64 x.out,.string x.region,.int .u8 x.kind,.string x.speaker,.slice Ay ny cy],undef,undef,undef,undef] (fun _=>.cells #[.int .i64 0,.int .i64 0,.int .i64 0,.string ⟨#[]⟩,.int .u8 0,.string ⟨#[]⟩,.slice none 0 0] 54) (V2J 54 4 5 #[.int .i64 0,.int .i64 0,.int .i64 0,.string ⟨#[]⟩,.int .u8 0,.string ⟨#[]⟩,.slice none 0 0] #[.int .i64 1,.int .i64 x.inn,.int .i64 x.out,.string x.region,.int .u8 x.kind,.string x.speaker,.slice Ax nx cx] #[.int .i64 1,.int .i64 x.inn,.int .i64 x.out,.string x.region,.int .u8 x.kind,.string x.speaker,.slice Ay ny cy] [] W1) (by kernel_rfl) (by kernel_rfl) (by kernel_rfl) (by kernel_rfl) (by kernel_rfl) (by kernel_rfl) (by kernel_rfl) (by decide) (by kernel_rfl) ?_ ?_ ?_ ?_ ?_ ?_
 . exact V2J.start W1
 . intro i o ho ha a w' K' hk
   match i,ho with
   | 0,ho | 1,ho | 2,ho | 3,ho=>simp at ha
   | 4,ho | 5,ho =>
     simp only [gA,gB,gC,gD] at ho;subst ho;exact qDv rfl Tryz.zeroValue54 hk
   | 6,ho | 7,ho=>simp at ha
   | i+8,ho=>simp at ho
 . intro i ha us gs w' hJ hn hlim
   match i,ha with
   | 0,ha | 1,ha | 2,ha | 3,ha=>simp at ha
   | 4,ha=>exact hJ.alloc1 (by decide) (hlim 0 6 rfl rfl)
   | 5,ha=>exact hJ.alloc2 (by decide) (Nat.le_succ_of_le (hlim 0 6 rfl rfl))
   | 6,ha | 7,ha=>simp at ha
   | i+8,ha=>simp at ha
 . intro i o ho hc ha a w' us gs K' hJ hF hlim hk
   match i,ho with
   | 0,ho =>
     simp only [gA,gB,gC,gD] at ho;subst ho;have e1:=hF.old 1 (.pointer (some ⟨w.heap.size,0,none⟩)) rfl rfl;simp only [Act.eval] at e1;clear hF hlim hJ;go_simp;exact hk
   | 1,ho =>
     simp only [gA,gB,gC,gD] at ho;subst ho;have e99:=hF.pure 0 99 (.pointer (some ⟨w.heap.size,29,none⟩)) rfl rfl rfl rfl rfl;exact qFs 54 _ rfl w.heap.size 29 159 _ #[.int .i64 1,.int .i64 x.inn,.int .i64 x.out,.string x.region,.int .u8 x.kind,.string x.speaker,.slice Ax nx cx] _ e99 (HC.out.ext hJ.ext) (by exact rfl) Tryz.underlying54 rfl (by exact qAu) hk
   | 2,ho =>
     simp only [gA,gB,gC,gD] at ho;subst ho;have e1:=hF.old 1 (.pointer (some ⟨w.heap.size,0,none⟩)) rfl rfl;simp only [Act.eval] at e1;clear hF hlim hJ;go_simp;exact hk
   | 3,ho =>
     simp only [gA,gB,gC,gD] at ho;subst ho;have e101:=hF.pure 2 101 (.pointer (some ⟨w.heap.size,36,none⟩)) rfl rfl rfl rfl rfl;exact qFs 54 _ rfl w.heap.size 36 159 _ #[.int .i64 1,.int .i64 x.inn,.int .i64 x.out,.string x.region,.int .u8 x.kind,.string x.speaker,.slice Ay ny cy] _ e101 (HC.out.ext hJ.ext) (by exact rfl) Tryz.underlying54 rfl (by exact qAu) hk
   | 4,ho | 5,ho=>simp at ha
   | 6,ho | 7,ho=>simp at hc
   | i+8,ho=>simp at ho
 . intro p c' o hp ho a w' us gs K' hl hJ hF hk
   match p,hp with
   | 0,hp =>
     (obtain rfl:6=c':=by simpa using hp);simp only [gA,gB,gC,gD] at ho;subst ho;obtain rfl:us=[]:=List.eq_nil_of_length_eq_zero hl;obtain ⟨g7,hg7,e7⟩:=hF.ptr 4 7 rfl rfl rfl rfl;have e100:=hF.pure 1 100 (.agg #[.int .i64 1,.int .i64 x.inn,.int .i64 x.out,.string x.region,.int .u8 x.kind,.string x.speaker,.slice Ax nx cx]) rfl rfl rfl rfl rfl;exact qCh 54 (.tmp 7) (.tmp 100) rfl g7 54 _ _ e7 e100 (by exact qAu) (by simp [Value.oneCell']) (hJ.blk1 hg7 (by simp)) rfl (hk undef _ (hJ.store1 hg7 rfl))
   | 1,hp =>
     (obtain rfl:7=c':=by simpa using hp);simp only [gA,gB,gC,gD] at ho;subst ho;obtain ⟨u0,rfl⟩:=qBv hl;obtain ⟨g8,hg8,e8⟩:=hF.ptr 5 8 rfl rfl rfl rfl;have e102:=hF.pure 3 102 (.agg #[.int .i64 1,.int .i64 x.inn,.int .i64 x.out,.string x.region,.int .u8 x.kind,.string x.speaker,.slice Ay ny cy]) rfl rfl rfl rfl rfl;exact qCh 54 (.tmp 8) (.tmp 102) rfl g8 54 _ _ e8 e102 (by exact qAu) (by simp [Value.oneCell']) (hJ.blk2 hg8 (by simp)) rfl (hk undef _ (hJ.store2 hg8 rfl))
   | p+2,hp=>simp at hp
 intro us gs w2 hl hgs hJ;obtain ⟨u0,u1,rfl⟩:=qCm hl;obtain ⟨g4,hg4⟩:=Option.isSome_iff_exists.1 (hgs 4 rfl);obtain ⟨g5,hg5⟩:=Option.isSome_iff_exists.1 (hgs 5 rfl)
 first | (rename_i hK;refine hK _ _ ?_;clear hK) | (rename_i hK hK_1;refine hK _ _ ?_;clear hK) | (rename_i hK hK_1 hK_2;refine hK _ _ ?_;clear hK) | (rename_i hK hK_1 hK_2 hK_3;refine hK _ _ ?_;clear hK)
 generalize hL:qFy _ _ _ _ _ _=L;obtain rfl:L=[(99,.pointer (some ⟨w.heap.size,29,none⟩)),(100,.agg #[.int .i64 1,.int .i64 x.inn,.int .i64 x.out,.string x.region,.int .u8 x.kind,.string x.speaker,.slice Ax nx cx]),(101,.pointer (some ⟨w.heap.size,36,none⟩)),(102,.agg #[.int .i64 1,.int .i64 x.inn,.int .i64 x.out,.string x.region,.int .u8 x.kind,.string x.speaker,.slice Ay ny cy]),(7,.pointer ((gs 4).map fun g=>⟨g,0,none⟩)),(8,.pointer ((gs 5).map fun g=>⟨g,0,none⟩))]:=hL.symm.trans (by kernel_rfl);rw [hg4,hg5];clear hL hl;simp only [Act.put,Option.map_some,List.foldl_cons,List.foldl_nil,List.setIfInBounds_toArray,List.set_cons_zero,List.set_cons_succ];obtain ⟨hga,hba⟩:=hJ.b1 g4 hg4;obtain ⟨hgb,hbb⟩:=hJ.b2 g5 hg5;(have hnab:g4≠g5:=fun e=>hJ.ne g4 hg4 (by rw [e];exact hg5));rw [if_neg (by simp)] at hba hbb;have hxj:=hJ.ext;clear hJ hgs hg4 hg5;have HX2:=gH (HX1.out.trans hxj);have HGx:=gH hba;have HGy:=gH hbb;clear hxj HX1 hba hbb hga hgb hnab HC;go_wp2_with fail
 refine qAr [some 103,some 104,some 105,some 106,some 107,some 108,some 109,some 110,some 111,some 112,some 113,some 114,some 115,some 116,some 117,some 118,some 119,some 120,some 121,some 122,some 123,some 124,some 125,some 126,some 127,some 128,some 129,some 130,some 131,some 132,some 133,some 134,some 2] [[],[0],[],[2],[1,3],[4],[],[6],[],[8],[7,9],[10],[],[12],[],[14],[13,15],[16],[],[18],[],[20],[19,21],[22],[],[24],[],[26],[25,27],[28],[29],[5,11,17,23,30],[31,28,0,1,2,3,4,5,6,7,8,9,10,11,12,13,14,15,16,17,18,19,20,21,22,23,24,25,26,27,28,29,30,31]] [28,31,32] [.pointer (some ⟨g4,1,none⟩),.agg #[.int .i64 x.inn,.int .i64 x.out],.pointer (some ⟨g5,1,none⟩),.agg #[.int .i64 x.inn,.int .i64 x.out],.bool false,.agg #[.string ⟨#[83,80,65,78]⟩,.bool false],.pointer (some ⟨g4,3,none⟩),.string x.region,.pointer (some ⟨g5,3,none⟩),.string x.region,.bool false,.agg #[.string ⟨#[82,69,71,73,79,78]⟩,.bool false],.pointer (some ⟨g4,4,none⟩),.int .u8 x.kind,.pointer (some ⟨g5,4,none⟩),.int .u8 x.kind,.bool false,.agg #[.string ⟨#[75,73,78,68]⟩,.bool false],.pointer (some ⟨g4,5,none⟩),.string x.speaker,.pointer (some ⟨g5,5,none⟩),.string x.speaker,.bool false,.agg #[.string ⟨#[83,80,69,65,75,69,82]⟩,.bool false],.pointer (some ⟨g4,6,none⟩),.slice Ax nx cx,.pointer (some ⟨g5,6,none⟩),.slice Ay ny cy,undef,.bool true,.agg #[.string ⟨#[82,79,87,83]⟩,.bool true],undef,undef] (QJ zOb w2) (by kernel_rfl) (by kernel_rfl) (by kernel_rfl) (by kernel_rfl) (by kernel_rfl) (by kernel_rfl) (by kernel_rfl) (by decide) ?_ ?_ ?_ ?_
 . exact QJ.start _ w2
 . intro i o ho hc a w' us K' hJ hF hlim hk
   match i,ho with
   | 0,ho =>
     simp only [gA,gB,gC,gD] at ho;subst ho;have e7:=hF.old 7 (.pointer (some ⟨g4,0,none⟩)) rfl rfl;simp only [Act.eval] at e7;clear hF hlim hJ;go_simp;exact hk
   | 1,ho =>
     simp only [gA,gB,gC,gD] at ho;subst ho;have e103:=hF.pure 0 103 (.pointer (some ⟨g4,1,none⟩)) rfl rfl rfl rfl;exact qFs 38 _ rfl g4 1 54 _ #[.int .i64 x.inn,.int .i64 x.out] _ e103 (HGx.out.ext hJ.ext) (by exact rfl) Tryz.underlying38 rfl (by exact qQy) hk
   | 2,ho =>
     simp only [gA,gB,gC,gD] at ho;subst ho;have e8:=hF.old 8 (.pointer (some ⟨g5,0,none⟩)) rfl rfl;simp only [Act.eval] at e8;clear hF hlim hJ;go_simp;exact hk
   | 3,ho =>
     simp only [gA,gB,gC,gD] at ho;subst ho;have e105:=hF.pure 2 105 (.pointer (some ⟨g5,1,none⟩)) rfl rfl rfl rfl;exact qFs 38 _ rfl g5 1 54 _ #[.int .i64 x.inn,.int .i64 x.out] _ e105 (HGy.out.ext hJ.ext) (by exact rfl) Tryz.underlying38 rfl (by exact qQy) hk
   | 4,ho =>
     simp only [gA,gB,gC,gD] at ho;subst ho;have e104:=hF.pure 1 104 (.agg #[.int .i64 x.inn,.int .i64 x.out]) rfl rfl rfl rfl;have e106:=hF.pure 3 106 (.agg #[.int .i64 x.inn,.int .i64 x.out]) rfl rfl rfl rfl;simp only [Act.eval] at e104 e106;clear hF hlim hJ;go_simp;exact hk
   | 5,ho =>
     simp only [gA,gB,gC,gD] at ho;subst ho;have e107:=hF.pure 4 107 (.bool false) rfl rfl rfl rfl;simp [Act.eval] at e107;clear hF hlim hJ;go_simp;exact hk
   | 6,ho =>
     simp only [gA,gB,gC,gD] at ho;subst ho;have e7:=hF.old 7 (.pointer (some ⟨g4,0,none⟩)) rfl rfl;simp only [Act.eval] at e7;clear hF hlim hJ;go_simp;exact hk
   | 7,ho =>
     simp only [gA,gB,gC,gD] at ho;subst ho;have e109:=hF.pure 6 109 (.pointer (some ⟨g4,3,none⟩)) rfl rfl rfl rfl;have hcl:=(HGx.out.ext hJ.ext).cell 3;simp only [gA,gB,gC] at hcl;simp only [Act.eval] at e109;clear hF hlim hJ;go_simp;exact hk
   | 8,ho =>
     simp only [gA,gB,gC,gD] at ho;subst ho;have e8:=hF.old 8 (.pointer (some ⟨g5,0,none⟩)) rfl rfl;simp only [Act.eval] at e8;clear hF hlim hJ;go_simp;exact hk
   | 9,ho =>
     simp only [gA,gB,gC,gD] at ho;subst ho;have e111:=hF.pure 8 111 (.pointer (some ⟨g5,3,none⟩)) rfl rfl rfl rfl;have hcl:=(HGy.out.ext hJ.ext).cell 3;simp only [gA,gB,gC] at hcl;simp only [Act.eval] at e111;clear hF hlim hJ;go_simp;exact hk
   | 10,ho =>
     simp only [gA,gB,gC,gD] at ho;subst ho;have e110:=hF.pure 7 110 (.string x.region) rfl rfl rfl rfl;have e112:=hF.pure 9 112 (.string x.region) rfl rfl rfl rfl;simp only [Act.eval] at e112 e110;clear hF hlim hJ;go_simp;exact hk
   | 11,ho =>
     simp only [gA,gB,gC,gD] at ho;subst ho;have e113:=hF.pure 10 113 (.bool false) rfl rfl rfl rfl;simp [Act.eval] at e113;clear hF hlim hJ;go_simp;exact hk
   | 12,ho =>
     simp only [gA,gB,gC,gD] at ho;subst ho;have e7:=hF.old 7 (.pointer (some ⟨g4,0,none⟩)) rfl rfl;simp only [Act.eval] at e7;clear hF hlim hJ;go_simp;exact hk
   | 13,ho =>
     simp only [gA,gB,gC,gD] at ho;subst ho;have e115:=hF.pure 12 115 (.pointer (some ⟨g4,4,none⟩)) rfl rfl rfl rfl;have hcl:=(HGx.out.ext hJ.ext).cell 4;simp only [gA,gB,gC] at hcl;simp only [Act.eval] at e115;clear hF hlim hJ;go_simp;exact hk
   | 14,ho =>
     simp only [gA,gB,gC,gD] at ho;subst ho;have e8:=hF.old 8 (.pointer (some ⟨g5,0,none⟩)) rfl rfl;simp only [Act.eval] at e8;clear hF hlim hJ;go_simp;exact hk
   | 15,ho =>
     simp only [gA,gB,gC,gD] at ho;subst ho;have e117:=hF.pure 14 117 (.pointer (some ⟨g5,4,none⟩)) rfl rfl rfl rfl;have hcl:=(HGy.out.ext hJ.ext).cell 4;simp only [gA,gB,gC] at hcl;simp only [Act.eval] at e117;clear hF hlim hJ;go_simp;exact hk
   | 16,ho =>
     simp only [gA,gB,gC,gD] at ho;subst ho;have e116:=hF.pure 13 116 (.int .u8 x.kind) rfl rfl rfl rfl;have e118:=hF.pure 15 118 (.int .u8 x.kind) rfl rfl rfl rfl;simp only [Act.eval] at e116 e118;clear hF hlim hJ;go_simp;exact hk
   | 17,ho =>
     simp only [gA,gB,gC,gD] at ho;subst ho;have e119:=hF.pure 16 119 (.bool false) rfl rfl rfl rfl;simp [Act.eval] at e119;clear hF hlim hJ;go_simp;exact hk
   | 18,ho =>
     simp only [gA,gB,gC,gD] at ho;subst ho;have e7:=hF.old 7 (.pointer (some ⟨g4,0,none⟩)) rfl rfl;simp only [Act.eval] at e7;clear hF hlim hJ;go_simp;exact hk
   | 19,ho =>
     simp only [gA,gB,gC,gD] at ho;subst ho;have e121:=hF.pure 18 121 (.pointer (some ⟨g4,5,none⟩)) rfl rfl rfl rfl;have hcl:=(HGx.out.ext hJ.ext).cell 5;simp only [gA,gB,gC] at hcl;simp only [Act.eval] at e121;clear hF hlim hJ;go_simp;exact hk
   | 20,ho =>
     simp only [gA,gB,gC,gD] at ho;subst ho;have e8:=hF.old 8 (.pointer (some ⟨g5,0,none⟩)) rfl rfl;simp only [Act.eval] at e8;clear hF hlim hJ;go_simp;exact hk
   | 21,ho =>
     simp only [gA,gB,gC,gD] at ho;subst ho;have e123:=hF.pure 20 123 (.pointer (some ⟨g5,5,none⟩)) rfl rfl rfl rfl;have hcl:=(HGy.out.ext hJ.ext).cell 5;simp only [gA,gB,gC] at hcl;simp only [Act.eval] at e123;clear hF hlim hJ;go_simp;exact hk
   | 22,ho =>
     simp only [gA,gB,gC,gD] at ho;subst ho;have e122:=hF.pure 19 122 (.string x.speaker) rfl rfl rfl rfl;have e124:=hF.pure 21 124 (.string x.speaker) rfl rfl rfl rfl;simp only [Act.eval] at e122 e124;clear hF hlim hJ;go_simp;exact hk
   | 23,ho =>
     simp only [gA,gB,gC,gD] at ho;subst ho;have e125:=hF.pure 22 125 (.bool false) rfl rfl rfl rfl;simp [Act.eval] at e125;clear hF hlim hJ;go_simp;exact hk
   | 24,ho =>
     simp only [gA,gB,gC,gD] at ho;subst ho;have e7:=hF.old 7 (.pointer (some ⟨g4,0,none⟩)) rfl rfl;simp only [Act.eval] at e7;clear hF hlim hJ;go_simp;exact hk
   | 25,ho =>
     simp only [gA,gB,gC,gD] at ho;subst ho;have e127:=hF.pure 24 127 (.pointer (some ⟨g4,6,none⟩)) rfl rfl rfl rfl;have hcl:=(HGx.out.ext hJ.ext).cell 6;simp only [gA,gB,gC] at hcl;simp only [Act.eval] at e127;clear hF hlim hJ;go_simp;exact hk
   | 26,ho =>
     simp only [gA,gB,gC,gD] at ho;subst ho;have e8:=hF.old 8 (.pointer (some ⟨g5,0,none⟩)) rfl rfl;simp only [Act.eval] at e8;clear hF hlim hJ;go_simp;exact hk
   | 27,ho =>
     simp only [gA,gB,gC,gD] at ho;subst ho;have e129:=hF.pure 26 129 (.pointer (some ⟨g5,6,none⟩)) rfl rfl rfl rfl;have hcl:=(HGy.out.ext hJ.ext).cell 6;simp only [gA,gB,gC] at hcl;simp only [Act.eval] at e129;clear hF hlim hJ;go_simp;exact hk
   | 28,ho=>simp at hc
   | 29,ho =>
     simp only [gA,gB,gC,gD] at ho;subst ho;obtain ⟨v131,hv131⟩:=qDp (hF.did 0 28 rfl rfl);have e131:=hF.link 0 28 131 _ rfl rfl rfl hv131;obtain rfl:v131 = .bool false:=hJ.val 0 v131 _ hv131 rfl;simp only [Act.eval] at e131;clear hF hlim hJ;go_simp;exact hk
   | 30,ho =>
     simp only [gA,gB,gC,gD] at ho;subst ho;have e132:=hF.pure 29 132 (.bool true) rfl rfl rfl rfl;simp [Act.eval] at e132;clear hF hlim hJ;go_simp;exact hk
   | 31,ho | 32,ho=>simp at hc
   | i+33,ho=>simp at ho
 . intro p c' o hp ho a w' us K' hl hJ hF hk
   match p,hp with
   | 0,hp =>
     (obtain rfl:28=c':=by simpa using hp);simp only [gA,gB,gC,gD] at ho;subst ho;obtain rfl:us=[]:=List.eq_nil_of_length_eq_zero hl;have e128:=hF.pure 25 128 (.slice Ax nx cx) rfl rfl rfl rfl;have e130:=hF.pure 27 130 (.slice Ay ny cy) rfl rfl rfl rfl;refine qDm rfl e128 e130 Tryz.call173 (HSR.out w' (HX2.out.trans hJ.ext)) ?_;rintro en w5 ⟨rfl,hx5⟩;exact ⟨_,rfl,hk _ w5 (hJ.push qSn hx5 (fun p hp=>by cases hp;rfl))⟩
   | 1,hp =>
     (obtain rfl:31=c':=by simpa using hp);simp only [gA,gB,gC,gD] at ho;subst ho;obtain ⟨u0,rfl⟩:=qBv hl;have e108:=hF.pure 5 108 (.agg #[.string ⟨#[83,80,65,78]⟩,.bool false]) rfl rfl rfl rfl;have e114:=hF.pure 11 114 (.agg #[.string ⟨#[82,69,71,73,79,78]⟩,.bool false]) rfl rfl rfl rfl;have e120:=hF.pure 17 120 (.agg #[.string ⟨#[75,73,78,68]⟩,.bool false]) rfl rfl rfl rfl;have e126:=hF.pure 23 126 (.agg #[.string ⟨#[83,80,69,65,75,69,82]⟩,.bool false]) rfl rfl rfl rfl;have e133:=hF.pure 30 133 (.agg #[.string ⟨#[82,79,87,83]⟩,.bool true]) rfl rfl rfl rfl;have HK:=gH (hk (.slice (some ⟨w'.heap.size,0,none⟩) 5 5) (w'.alloc (.cells fldC 265)) (hJ.push qSn ((Ext.refl w').alloc _) (fun p hp=>by cases hp;exact ⟨_,rfl,Blk.new w' _ _⟩)));unfold fldC at HK;simp [Act.eval] at e108 e114 e120 e126 e133;clear hk hF hJ;go_simp;exact HK.out
   | 2,hp =>
     (obtain rfl:32=c':=by simpa using hp);simp only [gA,gB,gC,gD] at ho;subst ho;obtain ⟨u0,u1,rfl⟩:=qCm hl;obtain ⟨g,rfl,hbq⟩:=hJ.val 1 u1 _ rfl rfl;have e134:=hF.link 1 31 134 _ rfl rfl rfl rfl;have HK:=gH (hk (.slice (some ⟨g,0,none⟩) 5 5) w' (hJ.push qSn (Ext.refl w') (fun p hp=>by cases hp;exact ⟨g,rfl,hbq⟩)));simp [Act.eval] at e134;clear hk hF hJ;go_simp;exact HK.out
   | p+3,hp=>simp at hp
 intro us w3 hl hJ;obtain ⟨u0,u1,u2,rfl⟩:=qCn hl
 first | (rename_i hK;refine hK _ _ ?_;clear hK) | (rename_i hK hK_1;refine hK _ _ ?_;clear hK) | (rename_i hK hK_1 hK_2;refine hK _ _ ?_;clear hK) | (rename_i hK hK_1 hK_2 hK_3;refine hK _ _ ?_;clear hK)
 generalize hL:qCd _ _ _ _=L;obtain rfl:L=[(103,.pointer (some ⟨g4,1,none⟩)),(104,.agg #[.int .i64 x.inn,.int .i64 x.out]),(105,.pointer (some ⟨g5,1,none⟩)),(106,.agg #[.int .i64 x.inn,.int .i64 x.out]),(107,.bool false),(108,.agg #[.string ⟨#[83,80,65,78]⟩,.bool false]),(109,.pointer (some ⟨g4,3,none⟩)),(110,.string x.region),(111,.pointer (some ⟨g5,3,none⟩)),(112,.string x.region),(113,.bool false),(114,.agg #[.string ⟨#[82,69,71,73,79,78]⟩,.bool false]),(115,.pointer (some ⟨g4,4,none⟩)),(116,.int .u8 x.kind),(117,.pointer (some ⟨g5,4,none⟩)),(118,.int .u8 x.kind),(119,.bool false),(120,.agg #[.string ⟨#[75,73,78,68]⟩,.bool false]),(121,.pointer (some ⟨g4,5,none⟩)),(122,.string x.speaker),(123,.pointer (some ⟨g5,5,none⟩)),(124,.string x.speaker),(125,.bool false),(126,.agg #[.string ⟨#[83,80,69,65,75,69,82]⟩,.bool false]),(127,.pointer (some ⟨g4,6,none⟩)),(128,.slice Ax nx cx),(129,.pointer (some ⟨g5,6,none⟩)),(130,.slice Ay ny cy),(131,u0),(132,.bool true),(133,.agg #[.string ⟨#[82,79,87,83]⟩,.bool true]),(134,u1),(2,u2)]:=hL.symm.trans (by kernel_rfl);clear hL hl;simp only [Act.put,List.foldl_cons,List.foldl_nil,List.setIfInBounds_toArray,List.set_cons_zero,List.set_cons_succ];obtain ⟨g,rfl,hb⟩:=hJ.val 2 u2 _ rfl rfl;have hx3:=HX2.out.trans hJ.ext;clear hJ;go_wp2_with fail;go_ret;exact ⟨g,rfl,hb,hx3⟩
theorem qKu:(Tryz.prog.info? 265).map (·.size)=some 2:=by kernel_rfl
theorem zNn {x:Ev} {A:Option Addr} {n c:Nat} {y:Ev} {B:Option Addr} {m d:Nat}:(chgC x A n c y B m d).all (·.oneCell')=true:=by simp [chgC,Value.oneCell']
theorem qXc (x:Ev) (rs:List Row) (Ax:Option Addr) (nx cx:Nat) (Ay:Option Addr) (ny cy:Nat) (w:World) (h1:qCb w Ax nx x.rows) (h2:qCb w Ay ny rs) (hne:x.rows≠rs) (hn:nx<=1000000) :
 Calls Tryz.prog 90 #[.agg (chgC x Ax nx cx (x.withR rs) Ay ny cy)] w fun e w'=>∃ g c,e = .returned (.slice (some ⟨g,0,none⟩) 1 c)/\qAp w' w.heap.size (.slice (some ⟨g,0,none⟩) 1 c) [⟨#[82,79,87,83]⟩]/\Ext w w':=by
 obtain ⟨W1,hW1⟩:∃ W1,W1=w.alloc (.cells (chgC x Ax nx cx (x.withR rs) Ay ny cy) 159):=⟨_,rfl⟩;have HX1:=gH (show Ext w W1 from by rw [hW1];exact (Ext.refl w).alloc _);have HC:=gH (show Blk W1 w.heap.size 159 (chgC x Ax nx cx (x.withR rs) Ay ny cy) from by rw [hW1];exact Blk.new w _ _);have HFs:=gH (qYc x rs Ax nx cx Ay ny cy W1 (h1.ext HX1.out) (h2.ext HX1.out) hne hn);clear h1 h2 hne hn;have k3:=HC.out.cell 3;have k4:=HC.out.cell 4;unfold chgC at k3 k4;simp only [gA,gB,gC] at k3 k4;rw [hW1] at k3 k4;go_enter Tryz.func90,Tryz.ntmps90;go_wp2_with (refine qAa rfl 159 (.tmp 1) rfl w.heap.size 159 (chgC x Ax nx cx (x.withR rs) Ay ny cy) _ (by exact rfl) (by rw [← hW1];exact HC.out) Tryz.underlying159 rfl (by exact qMw) ?_);rw [← hW1];clear hW1 k3 k4;refine HFs.out.mono ?_;rintro e v0 ⟨gf,rfl,hf,hx⟩;have HX:=gH (HX1.out.trans hx);have HF:=gH hf;clear hx hf HX1 HC HFs;go_wp2_with fail;refine qBm 5 ?_;intro K hK;go_wp2_with (refine qCj rfl 265 _ rfl gf 0 265 _ #[.string ⟨#[83,80,65,78]⟩,.bool false] _ (by exact rfl) (by exact HF.out) (by exact rfl) Tryz.underlying265 rfl (by exact qKu) ?_);obtain ⟨v1,hv⟩:∃ W,W=v0.alloc (.cells #[.string ⟨#[83,80,65,78]⟩,.bool false] 265):=⟨_,rfl⟩;have hx':=HX.out.alloc (.cells #[.string ⟨#[83,80,65,78]⟩,.bool false] 265);have hf':=HF.out.alloc (.cells #[.string ⟨#[83,80,65,78]⟩,.bool false] 265);rw [← hv] at hx' hf' ⊢;clear hv HX HF;have HX:=gH hx';have HF:=gH hf'
 clear hx' hf';refine qBy.mk ?_;intro K hK;go_wp2_with (refine qCj rfl 265 _ rfl gf 2 265 _ #[.string ⟨#[82,69,71,73,79,78]⟩,.bool false] _ (by exact rfl) (by exact HF.out) (by exact rfl) Tryz.underlying265 rfl (by exact qKu) ?_);obtain ⟨v2,hv⟩:∃ W,W=v1.alloc (.cells #[.string ⟨#[82,69,71,73,79,78]⟩,.bool false] 265):=⟨_,rfl⟩;have hx':=HX.out.alloc (.cells #[.string ⟨#[82,69,71,73,79,78]⟩,.bool false] 265);have hf':=HF.out.alloc (.cells #[.string ⟨#[82,69,71,73,79,78]⟩,.bool false] 265);rw [← hv] at hx' hf' ⊢;clear hv HX HF;have HX:=gH hx';have HF:=gH hf';clear hx' hf';refine qBy.mk ?_;intro K hK;go_wp2_with (refine qCj rfl 265 _ rfl gf 4 265 _ #[.string ⟨#[75,73,78,68]⟩,.bool false] _ (by exact rfl) (by exact HF.out) (by exact rfl) Tryz.underlying265 rfl (by exact qKu) ?_);obtain ⟨v3,hv⟩:∃ W,W=v2.alloc (.cells #[.string ⟨#[75,73,78,68]⟩,.bool false] 265):=⟨_,rfl⟩;have hx':=HX.out.alloc (.cells #[.string ⟨#[75,73,78,68]⟩,.bool false] 265);have hf':=HF.out.alloc (.cells #[.string ⟨#[75,73,78,68]⟩,.bool false] 265);rw [← hv] at hx' hf' ⊢;clear hv HX HF;have HX:=gH hx';have HF:=gH hf';clear hx' hf';refine qBy.mk ?_;intro K hK;go_wp2_with (refine qCj rfl 265 _ rfl gf 6 265 _ #[.string ⟨#[83,80,69,65,75,69,82]⟩,.bool false] _ (by exact rfl) (by exact HF.out) (by exact rfl) Tryz.underlying265 rfl (by exact qKu) ?_)
 obtain ⟨v4,hv⟩:∃ W,W=v3.alloc (.cells #[.string ⟨#[83,80,69,65,75,69,82]⟩,.bool false] 265):=⟨_,rfl⟩;have hx':=HX.out.alloc (.cells #[.string ⟨#[83,80,69,65,75,69,82]⟩,.bool false] 265);have hf':=HF.out.alloc (.cells #[.string ⟨#[83,80,69,65,75,69,82]⟩,.bool false] 265);rw [← hv] at hx' hf' ⊢;clear hv HX HF;have HX:=gH hx';have HF:=gH hf';clear hx' hf';refine qBy.mk ?_;intro K hK;obtain ⟨v5,hv⟩:∃ W,W=v4.alloc (.cells #[.string ⟨#[82,79,87,83]⟩,.bool true] 265):=⟨_,rfl⟩;have HX5:=gH (show Ext w v5 from by rw [hv];exact HX.out.alloc _);have HN:=gH (Blk.new' (w:=v4.alloc (.cells #[.string ⟨#[82,79,87,83]⟩,.bool true] 265)) (g:=v4.heap.size+1) (t:=9) (cs:=#[.string ⟨#[82,79,87,83]⟩]) (by simp));have HX6:=gH (HX5.out.alloc (.cells #[.string ⟨#[82,79,87,83]⟩] 9));have hsz:=HX6.out.size;rw [hv] at hsz
 (go_wp2_with first | (refine qCj rfl 265 _ rfl gf 8 265 _ #[.string ⟨#[82,79,87,83]⟩,.bool true] _ (by exact rfl) (by exact HF.out) (by exact rfl) Tryz.underlying265 rfl (by exact qKu) ?_) | (at_builtin;refine qAi rfl (.tmp 21) (.tmp 24) 129 rfl qEu Tryz.underlying129 rfl (by decide) (base:=w.heap.size) (v:=.slice none 0 0) (n:=0) (xs:=[]) ⟨rfl,.inl ⟨rfl,rfl⟩⟩ (by exact rfl) (v4.heap.size+1) #[.string ⟨#[82,79,87,83]⟩] (by exact rfl) (by exact HN.out) (by exact rfl) (by simp [Value.oneCell']) (by omega) (by unfold maxLen;omega) hsz ?_;intro v' w6 hown hgr;rw [← hv] at hgr;have HX7:=gH (HX6.out.grown hgr (fun q hq=>by simp [Value.ownBlock] at hq));have HO7:=gH hown;clear hown hgr hsz HN HX6 HX5 hv));refine qBy.mk ?_;intro K hK;go_wp2_with fail;go_ret;obtain ⟨g,c,rfl,-,-⟩:=qBt HO7.out (by decide);exact ⟨g,c,rfl,HO7.out,HX7.out⟩
def chzC:Array Value:=#[.int .u8 0,.int .i64 0,.string ⟨#[]⟩,.bool false,.bool false,.string ⟨#[]⟩,.string ⟨#[]⟩,.int .u8 0,.bool false,.int .i64 0,.string ⟨#[]⟩,.string ⟨#[]⟩,.int .u8 0,.bool false,.int .i64 0,.string ⟨#[]⟩,.int .i64 0,.int .i64 0,.int .i64 0,.int .i64 0,.int .u8 0,.bool false,.string ⟨#[]⟩,.int .i64 0,.int .i64 0,.int .i64 0,.int .i64 0,.int .u8 0,.bool false,.int .i64 0,.int .i64 0,.int .i64 0,.string ⟨#[]⟩,.int .u8 0,.string ⟨#[]⟩,.slice none 0 0,.int .i64 0,.int .i64 0,.int .i64 0,.string ⟨#[]⟩,.int .u8 0,.string ⟨#[]⟩,.slice none 0 0,.int .i64 0,.int .i64 0,.int .i64 0,.int .i64 0,.string ⟨#[]⟩,.string ⟨#[]⟩,.bool false,.bool false,.int .i64 0,.int .i64 0,.int .i64 0,.int .i64 0,.string ⟨#[]⟩,.string ⟨#[]⟩,.bool false,.bool false]
def evtT:ByteArray:=⟨#[69,86,69,78,84,32,49,32,82,79,87,83,10]⟩
def evt0:ByteArray:=⟨#[69,86,69,78,84,32,49,32,82,79,87,83]⟩
theorem zEt {x:Ev} {A:Option Addr} {n c:Nat} {y:Ev} {B:Option Addr} {m d:Nat}:(chgC x A n c y B m d)[0]?=some (.int .u8 3):=rfl
theorem zEu {x:Ev} {A:Option Addr} {n c:Nat} {y:Ev} {B:Option Addr} {m d:Nat}:(chgC x A n c y B m d)[1]?=some (.int .i64 1):=rfl
theorem zEv {x:Ev} {A:Option Addr} {n c:Nat} {y:Ev} {B:Option Addr} {m d:Nat}:(chgC x A n c y B m d)[3]?=some (.bool false):=rfl
theorem zEw {x:Ev} {A:Option Addr} {n c:Nat} {y:Ev} {B:Option Addr} {m d:Nat}:(chgC x A n c y B m d)[4]?=some (.bool false):=rfl
theorem zBy (x:Ev) (rs:List Row) (Ax:Option Addr) (nx cx:Nat) (Ay:Option Addr) (ny cy:Nat) (g c:Nat) (w:World) (hT:TabX w) (hc:∀ (j:Nat) (v:Value),(chgC x Ax nx cx (x.withR rs) Ay ny cy)[j]?=some v->w.cell? ⟨g,0+j,none⟩=some v) (h1:qCb w Ax nx x.rows) (h2:qCb w Ay ny rs) (hne:x.rows≠rs) (hn:nx<=1000000) :
 Calls Tryz.prog 18 #[.slice (some ⟨g,0,none⟩) 1 c] w fun e w'=>e = .returned (.string evtT)/\Ext w w':=by
 have HX0:=gH ((Ext.refl w).alloc (.cells #[.pointer none,.slice none 0 0] 178));have HBl:=gH (Blk.new w 178 #[.pointer none,.slice none 0 0]);have HFs:=gH (fun w' (hx':Ext w w')=>qXc x rs Ax nx cx Ay ny cy w' (h1.ext hx') (h2.ext hx') hne hn);have HCh:=gH (fun j v hv=>HX0.out.cell (hc j v hv));have HT:=gH hT;clear hT hc h1 h2 hne hn;obtain ⟨W0,hW0⟩:∃ W0,W0=w.alloc (.cells #[.pointer none,.slice none 0 0] 178):=⟨_,rfl⟩;go_enter Tryz.func18,Tryz.ntmps18;go_wp2_with fail;rw [← hW0] at HX0 HBl HCh ⊢;clear hW0;have HZ:=gH (Blk.new W0 159 chzC);have HX1':=gH (HX0.out.alloc (.cells chzC 159));refine qBm 1 ?_;intro K hK
 go_wp2_with
  first
  | (refine qEz rfl 159 _ rfl g 0 (chgC x Ax nx cx (x.withR rs) Ay ny cy) _ (by exact rfl) HCh.out Tryz.underlying159 rfl (by exact qMw) ?_)
  | (refine qAc rfl 159 (.tmp 5) _ rfl W0.heap.size 159 chzC (chgC x Ax nx cx (x.withR rs) Ay ny cy) (by exact rfl) (by exact rfl) (by exact HZ.out) (by exact rfl) (by exact qMw) zNn ?_
     obtain ⟨W1,hW1⟩:∃ W1,W1=putB (W0.alloc (.cells #[.int .u8 0,.int .i64 0,.string ⟨#[]⟩,.bool false,.bool false,.string ⟨#[]⟩,.string ⟨#[]⟩,.int .u8 0,.bool false,.int .i64 0,.string ⟨#[]⟩,.string ⟨#[]⟩,.int .u8 0,.bool false,.int .i64 0,.string ⟨#[]⟩,.int .i64 0,.int .i64 0,.int .i64 0,.int .i64 0,.int .u8 0,.bool false,.string ⟨#[]⟩,.int .i64 0,.int .i64 0,.int .i64 0,.int .i64 0,.int .u8 0,.bool false,.int .i64 0,.int .i64 0,.int .i64 0,.string ⟨#[]⟩,.int .u8 0,.string ⟨#[]⟩,.slice none 0 0,.int .i64 0,.int .i64 0,.int .i64 0,.string ⟨#[]⟩,.int .u8 0,.string ⟨#[]⟩,.slice none 0 0,.int .i64 0,.int .i64 0,.int .i64 0,.int .i64 0,.string ⟨#[]⟩,.string ⟨#[]⟩,.bool false,.bool false,.int .i64 0,.int .i64 0,.int .i64 0,.int .i64 0,.string ⟨#[]⟩,.string ⟨#[]⟩,.bool false,.bool false] 159)) W0.heap.size 159 (chgC x Ax nx cx (x.withR rs) Ay ny cy):=⟨_,rfl⟩;have HX1:=gH (show Ext w W1 from by rw [hW1];exact HX1'.out.put HX0.out.size _ _);have HC1:=gH (show Blk W1 W0.heap.size 159 (chgC x Ax nx cx (x.withR rs) Ay ny cy) from by rw [hW1];exact HZ.out.put _);have HB1:=gH (show Blk W1 w.heap.size 178 #[.pointer none,.slice none 0 0] from by rw [hW1];exact (HBl.out.alloc _).put_other (fun e=>absurd HBl.out.lt (by omega)) _);have kq:=HC1.out.alloc (.cells #[.string ⟨#[63]⟩] 9);have k0:=(kq.cell 0).trans zEt;have k1:=(kq.cell 1).trans zEu;rw [← hW1]
     clear hW1 HX1' HZ HX0 HCh HBl kq)
 refine (qFa 1 _ (by decide) (by decide) (HT.out.ext (HX1.out.alloc _))).mono ?_;rintro e w2 ⟨rfl,hx2⟩;have hy2:=((Ext.refl W1).alloc (.cells #[.string ⟨#[63]⟩] 9)).trans hx2;have HX2:=gH ((HX1.out.trans hy2).alloc (.cells #[.string ⟨#[69,86,69,78,84]⟩,.string (decS 1)] 9));have HC2:=gH ((HC1.out.ext hy2).alloc (.cells #[.string ⟨#[69,86,69,78,84]⟩,.string (decS 1)] 9));have HB2:=gH ((HB1.out.ext hy2).alloc (.cells #[.string ⟨#[69,86,69,78,84]⟩,.string (decS 1)] 9));have HS2:=gH (qVw (w:=w2) (base:=w2.heap.size) (x:=⟨#[69,86,69,78,84]⟩) (y:=decS 1) (Nat.le_refl _));have k3:=(HC2.out.cell 3).trans zEv;have k4:=(HC2.out.cell 4).trans zEw;have hw2:w.heap.size<=w2.heap.size:=(HX1.out.trans hy2).size;clear hx2 hy2 HX1 HC1 HB1 k0 k1;go_wp2_with (refine qAa rfl 159 (.tmp 5) rfl W0.heap.size 159 (chgC x Ax nx cx (x.withR rs) Ay ny cy) _ (by exact rfl) (by exact HC2.out) Tryz.underlying159 rfl (by exact qMw) ?_);refine (HFs.out _ HX2.out).mono ?_;rintro e w3 ⟨g1,c1,rfl,hs3,hx3⟩;have HX3:=gH (HX2.out.trans hx3);have HB3:=gH (HB2.out.ext hx3);have HS3:=gH (qAh HS2.out hx3);obtain ⟨A',c',hv',hsa⟩:=hs3.at_
 cases hv'
 have HA3:=gH hsa;(have hsz3:w2.heap.size<=w3.heap.size:=by have:=hx3.size;simp at this;omega);clear hx3 hs3 hsa HX2 HC2 HB2 HS2 k3 k4 HFs
 go_wp2_with
  (at_builtin
   refine qAx (f:=fun x:ByteArray=>[Value.string x]) rfl (.tmp 36) (.tmp 38) 129 rfl qEu Tryz.underlying129 rfl (by decide) (base:=w2.heap.size) (n:=2) (xs:=[⟨#[69,86,69,78,84]⟩,decS 1].flatMap fun x=>[Value.string x]) HS3.out (by exact rfl) (A:=some ⟨g1,0,none⟩) (m:=1) (c:=c1) (l:=[⟨#[82,79,87,83]⟩]) (by exact rfl) HA3.out (fun _=>rfl) qOv (by omega) (by unfold maxLen;omega) hsz3 ?_;intro v4 w4 hown4 hgr4 _;have HX4:=gH (HX3.out.grown hgr4 (fun q hq=>Nat.le_trans hw2 (qBg HS3.out q hq)));have HB4:=gH (HB3.out.kb (KB.grown hgr4 (qAt HS3.out) (by decide)));have HO4:=gH hown4
   clear hown4 hgr4 HX3 HB3 HS3 HA3)
 obtain ⟨A4,c4,rfl,hcap,-,hsl,-⟩:=qBn (f:=fun x:ByteArray=>[Value.string x]) (size:=1) (l:=[⟨#[69,86,69,78,84]⟩,decS 1,⟨#[82,79,87,83]⟩]) (fun _=>rfl) rfl HO4.out;obtain ⟨b,off,rfl,hcs⟩:=hsl.2 (by decide);refine (Tryz.strings_Join b off _ [⟨#[69,86,69,78,84]⟩,decS 1,⟨#[82,79,87,83]⟩] ⟨#[32]⟩ w4 (fun j x hx=>by simpa using hcs j x hx 0 _ rfl) ?_ (by decide) hcap (Nat.le_of_ble_eq_true (by kernel_rfl))).mono ?_
 . exact World.block_lt_of_cell? _ _ (hcs 0 _ rfl 0 _ rfl)
 rintro e w5 ⟨rfl,hx5⟩;(have hct:(⟨(Lib.join ([(⟨#[69,86,69,78,84]⟩:ByteArray),decS 1,⟨#[82,79,87,83]⟩].map (·.data.toList)) (⟨#[32]⟩:ByteArray).data.toList).toArray⟩:ByteArray)=evt0:=by kernel_rfl);rw [hct];(have hcat:evt0++(⟨#[10]⟩:ByteArray)=evtT:=by kernel_rfl);have HX5:=gH (HX4.out.trans hx5);have HB5:=gH (HB4.out.ext hx5);clear hx5 hcs hsl hcap hct HX4 HB4 HO4 hsz3 hw2;go_wp2_with fail;refine (qFk w.heap.size w.heap.size [] evtT w5 (.inl ⟨Nat.le_refl _,.slice none 0 0,HB5.out,⟨rfl,.inl ⟨rfl,rfl⟩⟩,by simp [Value.ownBlock]⟩) (by decide) HX5.out.size).mono ?_;rintro e w6 ⟨rfl,hb6,hx6⟩;have HX6:=gH (HX5.out.below hx6 (Nat.le_refl _));have HB6:Hid (Lib.IsBuilder 178 5 w.heap.size w.heap.size (Lib.byteCells evtT.data.toList) w6):=gH (.inr hb6);clear hx6 hb6 HX5 HB5 hcat;go_wp2_with fail;refine qBy.mk ?_;intro K hK;go_wp2_with fail;refine (Tryz.Builder_String_any w.heap.size _ _ _ HB6.out HX6.out.size).mono ?_;rintro e w7 ⟨rfl,hx7⟩;go_wp2_with fail;go_ret;exact ⟨by simp,HX6.out.below hx7 (Nat.le_refl _)⟩
theorem zHb (a b:Reg) (w:World):(binOp .neq 45 a.val b.val).run Tryz.prog w = .ok (.bool (!decide (a=b))) w:=by
 obtain ⟨nm,top,hgt,lft,wid,al,bot⟩:=a;obtain ⟨nm',top',hgt',lft',wid',al',bot'⟩:=b;unfold Reg.val;dsimp only;go_simp;simp only [toList_inj]
 repeat' split
 all_goals simp_all
theorem qYk (a b:Reg) (h:¬ a=b) (w:World):(binOp .neq 45 a.val b.val).run Tryz.prog w = .ok (.bool true) w:=by rw [zHb,decide_eq_false h];rfl
theorem zCv (a:Reg) (w:World):(binOp .neq 45 a.val a.val).run Tryz.prog w = .ok (.bool false) w:=by rw [zHb,decide_eq_true rfl];rfl
theorem qRl (A:Option Addr) (n c:Nat) (B:Option Addr) (m d:Nat) (l1 l2:List Reg) (w:World) (h1:qFw w A n l1) (h2:qFw w B m l2) (hn:n<=4611686018427387904) :
 Calls Tryz.prog 94 #[.slice A n c,.slice B m d] w fun e w'=>e = .returned (.bool (decide (l1=l2)))/\Ext w w':=by
 have L1:=gH h1.len;have L2:=gH h2.len;have H1:=gH h1;have H2:=gH h2;clear h1 h2
 by_cases hnm:n=m
 . subst hnm
   go_enter Tryz.func94,Tryz.ntmps94;go_wp2_with fail
   go_loopw [13] (fun i wr=>zEb w n l1 l2 i wr) (fun i _=>n-(intOf i).toNat)
   case atStart=>exact ⟨0,Nat.zero_le _,rfl,Ext.refl _,rfl⟩
   case round =>
    obtain ⟨k,hk,rfl,hx,hp⟩:=hrel;have HP:=gH hp;clear hp
    by_cases hlt:k<n
    . obtain ⟨b1,o1,r,rfl,hr,c0,c1,c2,c3,c4,c5,c6⟩:=(H1.out.ext hx).at_ hlt
      obtain ⟨b2,o2,s,rfl,hs,d0,d1,d2,d3,d4,d5,d6⟩:=(H2.out.ext hx).at_ hlt;have HR:=gH hr;have HS:=gH hs;clear hr hs;(have hk0:(0:Int)<=(k:Int):=by omega);(have hk1:(k:Int)<(n:Int):=by omega)
      by_cases hq:r=s
      . subst hq
        have HT:=gH (qEx HP.out HR.out HS.out);(have hne:=fun w=>zCv r w);unfold Reg.val at hne;go_wp2_with fail;go_quiet (fail);go_wp2_with fail;exact ⟨⟨k+1,by omega,by go_num,hx.drewN _,HT.out⟩,by simp [intOf];omega⟩
      . have hne:=fun w=>qYk r s hq w
        have HN:=gH (zGz HR.out HS.out hq);unfold Reg.val at hne;clear hq;go_wp2_with fail;go_quiet (fail);go_wp2_with fail;go_ret;exact ⟨qBh (decide_eq_false HN.out).symm,hx.drewN _⟩
    . have hkn:k=n:=by omega
      subst hkn;have HQ:=gH (qGj L1.out L2.out HP.out);go_wp2_with fail;go_ret;exact ⟨qBh (decide_eq_true HQ.out).symm,hx⟩
 . have hb:((n:Int) != (m:Int))=true:=by simp;omega
   have HN:Hid (¬ l1=l2):=by
    show ¬ _
    intro h;apply hnm;rw [← L1.out,← L2.out,h]
   go_enter Tryz.func94,Tryz.ntmps94;go_wp2_with fail;go_ret;exact ⟨qBh (decide_eq_false HN.out).symm,Ext.refl _⟩
def Com.aggV (c:Com):Value:=.agg #[.int .i64 c.id,.int .i64 c.ev,.int .i64 c.fr,.int .i64 c.til,.string c.author,.string c.text,.bool c.done,.bool c.lost]
theorem zHa (a b:Com) (w:World):(binOp .neq 95 a.aggV b.aggV).run Tryz.prog w = .ok (.bool (!decide (a=b))) w:=by
 obtain ⟨id,ev,fr,tl,au,tx,dn,lo⟩:=a;obtain ⟨id',ev',fr',tl',au',tx',dn',lo'⟩:=b;unfold Com.aggV;dsimp only;go_simp;simp only [toList_inj]
 repeat' split
 all_goals simp_all
theorem qYj (a b:Com) (h:¬ a=b) (w:World):(binOp .neq 95 a.aggV b.aggV).run Tryz.prog w = .ok (.bool true) w:=by rw [zHa,decide_eq_false h];rfl
theorem zCu (a:Com) (w:World):(binOp .neq 95 a.aggV a.aggV).run Tryz.prog w = .ok (.bool false) w:=by rw [zHa,decide_eq_true rfl];rfl
theorem qRj (A:Option Addr) (n c:Nat) (B:Option Addr) (m d:Nat) (l1 l2:List Com) (w:World) (h1:qHj w A n l1) (h2:qHj w B m l2) (hn:n<=4611686018427387904) :
 Calls Tryz.prog 96 #[.slice A n c,.slice B m d] w fun e w'=>e = .returned (.bool (decide (l1=l2)))/\Ext w w':=by
 have L1:=gH h1.len;have L2:=gH h2.len;have H1:=gH h1;have H2:=gH h2;clear h1 h2
 by_cases hnm:n=m
 . subst hnm
   go_enter Tryz.func96,Tryz.ntmps96;go_wp2_with fail
   go_loopw [13] (fun i wr=>zEb w n l1 l2 i wr) (fun i _=>n-(intOf i).toNat)
   case atStart=>exact ⟨0,Nat.zero_le _,rfl,Ext.refl _,rfl⟩
   case round =>
    obtain ⟨k,hk,rfl,hx,hp⟩:=hrel;have HP:=gH hp;clear hp
    by_cases hlt:k<n
    . obtain ⟨b1,o1,r,rfl,hr,c0,c1,c2,c3,c4,c5,c6,c7⟩:=(H1.out.ext hx).at8 hlt
      obtain ⟨b2,o2,s,rfl,hs,d0,d1,d2,d3,d4,d5,d6,d7⟩:=(H2.out.ext hx).at8 hlt;have HR:=gH hr;have HS:=gH hs;clear hr hs;(have hk0:(0:Int)<=(k:Int):=by omega);(have hk1:(k:Int)<(n:Int):=by omega)
      by_cases hq:r=s
      . subst hq
        have HT:=gH (qEx HP.out HR.out HS.out);(have hne:=fun w=>zCu r w);unfold Com.aggV at hne;go_wp2_with fail;go_quiet (fail);go_wp2_with fail;exact ⟨⟨k+1,by omega,by go_num,hx.drewN _,HT.out⟩,by simp [intOf];omega⟩
      . have hne:=fun w=>qYj r s hq w
        have HN:=gH (zGz HR.out HS.out hq);unfold Com.aggV at hne;clear hq;go_wp2_with fail;go_quiet (fail);go_wp2_with fail;go_ret;exact ⟨qBh (decide_eq_false HN.out).symm,hx.drewN _⟩
    . have hkn:k=n:=by omega
      subst hkn;have HQ:=gH (qGj L1.out L2.out HP.out);go_wp2_with fail;go_ret;exact ⟨qBh (decide_eq_true HQ.out).symm,hx⟩
 . have hb:((n:Int) != (m:Int))=true:=by simp;omega
   have HN:Hid (¬ l1=l2):=by
    show ¬ _
    intro h;apply hnm;rw [← L1.out,← L2.out,h]
   go_enter Tryz.func96,Tryz.ntmps96;go_wp2_with fail;go_ret;exact ⟨qBh (decide_eq_false HN.out).symm,Ext.refl _⟩
theorem qUb (A:Option Addr) (n c:Nat) (B:Option Addr) (m d:Nat) (l1 l2:List Ev) (w:World) (h1:qGw w A n l1) (h2:qGw w B m l2) (hn:n<=4611686018427387904) :
 Calls Tryz.prog 95 #[.slice A n c,.slice B m d,.func (.func 84) #[] #[]] w fun e w'=>e = .returned (.bool (decide (l1=l2)))/\Ext w w':=by
 have L1:=gH h1.len;have L2:=gH h2.len;have H1:=gH h1;have H2:=gH h2;clear h1 h2
 by_cases hnm:n=m
 . subst hnm
   go_enter Tryz.func95,Tryz.ntmps95;go_wp2_with fail
   go_loopw [17] (fun i wr=>zEb w n l1 l2 i wr) (fun i _=>n-(intOf i).toNat)
   case atStart=>exact ⟨0,Nat.zero_le _,rfl,Ext.refl _,rfl⟩
   case round =>
    obtain ⟨k,hk,rfl,hx,hp⟩:=hrel;have HP:=gH hp;clear hp
    by_cases hlt:k<n
    . obtain ⟨b1,o1,r,A1,n1,c1,rfl,hr,u1,p0,p1,p2,p3,p4,p5,p6⟩:=(H1.out.ext hx).at_ev hlt
      obtain ⟨b2,o2,s,A2,n2,c2,rfl,hs,u2,q0,q1,q2,q3,q4,q5,q6⟩:=(H2.out.ext hx).at_ev hlt;have U1:=gH u1;have U2:=gH u2;have HR:=gH hr;have HS:=gH hs;clear hr hs u1 u2;have hb2:b2<wr.heap.size:=World.block_lt_of_cell? wr _ q0;have hxa:=((Ext.refl wr).alloc (.cells (r.cells A1 n1 c1) 54)).alloc (.cells (s.cells A2 n2 c2) 54);have HX:=gH hxa;clear hxa;have HSame:=gH (fun w a b=>qUa r s A1 n1 c1 A2 n2 c2 w a b);unfold Ev.cells at HX HSame;go_wp2_with fail;refine (HSame.out _ (U1.out.ext HX.out) (U2.out.ext HX.out)).mono ?_;rintro e w1 ⟨rfl,hx1⟩;have hxw1:Ext w w1:=(hx.trans HX.out).trans hx1
      by_cases hq:r=s
      . subst hq
        have HT:=gH (qEx HP.out HR.out HS.out);rw [decide_eq_true rfl];go_wp2_with fail;exact ⟨⟨k+1,by omega,by go_num,hxw1,HT.out⟩,by simp [intOf];omega⟩
      . have HN:=gH (zGz HR.out HS.out hq)
        rw [decide_eq_false hq];clear hq;go_wp2_with fail;go_ret;exact ⟨qBh (decide_eq_false HN.out).symm,hxw1⟩
    . have hkn:k=n:=by omega
      subst hkn;have HQ:=gH (qGj L1.out L2.out HP.out);go_wp2_with fail;go_ret;exact ⟨qBh (decide_eq_true HQ.out).symm,hx⟩
 . have hb:((n:Int) != (m:Int))=true:=by simp;omega
   have HN:Hid (¬ l1=l2):=by
    show ¬ _
    intro h;apply hnm;rw [← L1.out,← L2.out,h]
   go_enter Tryz.func95,Tryz.ntmps95;go_wp2_with fail;go_ret;exact ⟨qBh (decide_eq_false HN.out).symm,Ext.refl _⟩
def Doc.hd (d:Doc):ByteArray × ByteArray × Int × Bool × Int:=(d.title,d.lang,d.rate,d.drop,d.last)
def qOt (a b:Doc):Bool:=decide (a.hd=b.hd) && (decide (a.regs=b.regs) && (decide (a.evs=b.evs) && decide (a.coms=b.coms)))
theorem zJy (a b:Doc) (w:World):(binOp .eql 155 a.head b.head).run Tryz.prog w = .ok (.bool (decide (a.hd=b.hd))) w:=by
 obtain ⟨a1,a2,a3,a4,a5,a6,a7,a8⟩:=a;obtain ⟨b1,b2,b3,b4,b5,b6,b7,b8⟩:=b;unfold Doc.head Doc.hd;dsimp only;go_simp;simp only [toList_inj]
 repeat' split
 all_goals simp_all
theorem zDy (a b:Doc) (h k:DocH) (w:World) (hA:qCx w a h) (hB:qCx w b k) (h1:h.rn<=4611686018427387904/\h.en<=4611686018427387904/\h.cn<=4611686018427387904) :
 Calls Tryz.prog 20 #[.agg (a.cells h),.agg (b.cells k)] w fun en w'=>en = .returned (.bool (qOt a b))/\Ext w w':=by
 have HX:Hid (Ext w ((w.alloc (.cells (a.cells h) 27)).alloc (.cells (b.cells k) 27))):=((Ext.refl w).alloc _).alloc _;have HBa:Hid (Blk ((w.alloc (.cells (a.cells h) 27)).alloc (.cells (b.cells k) 27)) w.heap.size 27 (a.cells h)):=(Blk.new w 27 (a.cells h)).alloc _;have HBb:Hid (Blk ((w.alloc (.cells (a.cells h) 27)).alloc (.cells (b.cells k) 27)) (w.heap.size+1) 27 (b.cells k)):=Blk.new' (by simp);have HHa:=gH (fun (y:EW ((w.alloc (.cells (a.cells h) 27)).alloc (.cells (b.cells k) 27)))=>qJx a h y.w);have HHb:=gH (fun (y:EW ((w.alloc (.cells (a.cells h) 27)).alloc (.cells (b.cells k) 27)))=>qJx b k y.w);have HR:=gH (fun (y:EW ((w.alloc (.cells (a.cells h) 27)).alloc (.cells (b.cells k) 27)))=>qRl h.ra h.rn h.rc k.ra k.rn k.rc a.regs b.regs y.w (hA.regs.ext (HX.out.trans y.ext)) (hB.regs.ext (HX.out.trans y.ext)) (by omega));have HE:=gH (fun (y:EW ((w.alloc (.cells (a.cells h) 27)).alloc (.cells (b.cells k) 27)))=>qUb h.ea h.en h.ec k.ea k.en k.ec a.evs b.evs y.w (hA.evs.ext (HX.out.trans y.ext)) (hB.evs.ext (HX.out.trans y.ext)) (by omega));have HC:=gH (fun (y:EW ((w.alloc (.cells (a.cells h) 27)).alloc (.cells (b.cells k) 27)))=>qRj h.ca h.cn h.cc k.ca k.cn k.cc a.coms b.coms y.w (hA.coms.ext (HX.out.trans y.ext)) (hB.coms.ext (HX.out.trans y.ext)) (by omega));(have hq0:=fun w=>zJy a b w);clear hA hB;unfold Doc.head at HHa HHb hq0;unfold Doc.cells at *
 obtain ⟨hra,hrn,hrc,hea,hen,hec,hca,hcn,hcc⟩:=h;obtain ⟨kra,krn,krc,kea,ken,kec,kca,kcn,kcc⟩:=k;dsimp only at *;have HS:Hid (qOt a b=(decide (a.hd=b.hd) && (decide (a.regs=b.regs) && (decide (a.evs=b.evs) && decide (a.coms=b.coms))))):=rfl;generalize decide (a.regs=b.regs)=vr at *;generalize decide (a.evs=b.evs)=ve at *;generalize decide (a.coms=b.coms)=vc at *;generalize decide (a.hd=b.hd)=vh at *;have HQ:=gH hq0;clear hq0
 cases vh
 . have hq:=fun w=>HQ.out w
   go_enter Tryz.func20,Tryz.ntmps20;go_wp2_with fail;(have hr_1:=fun (x:EW ((w.alloc (.cells #[.string a.title,.string a.lang,.int .u8 a.rate,.bool a.drop,.int .i64 a.last,.slice hra hrn hrc,.slice hea hen hec,.slice hca hcn hcc] 27)).alloc (.cells #[.string b.title,.string b.lang,.int .u8 b.rate,.bool b.drop,.int .i64 b.last,.slice kra krn krc,.slice kea ken kec,.slice kca kcn kcc] 27))) (o:Nat)=>(HBa.out.ext x.ext).cell o);(have hr_2:=fun (x:EW ((w.alloc (.cells #[.string a.title,.string a.lang,.int .u8 a.rate,.bool a.drop,.int .i64 a.last,.slice hra hrn hrc,.slice hea hen hec,.slice hca hcn hcc] 27)).alloc (.cells #[.string b.title,.string b.lang,.int .u8 b.rate,.bool b.drop,.int .i64 b.last,.slice kra krn krc,.slice kea ken kec,.slice kca kcn kcc] 27))) (o:Nat)=>(HBb.out.ext x.ext).cell o);refine qBr ((w.alloc (.cells #[.string a.title,.string a.lang,.int .u8 a.rate,.bool a.drop,.int .i64 a.last,.slice hra hrn hrc,.slice hea hen hec,.slice hca hcn hcc] 27)).alloc (.cells #[.string b.title,.string b.lang,.int .u8 b.rate,.bool b.drop,.int .i64 b.last,.slice kra krn krc,.slice kea ken kec,.slice kca kcn kcc] 27)) (Ext.refl _) (by kernel_rfl) (by kernel_rfl) ?_
   repeat (go_big_quiet_step ((first | (go_at_call 77;first | with_reducible exact EW.calls _ (HHa.out _) | with_reducible exact EW.calls _ (HHb.out _)) | (go_at_call 94;exact EW.calls _ (HR.out _)) | (go_at_call 95;exact EW.calls _ (HE.out _)) | (go_at_call 96;exact EW.calls _ (HC.out _)))))
   refine wpQuiet_nil ?_;rintro w_3 ⟨⟨_,hx_4⟩,rfl⟩
   try dsimp only
   clear hr_1 hr_2;have HX_5:=gH (HX.out.trans hx_4);have HB_6:=gH (HBa.out.ext hx_4);have HB_7:=gH (HBb.out.ext hx_4);clear hx_4 HX HBa HBb;go_wp2_with fail;go_ret;exact ⟨by rw [HS.out];rfl,HX_5.out⟩
 cases vr
 . have hq:=fun w=>HQ.out w
   go_enter Tryz.func20,Tryz.ntmps20;go_wp2_with fail;(have hr_8:=fun (x:EW ((w.alloc (.cells #[.string a.title,.string a.lang,.int .u8 a.rate,.bool a.drop,.int .i64 a.last,.slice hra hrn hrc,.slice hea hen hec,.slice hca hcn hcc] 27)).alloc (.cells #[.string b.title,.string b.lang,.int .u8 b.rate,.bool b.drop,.int .i64 b.last,.slice kra krn krc,.slice kea ken kec,.slice kca kcn kcc] 27))) (o:Nat)=>(HBa.out.ext x.ext).cell o);(have hr_9:=fun (x:EW ((w.alloc (.cells #[.string a.title,.string a.lang,.int .u8 a.rate,.bool a.drop,.int .i64 a.last,.slice hra hrn hrc,.slice hea hen hec,.slice hca hcn hcc] 27)).alloc (.cells #[.string b.title,.string b.lang,.int .u8 b.rate,.bool b.drop,.int .i64 b.last,.slice kra krn krc,.slice kea ken kec,.slice kca kcn kcc] 27))) (o:Nat)=>(HBb.out.ext x.ext).cell o);refine qBr ((w.alloc (.cells #[.string a.title,.string a.lang,.int .u8 a.rate,.bool a.drop,.int .i64 a.last,.slice hra hrn hrc,.slice hea hen hec,.slice hca hcn hcc] 27)).alloc (.cells #[.string b.title,.string b.lang,.int .u8 b.rate,.bool b.drop,.int .i64 b.last,.slice kra krn krc,.slice kea ken kec,.slice kca kcn kcc] 27)) (Ext.refl _) (by kernel_rfl) (by kernel_rfl) ?_
   repeat (go_big_quiet_step ((first | (go_at_call 77;first | with_reducible exact EW.calls _ (HHa.out _) | with_reducible exact EW.calls _ (HHb.out _)) | (go_at_call 94;exact EW.calls _ (HR.out _)) | (go_at_call 95;exact EW.calls _ (HE.out _)) | (go_at_call 96;exact EW.calls _ (HC.out _)))))
   refine wpQuiet_nil ?_;rintro w_10 ⟨⟨_,hx_11⟩,rfl⟩
   try dsimp only
   clear hr_8 hr_9;have HX_12:=gH (HX.out.trans hx_11);have HB_13:=gH (HBa.out.ext hx_11);have HB_14:=gH (HBb.out.ext hx_11);clear hx_11 HX HBa HBb;go_wp2_with fail;go_ret;exact ⟨by rw [HS.out];rfl,HX_12.out⟩
 cases ve
 . have hq:=fun w=>HQ.out w
   go_enter Tryz.func20,Tryz.ntmps20;go_wp2_with fail;(have hr_15:=fun (x:EW ((w.alloc (.cells #[.string a.title,.string a.lang,.int .u8 a.rate,.bool a.drop,.int .i64 a.last,.slice hra hrn hrc,.slice hea hen hec,.slice hca hcn hcc] 27)).alloc (.cells #[.string b.title,.string b.lang,.int .u8 b.rate,.bool b.drop,.int .i64 b.last,.slice kra krn krc,.slice kea ken kec,.slice kca kcn kcc] 27))) (o:Nat)=>(HBa.out.ext x.ext).cell o);(have hr_16:=fun (x:EW ((w.alloc (.cells #[.string a.title,.string a.lang,.int .u8 a.rate,.bool a.drop,.int .i64 a.last,.slice hra hrn hrc,.slice hea hen hec,.slice hca hcn hcc] 27)).alloc (.cells #[.string b.title,.string b.lang,.int .u8 b.rate,.bool b.drop,.int .i64 b.last,.slice kra krn krc,.slice kea ken kec,.slice kca kcn kcc] 27))) (o:Nat)=>(HBb.out.ext x.ext).cell o);refine qBr ((w.alloc (.cells #[.string a.title,.string a.lang,.int .u8 a.rate,.bool a.drop,.int .i64 a.last,.slice hra hrn hrc,.slice hea hen hec,.slice hca hcn hcc] 27)).alloc (.cells #[.string b.title,.string b.lang,.int .u8 b.rate,.bool b.drop,.int .i64 b.last,.slice kra krn krc,.slice kea ken kec,.slice kca kcn kcc] 27)) (Ext.refl _) (by kernel_rfl) (by kernel_rfl) ?_
   repeat (go_big_quiet_step ((first | (go_at_call 77;first | with_reducible exact EW.calls _ (HHa.out _) | with_reducible exact EW.calls _ (HHb.out _)) | (go_at_call 94;exact EW.calls _ (HR.out _)) | (go_at_call 95;exact EW.calls _ (HE.out _)) | (go_at_call 96;exact EW.calls _ (HC.out _)))))
   refine wpQuiet_nil ?_;rintro w_17 ⟨⟨_,hx_18⟩,rfl⟩
   try dsimp only
   clear hr_15 hr_16;have HX_19:=gH (HX.out.trans hx_18);have HB_20:=gH (HBa.out.ext hx_18);have HB_21:=gH (HBb.out.ext hx_18);clear hx_18 HX HBa HBb;go_wp2_with fail;go_ret;exact ⟨by rw [HS.out];rfl,HX_19.out⟩
 (have hq:=fun w=>HQ.out w);go_enter Tryz.func20,Tryz.ntmps20;go_wp2_with fail;(have hr_22:=fun (x:EW ((w.alloc (.cells #[.string a.title,.string a.lang,.int .u8 a.rate,.bool a.drop,.int .i64 a.last,.slice hra hrn hrc,.slice hea hen hec,.slice hca hcn hcc] 27)).alloc (.cells #[.string b.title,.string b.lang,.int .u8 b.rate,.bool b.drop,.int .i64 b.last,.slice kra krn krc,.slice kea ken kec,.slice kca kcn kcc] 27))) (o:Nat)=>(HBa.out.ext x.ext).cell o);(have hr_23:=fun (x:EW ((w.alloc (.cells #[.string a.title,.string a.lang,.int .u8 a.rate,.bool a.drop,.int .i64 a.last,.slice hra hrn hrc,.slice hea hen hec,.slice hca hcn hcc] 27)).alloc (.cells #[.string b.title,.string b.lang,.int .u8 b.rate,.bool b.drop,.int .i64 b.last,.slice kra krn krc,.slice kea ken kec,.slice kca kcn kcc] 27))) (o:Nat)=>(HBb.out.ext x.ext).cell o);refine qBr ((w.alloc (.cells #[.string a.title,.string a.lang,.int .u8 a.rate,.bool a.drop,.int .i64 a.last,.slice hra hrn hrc,.slice hea hen hec,.slice hca hcn hcc] 27)).alloc (.cells #[.string b.title,.string b.lang,.int .u8 b.rate,.bool b.drop,.int .i64 b.last,.slice kra krn krc,.slice kea ken kec,.slice kca kcn kcc] 27)) (Ext.refl _) (by kernel_rfl) (by kernel_rfl) ?_
 repeat (go_big_quiet_step ((first | (go_at_call 77;first | with_reducible exact EW.calls _ (HHa.out _) | with_reducible exact EW.calls _ (HHb.out _)) | (go_at_call 94;exact EW.calls _ (HR.out _)) | (go_at_call 95;exact EW.calls _ (HE.out _)) | (go_at_call 96;exact EW.calls _ (HC.out _)))))
 refine wpQuiet_nil ?_;rintro w_24 ⟨⟨_,hx_25⟩,rfl⟩
 try dsimp only
 clear hr_22 hr_23;have HX_26:=gH (HX.out.trans hx_25);have HB_27:=gH (HBa.out.ext hx_25);have HB_28:=gH (HBb.out.ext hx_25);clear hx_25 HX HBa HBb;go_wp2_with fail;go_ret;exact ⟨by rw [HS.out];rfl,HX_26.out⟩
theorem zDx (a b:Doc) (h k:DocH) (w:World) (hA:qCx w a h) (hB:qCx w b k) (h1:h.rn<=1000000000/\h.en<=1000000000/\h.cn<=1000000000) :
 Calls Tryz.prog 20 #[.agg (a.cells h),.agg (b.cells k)] w fun en w'=>en = .returned (.bool (qOt a b))/\Ext w w':=zDy a b h k w hA hB (by omega)
theorem ea_ap:(nDoc tHi).apRows 1 [[runP qCk]]=(nDoc qCk,0):=by kernel_rfl
theorem zFh:(nDoc tHi).err=0:=by kernel_rfl
theorem zNu:(nDoc qCk).err=0:=by kernel_rfl
theorem zFi (t:ByteArray):DSm (nDoc t):=⟨by simp [nDoc],by simp [nDoc],by simp [nDoc]⟩
theorem zQn (t:ByteArray) (ht:t.size<=1000):qDn [runP t]:=by
 refine ⟨by simp [qAe,runP];omega,fun x hx=>?_⟩;have hx':x=runP t:=List.mem_singleton.1 hx;subst hx';exact ⟨by simp [runP];omega,by show (⟨#[]⟩:ByteArray).size<=4611686018427387904;decide⟩
theorem qZp (t:ByteArray) (ht:t.size<=1000):qCf (nDoc t):=by
 refine ⟨⟨by show (0:Int)<=3;decide,by show (3:Int)<=255;decide,by show (⟨#[]⟩:ByteArray).size<=9223372036854775807;decide,by show (⟨#[]⟩:ByteArray).size<=9223372036854775807;decide⟩,fun r hr=>by simp [nDoc] at hr,fun e he=>?_,fun e he=>?_,fun c hc=>by simp [nDoc] at hc⟩
 . have he':e=evHi t:=by simpa [nDoc] using he
   subst he';refine ⟨⟨by show (⟨#[]⟩:ByteArray).size<=9223372036854775807;decide,by show (⟨#[]⟩:ByteArray).size<=9223372036854775807;decide,fun r hr=>?_⟩,?_⟩
   . have hr':r=[runP t]:=by simpa [evHi] using hr
     subst hr';exact zQn t ht
   . simp [Ev.bytes,evHi,qAe,runP]
     omega
 . have he':e=evHi t:=by simpa [nDoc] using he
   subst he';exact ⟨by show (-9223372036854775808:Int)<=1;decide,by show (1:Int)<=9223372036854775807;decide⟩
theorem zNw:qOt (nDoc tHi) (nDoc tHi)=true:=by simp [qOt]
theorem ea_ne:evHi tHi≠evHi qCk:=by decide
theorem zNv:(evHi tHi).rows≠[[runP qCk]]:=by decide
def qZv (ops:Array Oper) (chain:List Nat) (gl:List (Nat × Bool)) (o:Oper):Bool :=
 match o.guard with
 | none=>true
 | some g=>gl.contains g && qPj o g.1 && (dstO ops g.1).isSome && !chain.contains g.1
theorem zMs {ops:Array Oper} {chain:List Nat} {gl:List (Nat × Bool)} {pv us:List Value} {a0 a:Act} {o:Oper} {A B:Prop} (hg:qZv ops chain gl o=true) (hgl:∀ g∈gl,pv[g.1]?=some (.bool g.2)) (hF:qRo ops chain pv us a0 a o) (h:A):if Region.wanted o (yielded ops a.tmps)=true then A else B:=by
 unfold qZv at hg
 cases hgd:o.guard with
 | none=>exact qAm hgd h
 | some g =>
   rw [hgd] at hg;simp only [Bool.and_eq_true,Bool.not_eq_true'] at hg;obtain ⟨⟨⟨h1,h2⟩,h3⟩,h4⟩:=hg;obtain ⟨s,hs⟩:=Option.isSome_iff_exists.1 h3;have hv:=hF.pure g.1 s _ h2 hs h4 (hgl g (by simpa using h1));exact qAk (k:=g.1) (b:=g.2) hgd hs hv (by simp) h
theorem qMl {P:Program} {ops:Array Oper} {Q:Exit->Act->World->Prop} {id:Nat} {a0:Act} {W:World} (gl:List (Nat × Bool)) (slots:List (Option Nat)) (deps:List (List Nat)) (chain:List Nat) (pv:List Value) (J:List Value->World->Prop) (hgl:∀ g∈gl,pv[g.1]?=some (.bool g.2)) (hm:P.follows .mixedOrders=true) (hdst:qGi ops a0.tmps.size=true) (hord:ordB 0 ops.toList=true)
 (hs:ops.toList.map (·.dst)=slots) (hd:ops.toList.map qFm=deps) (hg:ops.toList.all (qZv ops chain gl)=true) (hch:qEl ops chain=true) (hnd:chain.Nodup) (h0:J [] W.drew)
 (hpure:∀ (i:Nat) (o:Oper),ops[i]?=some o->chain.contains i=false->∀ (a:Act) (w:World) (us:List Value) (K:Act->World->Prop),J us w->Sees slots deps chain pv us a0 a i->(∀ p c,chain[p]?=some c->(deps.getD c []).contains i=true->us.length<=p)->K (a.put o.dst (pv.getD i undef)) w->Oper.wp P o a w K Q)
 (hlink:∀ (p c:Nat) (o:Oper),chain[p]?=some c->ops[c]?=some o->∀ (a:Act) (w:World) (us:List Value) (K:Act->World->Prop),us.length=p->J us w->Sees slots deps chain pv us a0 a c->(∀ v w',J (us++[v]) w'->K (a.put o.dst v) w')->Oper.wp P o a w K Q)
 (hQ:∀ us w,us.length=chain.length->J us w->Q .normal { a0 with tmps:=(qCd ops chain pv us).foldl (fun t p=>t.setIfInBounds p.1 p.2) a0.tmps } w) :
 (Code.region id ops true).wp P Q a0 W:=by
 (have hgd:∀ (i:Nat) (o:Oper),ops[i]?=some o->qZv ops chain gl o=true:=fun i o ho=>List.all_eq_true.1 hg o (by simpa using Array.mem_of_getElem? ho));refine qIk chain pv J hm hdst hord hch hnd h0 (fun i o ho hc a w us K hJ hF hl hk=>?_) (fun p c o hp ho a w us K hl hJ hF hk=>?_) hQ
 . refine zMs (hgd i o ho) hgl hF (hpure i o ho hc a w us K hJ (hF.sees hs hd ho) (fun p c hp he=>?_) hk)
   have hcl:=qEs hch hp;(have hoc:ops[c]?=some ops[c]:=by simp [hcl]);refine hl p c _ hp hoc (qDk ?_)
   have:deps.getD c []=qFm ops[c]:=by
    rw [← hd,List.getD_eq_getElem?_getD,List.getElem?_map];(have:ops.toList[c]?=some ops[c]:=by simp [hcl]);(rw [this];rfl)
   rw [← this];exact he
 . exact zMs (hgd c o ho) hgl hF (hlink p c o hp ho a w us K hl hJ (hF.sees hs hd ho) hk)
end
end Go.Proofs.YtneffpbodfjceaaGreatDoor