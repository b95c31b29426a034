/- Texts laid together. -/
import Derived.Test.YtneffpbodfjceaaGreatDoorTa24
set_option linter.unusedVariables false
set_option linter.unusedSimpArgs false
set_option maxRecDepth 100000
set_option maxHeartbeats 16000000
namespace Go.Proofs.YtneffpbodfjceaaGreatDoor
section
open Go.RowKit
theorem qOv:∀ x:ByteArray,∀ u∈[Value.string x],u.oneCell'=true:=fun x u hu=>by
 rw [List.mem_singleton] at hu;subst hu;rfl
theorem qVh (A:Option Addr) (m c gf go:Nat) (wd:ByteArray) (w:World) (hF:Blk w gf 133 #[.string wd,.int .i64 2049]):Calls Tryz.prog 162 #[.int .i64 4,.slice A m c,.pointer (some ⟨gf,0,none⟩),.pointer (some ⟨go,0,none⟩)] w fun e w'=>e = .returned (.tuple #[])/\Ext w w':=by
 (have hc:=fun o=>hF.cell o);clear hF;go_enter Tryz.func162,Tryz.ntmps162;go_wp2_with fail;go_end0;exact ⟨rfl,Ext.refl _⟩
theorem qVi (A:Option Addr) (m c gf go:Nat) (wd:ByteArray) (w:World) (hF:Blk w gf 133 #[.string wd,.int .i64 2049]):Calls Tryz.prog 162 #[.int .i64 8,.slice A m c,.pointer (some ⟨gf,0,none⟩),.pointer (some ⟨go,0,none⟩)] w fun e w'=>e = .returned (.tuple #[])/\Ext w w':=by
 (have hc:=fun o=>hF.cell o);clear hF;go_enter Tryz.func162,Tryz.ntmps162;go_wp2_with fail;go_end0;exact ⟨rfl,Ext.refl _⟩
theorem qVg (A:Option Addr) (m c gf go:Nat) (wd:ByteArray) (w:World) (hF:Blk w gf 133 #[.string wd,.int .i64 2049]):Calls Tryz.prog 162 #[.int .i64 2,.slice A m c,.pointer (some ⟨gf,0,none⟩),.pointer (some ⟨go,0,none⟩)] w fun e w'=>e = .returned (.tuple #[])/\Ext w w':=by
 (have hc:=fun o=>hF.cell o);clear hF;go_enter Tryz.func162,Tryz.ntmps162;go_wp2_with fail;go_end0;exact ⟨rfl,Ext.refl _⟩
theorem qSi (A:Option Addr) (m c gf go:Nat) (wd:ByteArray) (w:World) (hF:Blk w gf 133 #[.string wd,.int .i64 2049]):Calls Tryz.prog 162 #[.int .i64 16,.slice A m c,.pointer (some ⟨gf,0,none⟩),.pointer (some ⟨go,0,none⟩)] w fun e w'=>e = .returned (.tuple #[])/\Ext w w':=by
 (have hc:=fun o=>hF.cell o);clear hF;go_enter Tryz.func162,Tryz.ntmps162;go_wp2_with fail;go_end0;exact ⟨rfl,Ext.refl _⟩
theorem qSj (A:Option Addr) (m c gf go:Nat) (wd:ByteArray) (w:World) (hF:Blk w gf 133 #[.string wd,.int .i64 2049]):Calls Tryz.prog 162 #[.int .i64 32,.slice A m c,.pointer (some ⟨gf,0,none⟩),.pointer (some ⟨go,0,none⟩)] w fun e w'=>e = .returned (.tuple #[])/\Ext w w':=by
 (have hc:=fun o=>hF.cell o);clear hF;go_enter Tryz.func162,Tryz.ntmps162;go_wp2_with fail;go_end0;exact ⟨rfl,Ext.refl _⟩
theorem qPl (A:Option Addr) (m c gf go:Nat) (wd:ByteArray) (w:World) (hF:Blk w gf 133 #[.string wd,.int .i64 2049]):Calls Tryz.prog 162 #[.int .i64 128,.slice A m c,.pointer (some ⟨gf,0,none⟩),.pointer (some ⟨go,0,none⟩)] w fun e w'=>e = .returned (.tuple #[])/\Ext w w':=by
 (have hc:=fun o=>hF.cell o);clear hF;go_enter Tryz.func162,Tryz.ntmps162;go_wp2_with fail;go_end0;exact ⟨rfl,Ext.refl _⟩
theorem qPm (A:Option Addr) (m c gf go:Nat) (wd:ByteArray) (w:World) (hF:Blk w gf 133 #[.string wd,.int .i64 2049]):Calls Tryz.prog 162 #[.int .i64 256,.slice A m c,.pointer (some ⟨gf,0,none⟩),.pointer (some ⟨go,0,none⟩)] w fun e w'=>e = .returned (.tuple #[])/\Ext w w':=by
 (have hc:=fun o=>hF.cell o);clear hF;go_enter Tryz.func162,Tryz.ntmps162;go_wp2_with fail;go_end0;exact ⟨rfl,Ext.refl _⟩
theorem qSk (A:Option Addr) (m c gf go:Nat) (wd:ByteArray) (w:World) (hF:Blk w gf 133 #[.string wd,.int .i64 2049]):Calls Tryz.prog 162 #[.int .i64 64,.slice A m c,.pointer (some ⟨gf,0,none⟩),.pointer (some ⟨go,0,none⟩)] w fun e w'=>e = .returned (.tuple #[])/\Ext w w':=by
 (have hc:=fun o=>hF.cell o);clear hF;go_enter Tryz.func162,Tryz.ntmps162;go_wp2_with fail;go_end0;exact ⟨rfl,Ext.refl _⟩
theorem qPn (A:Option Addr) (m c gf go:Nat) (wd:ByteArray) (w:World) (hF:Blk w gf 133 #[.string wd,.int .i64 2049]):Calls Tryz.prog 162 #[.int .i64 512,.slice A m c,.pointer (some ⟨gf,0,none⟩),.pointer (some ⟨go,0,none⟩)] w fun e w'=>e = .returned (.tuple #[])/\Ext w w':=by
 (have hc:=fun o=>hF.cell o);clear hF;go_enter Tryz.func162,Tryz.ntmps162;go_wp2_with fail;go_end0;exact ⟨rfl,Ext.refl _⟩
theorem qYa (A:Option Addr) (m c gf go L:Nat) (v:Value) (l ms:List ByteArray) (wd:ByteArray) (w w0:World) (hF:Blk w gf 133 #[.string wd,.int .i64 2049]) (hO:Blk w go 129 #[v]) (hv:qAp w L v l) (hm:qFj w A m ms) (hx0:Ext w0 w) (hL:w0.heap.size<=L) (hLw:L<=w.heap.size) (hgo:w0.heap.size<=go) (hl:l.length+m<=1000000) :
 Calls Tryz.prog 162 #[.int .i64 1,.slice A m c,.pointer (some ⟨gf,0,none⟩),.pointer (some ⟨go,0,none⟩)] w fun e w'=>e = .returned (.tuple #[])/\∃ v',Blk w' go 129 #[v']/\qAp w' L v' (l++ms)/\Ext w0 w'/\L<=w'.heap.size/\∀ T,T≠9->T≠129->KB T w w':=by
 obtain ⟨A1,c1,hv1,-⟩:=hv.at_;subst hv1;(have hc:=fun o=>hF.cell o);(have ho:=fun o=>hO.cell o);have HO:=gH hO;have HV:=gH hv;have HM:=gH hm;have HX:=gH hx0;have hml:=hm.len;clear hF hO hv hm hx0;go_enter Tryz.func162,Tryz.ntmps162;go_wp2_with (refine qAx (f:=fun x:ByteArray=>[Value.string x]) rfl (.tmp 11) (.tmp 12) 129 rfl qEu Tryz.underlying129 rfl (by decide) (base:=L) (n:=l.length) (xs:=l.flatMap fun x=>[Value.string x]) HV.out (by exact rfl) (A:=A) (m:=m) (c:=c) (l:=ms) (by exact rfl) HM.out (fun _=>rfl) qOv (by omega) (by unfold maxLen;omega) hLw ?_;intro v' w3 hown3 hgr _;have hkb:∀ T,T≠9->KB T w w3:=fun T hn=>KB.grown hgr (qAt HV.out) hn;have hB3:=HO.out.kb (hkb 129 (by decide));have hx3:=HX.out.grown hgr (fun q hq=>Nat.le_trans hL (qBg HV.out q hq));have hsz3:=hgr.size;have hc3:=fun o=>hB3.cell o;have hf3:=fun o=>hB3.frozen o;have hst3:=qAd hB3 0 v';have HB3:=gH hB3;have HO3:=gH hown3;have HKB:=gH hkb;have HX3:=gH hx3;obtain ⟨A9,c9,hv9,-⟩:=qBn (f:=fun x:ByteArray=>[Value.string x]) (size:=1) (l:=l++ms) (fun _=>rfl) (by rw [List.length_append,hml]) (by rw [List.flatMap_append];exact hown3);subst hv9;clear hown3 hgr hkb hx3 hB3);go_end0;refine ⟨rfl,.slice A9 (l.length+m) c9,by first | exact HB3.out.put _ | skip,?_,?_,?_,fun T h1 h2=>?_⟩
 . have:=qBi (cs:=#[.slice A9 (l.length+m) c9]) HO3.out HB3.out (by decide)
   unfold qAp;rw [List.length_append,hml,List.flatMap_append];exact this
 . exact HX3.out.put hgo _ _
 . show L<=(putB _ _ _ _).heap.size
   rw [qGn];omega
 . exact (HKB.out T h1).trans ((ButB.put (ButB.refl _) _ _).kb HB3.out.typed h2)
theorem qPk (A:Option Addr) (m c gf go L:Nat) (v:Value) (l ms:List ByteArray) (wd:ByteArray) (w w0:World) (hF:Blk w gf 133 #[.string wd,.int .i64 2049]) (hO:Blk w go 129 #[v]) (hv:qAp w L v l) (hm:qFj w A m ms) (hx0:Ext w0 w) (hL:w0.heap.size<=L) (hLw:L<=w.heap.size) (hgo:w0.heap.size<=go) (hl:l.length+m<=1000000) :
 Calls Tryz.prog 162 #[.int .i64 2048,.slice A m c,.pointer (some ⟨gf,0,none⟩),.pointer (some ⟨go,0,none⟩)] w fun e w'=>e = .returned (.tuple #[])/\∃ v',Blk w' go 129 #[v']/\qAp w' L v' (l++ms)/\Ext w0 w'/\L<=w'.heap.size/\∀ T,T≠9->T≠129->KB T w w':=by
 obtain ⟨A1,c1,hv1,-⟩:=hv.at_;subst hv1;(have hc:=fun o=>hF.cell o);(have ho:=fun o=>hO.cell o);have HO:=gH hO;have HV:=gH hv;have HM:=gH hm;have HX:=gH hx0;have hml:=hm.len;clear hF hO hv hm hx0;go_enter Tryz.func162,Tryz.ntmps162;go_wp2_with (refine qAx (f:=fun x:ByteArray=>[Value.string x]) rfl (.tmp 11) (.tmp 12) 129 rfl qEu Tryz.underlying129 rfl (by decide) (base:=L) (n:=l.length) (xs:=l.flatMap fun x=>[Value.string x]) HV.out (by exact rfl) (A:=A) (m:=m) (c:=c) (l:=ms) (by exact rfl) HM.out (fun _=>rfl) qOv (by omega) (by unfold maxLen;omega) hLw ?_;intro v' w3 hown3 hgr _;have hkb:∀ T,T≠9->KB T w w3:=fun T hn=>KB.grown hgr (qAt HV.out) hn;have hB3:=HO.out.kb (hkb 129 (by decide));have hx3:=HX.out.grown hgr (fun q hq=>Nat.le_trans hL (qBg HV.out q hq));have hsz3:=hgr.size;have hc3:=fun o=>hB3.cell o;have hf3:=fun o=>hB3.frozen o;have hst3:=qAd hB3 0 v';have HB3:=gH hB3;have HO3:=gH hown3;have HKB:=gH hkb;have HX3:=gH hx3;obtain ⟨A9,c9,hv9,-⟩:=qBn (f:=fun x:ByteArray=>[Value.string x]) (size:=1) (l:=l++ms) (fun _=>rfl) (by rw [List.length_append,hml]) (by rw [List.flatMap_append];exact hown3);subst hv9;clear hown3 hgr hkb hx3 hB3);go_end0;refine ⟨rfl,.slice A9 (l.length+m) c9,by first | exact HB3.out.put _ | skip,?_,?_,?_,fun T h1 h2=>?_⟩
 . have:=qBi (cs:=#[.slice A9 (l.length+m) c9]) HO3.out HB3.out (by decide)
   unfold qAp;rw [List.length_append,hml,List.flatMap_append];exact this
 . exact HX3.out.put hgo _ _
 . show L<=(putB _ _ _ _).heap.size
   rw [qGn];omega
 . exact (HKB.out T h1).trans ((ButB.put (ButB.refl _) _ _).kb HB3.out.typed h2)
theorem qSx (tx:ByteArray) (A:Option Addr) (c:Nat) (w:World) (hE:Env w) (hl:qCb w A 1 [[runP tx]]) (hp:qJb tx) (hq:zJj tx) (hs:tx.size<=4294967296) (hv:vld tx=true) (hne:tx.size≠0) :
 Calls Tryz.prog 166 #[.slice A 1 c] w fun e w'=>∃ v,e = .returned v/\qAp w' w.heap.size v [quoS tx]/\Ext w w':=by
 have HL:=gH hl;have HTx:=gH (fun A c w' (hx:Ext w w') hl=>zAs tx A c w' (hE.ext hx) hl hp hs hv hne);have HQu:=gH (fun w=>zAm tx w hq hs);clear hE hl hp hq hv hne;go_enter Tryz.func166,Tryz.ntmps166;go_wp2_with fail
 go_loopw [3,10] (fun v i wr=>∃ k:Nat,k<=1/\i = .int .i64 (k:Int)/\Ext w wr/\qAp wr w.heap.size v (if k=0 then [] else [quoS tx])) (fun _ i _=>1-(intOf i).toNat)
 case atStart=>exact ⟨0,Nat.zero_le _,rfl,Ext.refl w,⟨rfl,.inl ⟨rfl,rfl⟩⟩⟩
 case round =>
  obtain ⟨k,hk,rfl,hx,hown⟩:=hrel;have HX:=gH hx;have HO:=gH hown;clear hx hown
  by_cases hlt:k<1
  . obtain rfl:k=0:=by omega
    obtain ⟨b,off,r,rfl,hr,A',n',c',h1',h2',h3',h4'⟩:=(HL.out.ext HX.out).at_ (i:=0) (by omega);obtain rfl:[runP tx]=r:=Option.some.inj hr;simp only [Nat.mul_one,Nat.add_zero] at h1';have hn1:1=n':=h4'.len;subst hn1;have HC:=gH (HTx.out A' c' _ (HX.out.alloc (.cells #[.slice A' 1 c'] 61)) (h4'.ext ((Ext.refl wr).alloc _)));clear h4' hr;go_wp2_with fail;refine HC.out.mono ?_;rintro e w2 ⟨rfl,hx2⟩;have HX2:=gH ((HX.out.alloc _).trans hx2);have HO2:=gH (HO.out.ext (((Ext.refl wr).alloc _).trans hx2));clear hx2 HC;go_wp2_with fail;refine (HQu.out _).mono ?_;rintro e w3 ⟨rfl,hx3⟩;have HX3:=gH (HX2.out.trans hx3);have HO3:Hid (w3.ownsRow w.heap.size 9 1 _ 0 []):=gH (qAh HO2.out hx3);have hs3:=HX3.out.size;clear hx3;go_wp2_with (at_builtin;refine qAi rfl (.tmp 19) (.tmp 22) 129 rfl qEu Tryz.underlying129 rfl (by decide) (HO3.out.alloc _) (by exact rfl) w3.heap.size _ (by exact rfl) (by exact Blk.new' rfl) (by exact rfl) (by simp [Value.oneCell']) (by first | omega | simp) (by first | (simp [maxLen];done) | (unfold maxLen;omega)) (by simp;omega) ?_;intro v' w4 hown4 hgr);refine ⟨⟨1,by omega,rfl,(HX3.out.alloc _).grown hgr (fun q hq=>by have:=qBg HO3.out q hq;simpa using this),?_⟩,by simp [intOf]⟩;exact hown4
  . obtain rfl:k=1:=by omega
    go_wp2_with fail;go_ret;exact ⟨_,rfl,HO.out,HX.out⟩
theorem zIc:(Tryz.prog.info? 133).map (·.size)=some 2:=rfl
structure FsJ (k:Nat) (wd:ByteArray) (uses:Int) (W:World) (us:List Value) (gs:Nat->Option Nat) (w:World):Prop where
 ext:Ext W w
 va:∀ g,gs 6=some g->W.heap.size<=g/\Blk w g 133 (if us.length<=3 then #[.string ⟨#[]⟩,.int .i64 0] else #[.string wd,.int .i64 uses])
 fs:∀ u0,us[0]?=some u0->∃ f,u0 = .slice (some ⟨f,0,none⟩) 19 19/\Blk w f 133 qFn/\(∀ u,us[1]?=some u->u = .pointer (some ⟨f,k*2,none⟩))/\(∀ u,us[2]?=some u->u = .agg #[.string wd,.int .i64 uses])/\W.heap.size<=f/\∀ g,gs 6=some g->g≠f
section
variable {k:Nat} {wd:ByteArray} {uses:Int} {W w w2:World} {us:List Value} {gs:Nat->Option Nat} {u0 u1 u2 v:Value}
theorem FsJ.start (W:World):FsJ k wd uses W [] (fun _=>none) W.drew:=⟨(Ext.refl W).drew,fun g h=>(by cases h),fun u h=>(by simp at h)⟩
theorem FsJ.alloc (h:FsJ k wd uses W us gs w) (hl:us.length<=3):FsJ k wd uses W us (upd gs 6 w.heap.size) (w.alloc (.cells #[.string ⟨#[]⟩,.int .i64 0] 133)):=by
 refine ⟨h.ext.alloc _,fun g hg=>?_,fun u hu=>?_⟩
 . rw [qCv] at hg
   obtain rfl:w.heap.size=g:=Option.some.inj hg;rw [if_pos hl];exact ⟨h.ext.size,Blk.new w _ _⟩
 . obtain ⟨f,a,b,c,d,e,_⟩:=h.fs u hu
   refine ⟨f,a,b.alloc _,c,d,e,fun g hg=>?_⟩;rw [qCv] at hg;obtain rfl:w.heap.size=g:=Option.some.inj hg;have:=b.lt;omega
theorem FsJ.call {f:Nat} (h:FsJ k wd uses W [] gs w) (hx:Ext w w2) (hf:w.heap.size<=f) (hB:Blk w2 f 133 qFn):FsJ k wd uses W ([]++[.slice (some ⟨f,0,none⟩) 19 19]) gs w2:=by
 refine ⟨h.ext.trans hx,fun g hg=>?_,fun u hu=>?_⟩
 . obtain ⟨h1,h2⟩:=h.va g hg
   exact ⟨h1,h2.ext hx⟩
 . simp at hu
   subst hu;exact ⟨f,rfl,hB,fun u h=>by simp at h,fun u h=>by simp at h,Nat.le_trans h.ext.size hf,fun g hg=>by have:=(h.va g hg).2.lt;omega⟩
theorem FsJ.idx {f:Nat} (h:FsJ k wd uses W [.slice (some ⟨f,0,none⟩) 19 19] gs w):FsJ k wd uses W ([.slice (some ⟨f,0,none⟩) 19 19]++[.pointer (some ⟨f,k*2,none⟩)]) gs w:=by
 refine ⟨h.ext,h.va,fun u hu=>?_⟩;simp at hu;subst hu;obtain ⟨f',a,b,-,-,c,d⟩:=h.fs _ rfl
 cases a
 exact ⟨f,rfl,b,fun u h=>by simp at h;exact h.symm,fun u h=>by simp at h,c,d⟩
theorem FsJ.ld {f:Nat} (h:FsJ k wd uses W [.slice (some ⟨f,0,none⟩) 19 19,u1] gs w):FsJ k wd uses W ([.slice (some ⟨f,0,none⟩) 19 19,u1]++[.agg #[.string wd,.int .i64 uses]]) gs w:=by
 refine ⟨h.ext,h.va,fun u hu=>?_⟩;simp at hu;subst hu;obtain ⟨f',a,b,c,-,d,e⟩:=h.fs _ rfl
 cases a
 exact ⟨f,rfl,b,c,fun u h=>by simp at h;exact h.symm,d,e⟩
theorem FsJ.blk {g:Nat} (h:FsJ k wd uses W us gs w) (hg:gs 6=some g) (hl:us.length<=3):Blk w g 133 #[.string ⟨#[]⟩,.int .i64 0]:=by
 have:=(h.va g hg).2
 rwa [if_pos hl] at this
theorem FsJ.store {g:Nat} (h:FsJ k wd uses W [u0,u1,u2] gs w) (hg:gs 6=some g):FsJ k wd uses W ([u0,u1,u2]++[v]) gs (putB w g 133 #[.string wd,.int .i64 uses]):=by
 obtain ⟨h1,h2⟩:=h.va g hg;refine ⟨h.ext.put h1 _ _,fun g' hg'=>?_,fun u hu=>?_⟩
 . rw [hg] at hg'
   cases hg'
   rw [if_neg (by simp)];exact ⟨h1,h2.put _⟩
 . obtain ⟨f,a,b,c,d,e,k⟩:=h.fs u hu
   exact ⟨f,a,b.put_other (k g hg) _,c,d,e,k⟩
end
theorem qWw {o:Oper} {a:Act} {w:World} {K:Act->World->Prop} {Q:Exit->Act->World->Prop} {s:Nat} (ho:o.op = .load 133 (.tmp s)) (g off:Nat) (wd:ByteArray) (u:Int) (hx:a.eval (.tmp s) = .pointer (some ⟨g,off,none⟩)) (h0:w.cell? ⟨g,off,none⟩=some (.string wd)) (h1:w.cell? ⟨g,off+1,none⟩=some (.int .i64 u)) (h:K (a.put o.dst (.agg #[.string wd,.int .i64 u])) w):o.wp Tryz.prog a w K Q:=by
 obtain ⟨dst,op,ty,pos,after,guard⟩:=o;simp only at ho;subst ho;(have fx:a.tmps[s]?.getD undef = .pointer (some ⟨g,off,none⟩):=by simpa [Act.eval] using hx);go_simp;exact h
theorem qLb {P:Program} {o:Oper} {a:Act} {w:World} {K:Act->World->Prop} {Q:Exit->Act->World->Prop} {f:FuncId} {c x:Operand} {ts:Array TypeId} {v:Value} (ho:o.op = .call { callee:=.value c,args:=#[x],argTypes:=ts }) (hc:a.eval c = .func (.func f) #[] #[]) (hx:a.eval x=v)
 (hent:∀ args w,(callFunc f args).run P w = .ok (.enter f args) w) {R:Ending->World->Prop} (hcl:Calls P f #[v] w R) (h:∀ en w',R en w'->∃ u,en = .returned u/\K (a.put o.dst u) w'):o.wp P a w K Q:=by
 have h2:Calls P f #[v] w (fun
  | .returned u,w''=>K (a.put o.dst u) w''
  | .panicked chain,w''=>Q (.panic chain) a w''
  | .outgrown,_=>LetsOut Q):=hcl.mono fun en w' hr=>by
  obtain ⟨u,rfl,hk⟩:=h en w' hr;exact hk
 unfold Oper.wp execOp;simp only [ho];simp [resolve,invoke,hc,hx,hent,Sem.run_bind,Deferred.ofValue];exact h2
theorem qRb {P:Program} {o:Oper} {a:Act} {w:World} {K:Act->World->Prop} {Q:Exit->Act->World->Prop} {f:FuncId} {c x y:Operand} {ts:Array TypeId} {v u p q:Value} (ho:o.op = .call { callee:=.value c,args:=#[x,y],argTypes:=ts }) (hc:a.eval c = .func (.func f) #[] #[p,q]) (hx:a.eval x=v) (hy:a.eval y=u)
 (hent:∀ args w,(callFunc f args).run P w = .ok (.enter f args) w) {R:Ending->World->Prop} (hcl:Calls P f #[v,u,p,q] w R) (h:∀ en w',R en w'->∃ u,en = .returned u/\K (a.put o.dst u) w'):o.wp P a w K Q:=by
 have h2:Calls P f #[v,u,p,q] w (fun
  | .returned u,w''=>K (a.put o.dst u) w''
  | .panicked chain,w''=>Q (.panic chain) a w''
  | .outgrown,_=>LetsOut Q):=hcl.mono fun en w' hr=>by
  obtain ⟨u,rfl,hk⟩:=h en w' hr;exact hk
 unfold Oper.wp execOp;simp only [ho];simp [resolve,invoke,hc,hx,hy,hent,Sem.run_bind,Deferred.ofValue];exact h2
theorem zBi (w:World) (x:ByteArray):qFj (w.alloc (.cells #[.string x] 9)) (some ⟨w.heap.size,0,none⟩) 1 [x]:=by
 have h:qAp (w.alloc (.cells #[.string x] 9)) w.heap.size (.slice (some ⟨w.heap.size,0,none⟩) 1 1) [x]:=⟨rfl,.inr ⟨w.heap.size,1,#[.string x],rfl,Nat.le_refl _,Blk.new w _ _,Nat.le_refl _,by simp [maxLen],rfl,rfl⟩⟩;obtain ⟨A,c,hv,hs⟩:=h.at_
 cases hv
 exact hs
theorem qQa (w:World) (x y:ByteArray):qFj (w.alloc (.cells #[.string x,.string y] 9)) (some ⟨w.heap.size,0,none⟩) 2 [x,y]:=by
 have h:qAp (w.alloc (.cells #[.string x,.string y] 9)) w.heap.size (.slice (some ⟨w.heap.size,0,none⟩) 2 2) [x,y]:=⟨rfl,.inr ⟨w.heap.size,2,#[.string x,.string y],rfl,Nat.le_refl _,Blk.new w _ _,Nat.le_refl _,by simp [maxLen],rfl,rfl⟩⟩;obtain ⟨A,c,hv,hs⟩:=h.at_
 cases hv
 exact hs
def qCk:ByteArray:=⟨#[72,101,108,108,111]⟩
def cmdT:ByteArray:=⟨#[82,79,87,83,32,49,32,34,72,101,108,108,111,34]⟩
theorem zOe:qDd 1 [[runP qCk]]=0:=by kernel_rfl
theorem qVl:qJb qCk:=by unfold qJb;decide
theorem zKh:zJj qCk:=by unfold zJj;decide
theorem zGj:vld qCk=true:=by kernel_rfl
theorem qVm:∀ r∈[[runP qCk]],qDn r:=fun r hr=>by
 have hr':r=[runP qCk]:=List.mem_singleton.1 hr;subst hr';refine ⟨by decide,fun x hx=>?_⟩;have hx':x=runP qCk:=List.mem_singleton.1 hx;subst hx';exact ⟨by decide,by decide⟩
theorem zCg (A:Option Addr) (c:Nat) (w:World) (hE:Env w) (hl:qCb w A 1 [[runP qCk]]) (ht:TabX w):Calls Tryz.prog 75 #[.agg (edC 4 1 0 0 ⟨#[]⟩ ⟨#[]⟩ (.slice A 1 c))] w fun e w'=>e = .returned (.tuple #[.string cmdT,.int .i64 0])/\Ext w w':=by
 have HX1:=gH ((Ext.refl w).alloc (.cells (edC 4 1 0 0 ⟨#[]⟩ ⟨#[]⟩ (.slice A 1 c)) 48));have HB1:=gH (Blk.new w 48 (edC 4 1 0 0 ⟨#[]⟩ ⟨#[]⟩ (.slice A 1 c)));have HL:=gH hl;have HT:=gH ht;have HCk:=gH (fun w' (hx:Ext w w')=>qNo 1 A 1 c _ w' (hE.ext hx) (hl.ext hx) qVm (by omega));have HEv:=gH hE;have hck:=zOe;rw [hck] at HCk;unfold edC at *;clear hE hl ht hck;go_enter Tryz.func75,Tryz.ntmps75;go_wp2_with (refine qAa rfl 48 (.tmp 1) rfl w.heap.size 48 _ _ (by exact rfl) (by exact HB1.out) Tryz.underlying48 rfl (by exact qBq) ?_);refine (HCk.out _ HX1.out).mono ?_;rintro e w2 ⟨rfl,hx2⟩;have HX2:=gH (HX1.out.trans hx2);have HB2:=gH (HB1.out.ext hx2);clear hx2 HB1 HX1 HCk;go_wp2_with fail;have kop:=HB2.out.cell 0;simp only [gA,gB,gC] at kop;refine qBb [some 17,some 18,some 19,some 20,some 21,some 22,some 5,none] [[],[],[1],[2],[0,3],[4],[],[6,5,0,0,1,2,3,4,5,6]] [0,4,5,7] [6] [undef,.pointer (some ⟨w.heap.size,0,none⟩),.int .u8 4,.int .u8 3,undef,undef,undef,undef] (fun _=>.cells #[.string ⟨#[]⟩,.int .i64 0] 133) (FsJ 3 ⟨#[82,79,87,83]⟩ 2049 w2) (by kernel_rfl) (by kernel_rfl) (by kernel_rfl) (by kernel_rfl) (by kernel_rfl) (by kernel_rfl) (by kernel_rfl) (by decide) (by kernel_rfl) ?_ ?_ ?_ ?_ ?_ ?_
 . exact FsJ.start w2
 . intro i o ho ha a w' K' hk
   match i,ho with
   | 0,ho | 1,ho | 2,ho | 3,ho | 4,ho | 5,ho=>simp at ha
   | 6,ho =>
    simp only [gA,gB,gC,gD] at ho;subst ho;exact qDv rfl Tryz.zeroValue133 hk
   | 7,ho=>simp at ha
   | i+8,ho=>simp at ho
 . intro i ha us gs w' hJ hn hlim
   match i,ha with
   | 0,ha | 1,ha | 2,ha | 3,ha | 4,ha | 5,ha=>simp at ha
   | 6,ha=>exact hJ.alloc (by have:=hlim 3 7 rfl rfl;omega)
   | 7,ha=>simp at ha
   | i+8,ha=>simp at ha
 . intro i o ho hc ha a w' us gs K' hJ hF hlim hk
   match i,ho with
   | 0,ho=>simp at hc
   | 1,ho =>
    simp only [gA,gB,gC,gD] at ho;subst ho;have e1:=hF.old 1 (.pointer (some ⟨w.heap.size,0,none⟩)) rfl rfl;simp only [Act.eval] at e1;clear hF hlim hJ;go_simp;exact hk
   | 2,ho =>
    simp only [gA,gB,gC,gD] at ho;subst ho;have e18:=hF.pure 1 18 (.pointer (some ⟨w.heap.size,0,none⟩)) rfl rfl rfl rfl rfl;have hcl:=hJ.ext.cell (kop);simp only [Act.eval] at e18;clear hF hlim hJ;go_simp;exact hk
   | 3,ho =>
    simp only [gA,gB,gC,gD] at ho;subst ho;have e19:=hF.pure 2 19 (.int .u8 4) rfl rfl rfl rfl rfl;simp only [Act.eval] at e19;clear hF hlim hJ;go_simp;exact hk
   | 4,ho | 5,ho=>simp at hc
   | 6,ho=>simp at ha
   | 7,ho=>simp at hc
   | i+8,ho=>simp at ho
 . intro p c' o hp ho a w' us gs K' hl hJ hF hk
   match p,hp with
   | 0,hp =>
    (obtain rfl:0=c':=by simpa using hp);simp only [gA,gB,gC,gD] at ho;subst ho;obtain rfl:us=[]:=List.eq_nil_of_length_eq_zero hl;refine qLa rfl Tryz.call59 (qHw w') ?_;rintro en w4 ⟨f,rfl,hf,hB,hx⟩;exact ⟨_,rfl,hk _ _ (hJ.call hx hf hB)⟩
   | 1,hp =>
    (obtain rfl:4=c':=by simpa using hp);simp only [gA,gB,gC,gD] at ho;subst ho;obtain ⟨u0,rfl⟩:=qBv hl;obtain ⟨f,rfl,hBf,-⟩:=hJ.fs _ rfl;have e17:=hF.link 0 0 17 _ rfl rfl rfl rfl;have e20:=hF.pure 3 20 (.int .u8 3) rfl rfl rfl rfl rfl;have HK:=gH (hk _ _ hJ.idx);simp only [Nat.reduceMul] at HK;simp [Act.eval] at e17 e20;clear hk hF hJ;go_simp;exact HK.out
   | 2,hp =>
    (obtain rfl:5=c':=by simpa using hp);simp only [gA,gB,gC,gD] at ho;subst ho;obtain ⟨u0,u1,rfl⟩:=qCm hl;obtain ⟨f,rfl,hBf,h1,-⟩:=hJ.fs _ rfl;obtain rfl:=h1 _ rfl;have e21:=hF.link 1 4 21 _ rfl rfl rfl rfl;exact qWw rfl f 6 ⟨#[82,79,87,83]⟩ 2049 e21 (by have hcl:=hBf.cell 6;unfold qFn at hcl;simpa using hcl) (by have hcl:=hBf.cell 7;unfold qFn at hcl;simpa using hcl) (hk _ _ hJ.ld)
   | 3,hp =>
    (obtain rfl:7=c':=by simpa using hp);simp only [gA,gB,gC,gD] at ho;subst ho;obtain ⟨u0,u1,u2,rfl⟩:=qCn hl;obtain ⟨f,rfl,hBf,h1,h2,-⟩:=hJ.fs _ rfl;obtain rfl:=h1 _ rfl;obtain rfl:=h2 _ rfl;obtain ⟨g5,hg5,e5⟩:=hF.ptr 6 5 rfl rfl rfl rfl;have e22:=hF.link 2 5 22 _ rfl rfl rfl rfl;exact qCh 133 (.tmp 5) (.tmp 22) rfl g5 133 _ _ e5 e22 (by exact zIc) (by simp [Value.oneCell']) (hJ.blk hg5 (by simp)) rfl (hk undef _ (hJ.store hg5))
   | p+4,hp=>simp at hp
 intro us gs w4 hl hgs hJ;obtain ⟨u0,u1,u2,u3,rfl⟩:=qEm hl;obtain ⟨g6,hg6⟩:=Option.isSome_iff_exists.1 (hgs 6 rfl)
 first | (rename_i hK;refine hK _ _ ?_;clear hK) | (rename_i hK hK_1;refine hK _ _ ?_;clear hK) | (rename_i hK hK_1 hK_2;refine hK _ _ ?_;clear hK) | (rename_i hK hK_1 hK_2 hK_3;refine hK _ _ ?_;clear hK)
 generalize hL:qFy _ _ _ _ _ _=L;obtain rfl:L=[(17,u0),(18,.pointer (some ⟨w.heap.size,0,none⟩)),(19,.int .u8 4),(20,.int .u8 3),(21,u1),(22,u2),(5,.pointer ((gs 6).map fun g=>⟨g,0,none⟩))]:=hL.symm.trans (by kernel_rfl);rw [hg6];clear hL hl;simp only [Act.put,Option.map_some,List.foldl_cons,List.foldl_nil,List.setIfInBounds_toArray,List.set_cons_zero,List.set_cons_succ];have HG4:=gH (hJ.va g6 hg6).2;rw [if_neg (by simp)] at HG4;have HX4:=gH (HX2.out.trans hJ.ext);have HB4:=gH (HB2.out.ext hJ.ext);clear hJ hgs hg6 HX2 HB2 kop;(have hg:=fun o=>HG4.out.cell o);obtain ⟨W6,hW6⟩:∃ W6,W6=(w4.alloc (.cells #[.string ⟨#[82,79,87,83]⟩] 9)).alloc (.cells #[.slice (some ⟨w4.heap.size,0,none⟩) 1 1] 129):=⟨_,rfl⟩;have HX6:Hid (Ext w W6):=gH (by rw [hW6];exact (HX4.out.alloc _).alloc _);have HB6:=gH ((HB4.out.alloc (.cells #[.string ⟨#[82,79,87,83]⟩] 9)).alloc (.cells #[.slice (some ⟨w4.heap.size,0,none⟩) 1 1] 129));have HG6:=gH ((HG4.out.alloc (.cells #[.string ⟨#[82,79,87,83]⟩] 9)).alloc (.cells #[.slice (some ⟨w4.heap.size,0,none⟩) 1 1] 129));have HO6:Hid (Blk W6 (w4.heap.size+1) 129 #[.slice (some ⟨w4.heap.size,0,none⟩) 1 1]):=gH (by rw [hW6];exact Blk.new' (by simp))
 have HV6:Hid (qAp W6 w.heap.size (.slice (some ⟨w4.heap.size,0,none⟩) 1 1) [⟨#[82,79,87,83]⟩]):=gH ⟨rfl,.inr ⟨w4.heap.size,1,#[.string ⟨#[82,79,87,83]⟩],rfl,HX4.out.size,by rw [hW6];exact (Blk.new w4 _ _).alloc _,Nat.le_refl _,by simp [maxLen],rfl,rfl⟩⟩;(have hb:=fun o=>HB6.out.cell o);rw [← hW6] at HB6 HG6;have hs6:w.heap.size<=w4.heap.size:=HX4.out.size;have HT6:=gH (HT.out.ext HX6.out);clear HB4 HG4;go_wp2_with fail;rw [← hW6];clear hW6 hb hg HX4;have HGo:Hid (w.heap.size<=w4.heap.size+1):=gH (by omega);generalize w4.heap.size+1=go at *;clear hs6;refine (qFa 1 _ (by decide) (by decide) HT6.out).mono ?_;rintro e w7 ⟨rfl,hx7⟩;have HX7:=gH (HX6.out.trans hx7);have HB7:=gH (HB6.out.ext hx7);have HG7:=gH (HG6.out.ext hx7);have HO7:=gH (HO6.out.ext hx7);have HV7:Hid (qAp _ w.heap.size _ _):=gH (qAh HV6.out hx7);have HT7:=gH (HT6.out.ext hx7);clear hx7 HX6 HB6 HG6 HO6 HV6 HT6;(have hb:=fun o=>HB7.out.cell o);(have hg:=fun o=>HG7.out.cell o);(have ho:=fun o=>HO7.out.cell o);have hs:=HX7.out.size;go_wp2_with fail;clear hb hg ho hs;have hxa:=(Ext.refl w7).alloc (.cells #[.string (decS 1)] 9);have HX8:=gH (HX7.out.trans hxa);have HB8:=gH (HB7.out.ext hxa);have HG8:=gH (HG7.out.ext hxa);have HO8:=gH (HO7.out.ext hxa);have HV8:Hid (qAp _ w.heap.size _ _):=gH (qAh HV7.out hxa);have HT8:=gH (HT7.out.ext hxa);clear hxa HX7 HB7 HG7 HO7 HV7 HT7
 refine (qYa _ _ _ _ _ w.heap.size _ _ [decS 1] _ _ w HG8.out HO8.out HV8.out (zBi _ _) HX8.out (Nat.le_refl _) HX8.out.size HGo.out (by decide)).mono ?_;rintro e w9 ⟨rfl,v',ho',hv',hx',hsz',hkb'⟩;obtain ⟨A9,c9,rfl,-⟩:=hv'.at_;have HX9:=gH hx';have HB9:=gH (HB8.out.kb (hkb' _ (by decide) (by decide)));have HG9:=gH (HG8.out.kb (hkb' _ (by decide) (by decide)));have HO9:=gH ho';have HV9:=gH hv';have HT9:=gH (HT.out.ext hx');clear ho' hv' hx' hsz' hkb' HX8 HB8 HG8 HO8 HV8 HT8;(have hb:=fun o=>HB9.out.cell o);(have hg:=fun o=>HG9.out.cell o);(have ho:=fun o=>HO9.out.cell o);have hs:=HX9.out.size;go_wp2_with fail;clear hb hg ho hs
 have hST:QSt [fun u _=>u = .string (decS 0),fun u _=>u = .string (decS 0),fun u w=>∃ g,u = .slice (some ⟨g,0,none⟩) 2 2/\qFj w (some ⟨g,0,none⟩) 2 [decS 0,decS 0],fun u _=>u = .tuple #[]]:=by
  intro p hp u wa wb hx h;simp only [List.mem_cons,List.not_mem_nil,or_false] at hp
  rcases hp with rfl | rfl | rfl | rfl
  . exact h
  . exact h
  . obtain ⟨g,h1,h2⟩:=h;exact ⟨g,h1,Sl.ext (Cells.stays _) h2 hx⟩
  . exact h
 refine qAr [some 34,some 35,some 36,some 37,some 38,some 39,some 40,some 41,some 42,some 43,some 44,some 45,some 46] [[],[],[],[2],[3],[1,4],[],[],[7],[8],[6,9,5],[5,10],[0,11,10]] [5,10,11,12] [.func (.func 162) #[] #[.pointer (some ⟨g6,0,none⟩),.pointer (some ⟨go,0,none⟩)],.func (.func 89) #[] #[],.pointer (some ⟨w.heap.size,3,none⟩),.pointer (some ⟨w.heap.size,3,none⟩),.int .i64 0,undef,.func (.func 89) #[] #[],.pointer (some ⟨w.heap.size,3,none⟩),.pointer (some ⟨w.heap.size,4,none⟩),.int .i64 0,undef,undef,undef] (QJ [fun u _=>u = .string (decS 0),fun u _=>u = .string (decS 0),fun u w=>∃ g,u = .slice (some ⟨g,0,none⟩) 2 2/\qFj w (some ⟨g,0,none⟩) 2 [decS 0,decS 0],fun u _=>u = .tuple #[]] w9) (by kernel_rfl) (by kernel_rfl) (by kernel_rfl) (by kernel_rfl) (by kernel_rfl) (by kernel_rfl) (by kernel_rfl) (by decide) ?_ ?_ ?_ ?_
 . exact QJ.start _ w9
 . intro i o ho hc a w' us K' hJ hF hlim hk
   match i,ho with
   | 0,ho =>
    simp only [gA,gB,gC,gD] at ho;subst ho;have e7:=hF.old 7 (.func (.func 162) #[] #[.pointer (some ⟨g6,0,none⟩),.pointer (some ⟨go,0,none⟩)]) rfl rfl;simp only [Act.eval] at e7;clear hF hlim hJ;go_simp;exact hk
   | 1,ho =>
    simp only [gA,gB,gC,gD] at ho;subst ho;have e8:=hF.old 8 (.func (.func 89) #[] #[]) rfl rfl;simp only [Act.eval] at e8;clear hF hlim hJ;go_simp;exact hk
   | 2,ho =>
    simp only [gA,gB,gC,gD] at ho;subst ho;have e1:=hF.old 1 (.pointer (some ⟨w.heap.size,0,none⟩)) rfl rfl;simp only [Act.eval] at e1;clear hF hlim hJ;go_simp;exact hk
   | 3,ho =>
    simp only [gA,gB,gC,gD] at ho;subst ho;have e36:=hF.pure 2 36 (.pointer (some ⟨w.heap.size,3,none⟩)) rfl rfl rfl rfl;simp only [Act.eval] at e36;clear hF hlim hJ;go_simp;exact hk
   | 4,ho =>
    simp only [gA,gB,gC,gD] at ho;subst ho;have e37:=hF.pure 3 37 (.pointer (some ⟨w.heap.size,3,none⟩)) rfl rfl rfl rfl;have hcl:=(HB9.out.ext hJ.ext).cell 3;simp only [gA,gB,gC] at hcl;simp only [Act.eval] at e37;clear hF hlim hJ;go_simp;exact hk
   | 5,ho=>simp at hc
   | 6,ho =>
    simp only [gA,gB,gC,gD] at ho;subst ho;have e8:=hF.old 8 (.func (.func 89) #[] #[]) rfl rfl;simp only [Act.eval] at e8;clear hF hlim hJ;go_simp;exact hk
   | 7,ho =>
    simp only [gA,gB,gC,gD] at ho;subst ho;have e1:=hF.old 1 (.pointer (some ⟨w.heap.size,0,none⟩)) rfl rfl;simp only [Act.eval] at e1;clear hF hlim hJ;go_simp;exact hk
   | 8,ho =>
    simp only [gA,gB,gC,gD] at ho;subst ho;have e41:=hF.pure 7 41 (.pointer (some ⟨w.heap.size,3,none⟩)) rfl rfl rfl rfl;simp only [Act.eval] at e41;clear hF hlim hJ;go_simp;exact hk
   | 9,ho =>
    simp only [gA,gB,gC,gD] at ho;subst ho;have e42:=hF.pure 8 42 (.pointer (some ⟨w.heap.size,4,none⟩)) rfl rfl rfl rfl;have hcl:=(HB9.out.ext hJ.ext).cell 4;simp only [gA,gB,gC] at hcl;simp only [Act.eval] at e42;clear hF hlim hJ;go_simp;exact hk
   | 10,ho | 11,ho | 12,ho=>simp at hc
   | i+13,ho=>simp at ho
 . intro p c' o hp ho a w' us K' hl hJ hF hk
   match p,hp with
   | 0,hp =>
    (obtain rfl:5=c':=by simpa using hp);simp only [gA,gB,gC,gD] at ho;subst ho;obtain rfl:us=[]:=List.eq_nil_of_length_eq_zero hl;have e35:=hF.pure 1 35 (.func (.func 89) #[] #[]) rfl rfl rfl rfl;have e38:=hF.pure 4 38 (.int .i64 0) rfl rfl rfl rfl;refine qLb rfl e35 e38 Tryz.call89 (qFa 0 w' (by decide) (by decide) (HT9.out.ext hJ.ext)) ?_;rintro en w5 ⟨rfl,hx5⟩;exact ⟨_,rfl,hk _ w5 (hJ.push hST hx5 (fun p hp=>by cases hp;rfl))⟩
   | 1,hp =>
    (obtain rfl:10=c':=by simpa using hp);simp only [gA,gB,gC,gD] at ho;subst ho;obtain ⟨u0,rfl⟩:=qBv hl;have e40:=hF.pure 6 40 (.func (.func 89) #[] #[]) rfl rfl rfl rfl;have e43:=hF.pure 9 43 (.int .i64 0) rfl rfl rfl rfl;refine qLb rfl e40 e43 Tryz.call89 (qFa 0 w' (by decide) (by decide) (HT9.out.ext hJ.ext)) ?_;rintro en w5 ⟨rfl,hx5⟩;exact ⟨_,rfl,hk _ w5 (hJ.push hST hx5 (fun p hp=>by cases hp;rfl))⟩
   | 2,hp =>
    (obtain rfl:11=c':=by simpa using hp);simp only [gA,gB,gC,gD] at ho;subst ho;obtain ⟨u0,u1,rfl⟩:=qCm hl;have e39:=hF.link 0 5 39 _ rfl rfl rfl rfl;have e44:=hF.link 1 10 44 _ rfl rfl rfl rfl;obtain rfl:u0 = .string (decS 0):=hJ.val 0 u0 _ rfl rfl;obtain rfl:u1 = .string (decS 0):=hJ.val 1 u1 _ rfl rfl;have HK:=gH (hk (.slice (some ⟨w'.heap.size,0,none⟩) 2 2) _ (hJ.push hST ((Ext.refl w').alloc (.cells #[.string (decS 0),.string (decS 0)] 9)) (fun p hp=>by cases hp;exact ⟨_,rfl,qQa _ _ _⟩)));simp [Act.eval] at e39 e44;clear hk hF hJ;go_simp;exact HK.out
   | 3,hp =>
    (obtain rfl:12=c':=by simpa using hp);simp only [gA,gB,gC,gD] at ho;subst ho;obtain ⟨u0,u1,u2,rfl⟩:=qCn hl;have e34:=hF.pure 0 34 (.func (.func 162) #[] #[.pointer (some ⟨g6,0,none⟩),.pointer (some ⟨go,0,none⟩)]) rfl rfl rfl rfl;have e45:=hF.link 2 11 45 _ rfl rfl rfl rfl;obtain ⟨gq,rfl,hsq⟩:∃ g,u2 = .slice (some ⟨g,0,none⟩) 2 2/\qFj w' (some ⟨g,0,none⟩) 2 [decS 0,decS 0]:=hJ.val 2 u2 _ rfl rfl;refine qRb rfl e34 rfl e45 Tryz.call162 (qVh _ _ _ _ _ _ w' (HG9.out.ext hJ.ext)) ?_;rintro en w5 ⟨rfl,hx5⟩;exact ⟨_,rfl,hk _ w5 (hJ.push hST hx5 (fun p hp=>by cases hp;rfl))⟩
   | p+4,hp=>simp at hp
 intro us w10 hl hJ;obtain ⟨u0,u1,u2,u3,rfl⟩:=qEm hl
 first | (rename_i hK;refine hK _ _ ?_;clear hK) | (rename_i hK hK_1;refine hK _ _ ?_;clear hK) | (rename_i hK hK_1 hK_2;refine hK _ _ ?_;clear hK) | (rename_i hK hK_1 hK_2 hK_3;refine hK _ _ ?_;clear hK)
 generalize hL:qCd _ _ _ _=L;obtain rfl:L=[(34,.func (.func 162) #[] #[.pointer (some ⟨g6,0,none⟩),.pointer (some ⟨go,0,none⟩)]),(35,.func (.func 89) #[] #[]),(36,.pointer (some ⟨w.heap.size,3,none⟩)),(37,.pointer (some ⟨w.heap.size,3,none⟩)),(38,.int .i64 0),(39,u0),(40,.func (.func 89) #[] #[]),(41,.pointer (some ⟨w.heap.size,3,none⟩)),(42,.pointer (some ⟨w.heap.size,4,none⟩)),(43,.int .i64 0),(44,u1),(45,u2),(46,u3)]:=hL.symm.trans (by kernel_rfl);clear hL hl;simp only [Act.put,List.foldl_cons,List.foldl_nil,List.setIfInBounds_toArray,List.set_cons_zero,List.set_cons_succ];obtain rfl:u0 = .string (decS 0):=hJ.val 0 u0 _ rfl rfl;obtain rfl:u1 = .string (decS 0):=hJ.val 1 u1 _ rfl rfl;obtain ⟨gq,rfl,-⟩:∃ g,u2 = .slice (some ⟨g,0,none⟩) 2 2/\qFj w10 (some ⟨g,0,none⟩) 2 [decS 0,decS 0]:=hJ.val 2 u2 _ rfl rfl;obtain rfl:u3 = .tuple #[]:=hJ.val 3 u3 _ rfl rfl;have hxq:=hJ.ext;clear hJ hST;have HX10:=gH (HX9.out.trans hxq);have HB10:=gH (HB9.out.ext hxq);have HG10:=gH (HG9.out.ext hxq);have HO10:=gH (HO9.out.ext hxq);have HV10:Hid (qAp _ w.heap.size _ _):=gH (qAh HV9.out hxq);have HT10:=gH (HT9.out.ext hxq);clear hxq HX9 HB9 HG9 HO9 HV9 HT9;(have hb:=fun o=>HB10.out.cell o);(have hg:=fun o=>HG10.out.cell o);(have ho:=fun o=>HO10.out.cell o);have hs:=HX10.out.size;go_wp2_with fail;clear hb hg ho hs;refine (qFa 0 _ (by decide) (by decide) HT10.out).mono ?_;rintro e w11 ⟨rfl,hx11⟩
 have HX11:=gH (HX10.out.trans hx11);have HB11:=gH (HB10.out.ext hx11);have HG11:=gH (HG10.out.ext hx11);have HO11:=gH (HO10.out.ext hx11);have HV11:Hid (qAp _ w.heap.size _ _):=gH (qAh HV10.out hx11);have HT11:=gH (HT10.out.ext hx11);clear hx11 HX10 HB10 HG10 HO10 HV10 HT10;(have hb:=fun o=>HB11.out.cell o);(have hg:=fun o=>HG11.out.cell o);(have ho:=fun o=>HO11.out.cell o);have hs:=HX11.out.size;go_wp2_with fail;clear hb hg ho hs;have hxa:=(Ext.refl w11).alloc (.cells #[.string (decS 0)] 9);have HX12:=gH (HX11.out.trans hxa);have HB12:=gH (HB11.out.ext hxa);have HG12:=gH (HG11.out.ext hxa);have HO12:=gH (HO11.out.ext hxa);have HV12:Hid (qAp _ w.heap.size _ _):=gH (qAh HV11.out hxa);have HT12:=gH (HT11.out.ext hxa);clear hxa HX11 HB11 HG11 HO11 HV11 HT11;refine (qVi _ _ _ _ _ _ _ HG12.out).mono ?_;rintro e w13 ⟨rfl,hx13⟩;have HX13:=gH (HX12.out.trans hx13);have HB13:=gH (HB12.out.ext hx13);have HG13:=gH (HG12.out.ext hx13);have HO13:=gH (HO12.out.ext hx13);have HV13:Hid (qAp _ w.heap.size _ _):=gH (qAh HV12.out hx13);have HT13:=gH (HT12.out.ext hx13);clear hx13 HX12 HB12 HG12 HO12 HV12 HT12;(have hb:=fun o=>HB13.out.cell o);(have hg:=fun o=>HG13.out.cell o);(have ho:=fun o=>HO13.out.cell o);have hs:=HX13.out.size;go_wp2_with fail;clear hb hg ho hs;refine (qFa 0 _ (by decide) (by decide) HT13.out).mono ?_;rintro e w14 ⟨rfl,hx14⟩;have HX14:=gH (HX13.out.trans hx14);have HB14:=gH (HB13.out.ext hx14)
 have HG14:=gH (HG13.out.ext hx14);have HO14:=gH (HO13.out.ext hx14);have HV14:Hid (qAp _ w.heap.size _ _):=gH (qAh HV13.out hx14);have HT14:=gH (HT13.out.ext hx14);clear hx14 HX13 HB13 HG13 HO13 HV13 HT13;(have hb:=fun o=>HB14.out.cell o);(have hg:=fun o=>HG14.out.cell o);(have ho:=fun o=>HO14.out.cell o);have hs:=HX14.out.size;go_wp2_with fail;clear hb hg ho hs;have hxa:=(Ext.refl w14).alloc (.cells #[.string (decS 0)] 9);have HX15:=gH (HX14.out.trans hxa);have HB15:=gH (HB14.out.ext hxa);have HG15:=gH (HG14.out.ext hxa);have HO15:=gH (HO14.out.ext hxa);have HV15:Hid (qAp _ w.heap.size _ _):=gH (qAh HV14.out hxa);have HT15:=gH (HT14.out.ext hxa);clear hxa HX14 HB14 HG14 HO14 HV14 HT14;refine (qVg _ _ _ _ _ _ _ HG15.out).mono ?_;rintro e w16 ⟨rfl,hx16⟩;have HX16:=gH (HX15.out.trans hx16);have HB16:=gH (HB15.out.ext hx16);have HG16:=gH (HG15.out.ext hx16);have HO16:=gH (HO15.out.ext hx16);have HV16:Hid (qAp _ w.heap.size _ _):=gH (qAh HV15.out hx16);have HT16:=gH (HT15.out.ext hx16);clear hx16 HX15 HB15 HG15 HO15 HV15 HT15;(have hb:=fun o=>HB16.out.cell o);(have hg:=fun o=>HG16.out.cell o);(have ho:=fun o=>HO16.out.cell o);have hs:=HX16.out.size;go_wp2_with fail;clear hb hg ho hs;refine (qFa 0 _ (by decide) (by decide) HT16.out).mono ?_;rintro e w17 ⟨rfl,hx17⟩;have HX17:=gH (HX16.out.trans hx17);have HB17:=gH (HB16.out.ext hx17);have HG17:=gH (HG16.out.ext hx17);have HO17:=gH (HO16.out.ext hx17)
 have HV17:Hid (qAp _ w.heap.size _ _):=gH (qAh HV16.out hx17);have HT17:=gH (HT16.out.ext hx17);clear hx17 HX16 HB16 HG16 HO16 HV16 HT16;(have hb:=fun o=>HB17.out.cell o);(have hg:=fun o=>HG17.out.cell o);(have ho:=fun o=>HO17.out.cell o);have hs:=HX17.out.size;go_wp2_with fail;clear hb hg ho hs;have hxa:=(Ext.refl w17).alloc (.cells #[.string (decS 0)] 9);have HX18:=gH (HX17.out.trans hxa);have HB18:=gH (HB17.out.ext hxa);have HG18:=gH (HG17.out.ext hxa);have HO18:=gH (HO17.out.ext hxa);have HV18:Hid (qAp _ w.heap.size _ _):=gH (qAh HV17.out hxa);have HT18:=gH (HT17.out.ext hxa);clear hxa HX17 HB17 HG17 HO17 HV17 HT17;refine (qSi _ _ _ _ _ _ _ HG18.out).mono ?_;rintro e w19 ⟨rfl,hx19⟩;have HX19:=gH (HX18.out.trans hx19);have HB19:=gH (HB18.out.ext hx19);have HG19:=gH (HG18.out.ext hx19);have HO19:=gH (HO18.out.ext hx19);have HV19:Hid (qAp _ w.heap.size _ _):=gH (qAh HV18.out hx19);have HT19:=gH (HT18.out.ext hx19);clear hx19 HX18 HB18 HG18 HO18 HV18 HT18;(have hb:=fun o=>HB19.out.cell o);(have hg:=fun o=>HG19.out.cell o);(have ho:=fun o=>HO19.out.cell o);have hs:=HX19.out.size;go_wp2_with fail;clear hb hg ho hs
 have hST:QSt [fun u _=>u = .string (decS 0),fun u _=>u = .string (decS 0),fun u w=>∃ g,u = .slice (some ⟨g,0,none⟩) 2 2/\qFj w (some ⟨g,0,none⟩) 2 [decS 0,decS 0],fun u _=>u = .tuple #[]]:=by
  intro p hp u wa wb hx h;simp only [List.mem_cons,List.not_mem_nil,or_false] at hp
  rcases hp with rfl | rfl | rfl | rfl
  . exact h
  . exact h
  . obtain ⟨g,h1,h2⟩:=h;exact ⟨g,h1,Sl.ext (Cells.stays _) h2 hx⟩
  . exact h
 refine qAr [some 68,some 69,some 70,some 71,some 72,some 73,some 74,some 75,some 76,some 77,some 78] [[],[],[],[2],[1,3],[],[],[6],[5,7,4],[4,8],[0,9,8]] [4,8,9,10] [.func (.func 162) #[] #[.pointer (some ⟨g6,0,none⟩),.pointer (some ⟨go,0,none⟩)],.func (.func 89) #[] #[],.pointer (some ⟨w.heap.size,7,none⟩),.int .i64 0,undef,.func (.func 89) #[] #[],.pointer (some ⟨w.heap.size,8,none⟩),.int .i64 0,undef,undef,undef] (QJ [fun u _=>u = .string (decS 0),fun u _=>u = .string (decS 0),fun u w=>∃ g,u = .slice (some ⟨g,0,none⟩) 2 2/\qFj w (some ⟨g,0,none⟩) 2 [decS 0,decS 0],fun u _=>u = .tuple #[]] w19) (by kernel_rfl) (by kernel_rfl) (by kernel_rfl) (by kernel_rfl) (by kernel_rfl) (by kernel_rfl) (by kernel_rfl) (by decide) ?_ ?_ ?_ ?_
 . exact QJ.start _ w19
 . intro i o ho hc a w' us K' hJ hF hlim hk
   match i,ho with
   | 0,ho =>
    simp only [gA,gB,gC,gD] at ho;subst ho;have e7:=hF.old 7 (.func (.func 162) #[] #[.pointer (some ⟨g6,0,none⟩),.pointer (some ⟨go,0,none⟩)]) rfl rfl;simp only [Act.eval] at e7;clear hF hlim hJ;go_simp;exact hk
   | 1,ho =>
    simp only [gA,gB,gC,gD] at ho;subst ho;have e8:=hF.old 8 (.func (.func 89) #[] #[]) rfl rfl;simp only [Act.eval] at e8;clear hF hlim hJ;go_simp;exact hk
   | 2,ho =>
    simp only [gA,gB,gC,gD] at ho;subst ho;have e1:=hF.old 1 (.pointer (some ⟨w.heap.size,0,none⟩)) rfl rfl;simp only [Act.eval] at e1;clear hF hlim hJ;go_simp;exact hk
   | 3,ho =>
    simp only [gA,gB,gC,gD] at ho;subst ho;have e70:=hF.pure 2 70 (.pointer (some ⟨w.heap.size,7,none⟩)) rfl rfl rfl rfl;have hcl:=(HB19.out.ext hJ.ext).cell 7;simp only [gA,gB,gC] at hcl;simp only [Act.eval] at e70;clear hF hlim hJ;go_simp;exact hk
   | 4,ho=>simp at hc
   | 5,ho =>
    simp only [gA,gB,gC,gD] at ho;subst ho;have e8:=hF.old 8 (.func (.func 89) #[] #[]) rfl rfl;simp only [Act.eval] at e8;clear hF hlim hJ;go_simp;exact hk
   | 6,ho =>
    simp only [gA,gB,gC,gD] at ho;subst ho;have e1:=hF.old 1 (.pointer (some ⟨w.heap.size,0,none⟩)) rfl rfl;simp only [Act.eval] at e1;clear hF hlim hJ;go_simp;exact hk
   | 7,ho =>
    simp only [gA,gB,gC,gD] at ho;subst ho;have e74:=hF.pure 6 74 (.pointer (some ⟨w.heap.size,8,none⟩)) rfl rfl rfl rfl;have hcl:=(HB19.out.ext hJ.ext).cell 8;simp only [gA,gB,gC] at hcl;simp only [Act.eval] at e74;clear hF hlim hJ;go_simp;exact hk
   | 8,ho | 9,ho | 10,ho=>simp at hc
   | i+11,ho=>simp at ho
 . intro p c' o hp ho a w' us K' hl hJ hF hk
   match p,hp with
   | 0,hp =>
    (obtain rfl:4=c':=by simpa using hp);simp only [gA,gB,gC,gD] at ho;subst ho;obtain rfl:us=[]:=List.eq_nil_of_length_eq_zero hl;have e69:=hF.pure 1 69 (.func (.func 89) #[] #[]) rfl rfl rfl rfl;have e71:=hF.pure 3 71 (.int .i64 0) rfl rfl rfl rfl;refine qLb rfl e69 e71 Tryz.call89 (qFa 0 w' (by decide) (by decide) (HT19.out.ext hJ.ext)) ?_;rintro en w5 ⟨rfl,hx5⟩;exact ⟨_,rfl,hk _ w5 (hJ.push hST hx5 (fun p hp=>by cases hp;rfl))⟩
   | 1,hp =>
    (obtain rfl:8=c':=by simpa using hp);simp only [gA,gB,gC,gD] at ho;subst ho;obtain ⟨u0,rfl⟩:=qBv hl;have e73:=hF.pure 5 73 (.func (.func 89) #[] #[]) rfl rfl rfl rfl;have e75:=hF.pure 7 75 (.int .i64 0) rfl rfl rfl rfl;refine qLb rfl e73 e75 Tryz.call89 (qFa 0 w' (by decide) (by decide) (HT19.out.ext hJ.ext)) ?_;rintro en w5 ⟨rfl,hx5⟩;exact ⟨_,rfl,hk _ w5 (hJ.push hST hx5 (fun p hp=>by cases hp;rfl))⟩
   | 2,hp =>
    (obtain rfl:9=c':=by simpa using hp);simp only [gA,gB,gC,gD] at ho;subst ho;obtain ⟨u0,u1,rfl⟩:=qCm hl;have e72:=hF.link 0 4 72 _ rfl rfl rfl rfl;have e76:=hF.link 1 8 76 _ rfl rfl rfl rfl;obtain rfl:u0 = .string (decS 0):=hJ.val 0 u0 _ rfl rfl;obtain rfl:u1 = .string (decS 0):=hJ.val 1 u1 _ rfl rfl;have HK:=gH (hk (.slice (some ⟨w'.heap.size,0,none⟩) 2 2) _ (hJ.push hST ((Ext.refl w').alloc (.cells #[.string (decS 0),.string (decS 0)] 9)) (fun p hp=>by cases hp;exact ⟨_,rfl,qQa _ _ _⟩)));simp [Act.eval] at e72 e76;clear hk hF hJ;go_simp;exact HK.out
   | 3,hp =>
    (obtain rfl:10=c':=by simpa using hp);simp only [gA,gB,gC,gD] at ho;subst ho;obtain ⟨u0,u1,u2,rfl⟩:=qCn hl;have e68:=hF.pure 0 68 (.func (.func 162) #[] #[.pointer (some ⟨g6,0,none⟩),.pointer (some ⟨go,0,none⟩)]) rfl rfl rfl rfl;have e77:=hF.link 2 9 77 _ rfl rfl rfl rfl;obtain ⟨gq,rfl,hsq⟩:∃ g,u2 = .slice (some ⟨g,0,none⟩) 2 2/\qFj w' (some ⟨g,0,none⟩) 2 [decS 0,decS 0]:=hJ.val 2 u2 _ rfl rfl;refine qRb rfl e68 rfl e77 Tryz.call162 (qSj _ _ _ _ _ _ w' (HG19.out.ext hJ.ext)) ?_;rintro en w5 ⟨rfl,hx5⟩;exact ⟨_,rfl,hk _ w5 (hJ.push hST hx5 (fun p hp=>by cases hp;rfl))⟩
   | p+4,hp=>simp at hp
 intro us w20 hl hJ;obtain ⟨u0,u1,u2,u3,rfl⟩:=qEm hl
 first | (rename_i hK;refine hK _ _ ?_;clear hK) | (rename_i hK hK_1;refine hK _ _ ?_;clear hK) | (rename_i hK hK_1 hK_2;refine hK _ _ ?_;clear hK) | (rename_i hK hK_1 hK_2 hK_3;refine hK _ _ ?_;clear hK)
 generalize hL:qCd _ _ _ _=L;obtain rfl:L=[(68,.func (.func 162) #[] #[.pointer (some ⟨g6,0,none⟩),.pointer (some ⟨go,0,none⟩)]),(69,.func (.func 89) #[] #[]),(70,.pointer (some ⟨w.heap.size,7,none⟩)),(71,.int .i64 0),(72,u0),(73,.func (.func 89) #[] #[]),(74,.pointer (some ⟨w.heap.size,8,none⟩)),(75,.int .i64 0),(76,u1),(77,u2),(78,u3)]:=hL.symm.trans (by kernel_rfl);clear hL hl;simp only [Act.put,List.foldl_cons,List.foldl_nil,List.setIfInBounds_toArray,List.set_cons_zero,List.set_cons_succ];obtain rfl:u0 = .string (decS 0):=hJ.val 0 u0 _ rfl rfl;obtain rfl:u1 = .string (decS 0):=hJ.val 1 u1 _ rfl rfl;obtain ⟨gq,rfl,-⟩:∃ g,u2 = .slice (some ⟨g,0,none⟩) 2 2/\qFj w20 (some ⟨g,0,none⟩) 2 [decS 0,decS 0]:=hJ.val 2 u2 _ rfl rfl;obtain rfl:u3 = .tuple #[]:=hJ.val 3 u3 _ rfl rfl;have hxq:=hJ.ext;clear hJ hST;have HX20:=gH (HX19.out.trans hxq);have HB20:=gH (HB19.out.ext hxq);have HG20:=gH (HG19.out.ext hxq);have HO20:=gH (HO19.out.ext hxq);have HV20:Hid (qAp _ w.heap.size _ _):=gH (qAh HV19.out hxq);have HT20:=gH (HT19.out.ext hxq);clear hxq HX19 HB19 HG19 HO19 HV19 HT19;(have hb:=fun o=>HB20.out.cell o);(have hg:=fun o=>HG20.out.cell o);(have ho:=fun o=>HO20.out.cell o);have hs:=HX20.out.size;go_wp2_with fail;clear hb hg ho hs;refine (qPr _).mono ?_;rintro e w21 ⟨rfl,hx21⟩;have HX21:=gH (HX20.out.trans hx21);have HB21:=gH (HB20.out.ext hx21);have HG21:=gH (HG20.out.ext hx21)
 have HO21:=gH (HO20.out.ext hx21);have HV21:Hid (qAp _ w.heap.size _ _):=gH (qAh HV20.out hx21);have HT21:=gH (HT20.out.ext hx21);clear hx21 HX20 HB20 HG20 HO20 HV20 HT20;(have hb:=fun o=>HB21.out.cell o);(have hg:=fun o=>HG21.out.cell o);(have ho:=fun o=>HO21.out.cell o);have hs:=HX21.out.size;go_wp2_with fail;clear hb hg ho hs;have hxa:=(Ext.refl w21).alloc (.cells #[.string ⟨#[45]⟩] 9);have HX22:=gH (HX21.out.trans hxa);have HB22:=gH (HB21.out.ext hxa);have HG22:=gH (HG21.out.ext hxa);have HO22:=gH (HO21.out.ext hxa);have HV22:Hid (qAp _ w.heap.size _ _):=gH (qAh HV21.out hxa);have HT22:=gH (HT21.out.ext hxa);clear hxa HX21 HB21 HG21 HO21 HV21 HT21;refine (qPl _ _ _ _ _ _ _ HG22.out).mono ?_;rintro e w23 ⟨rfl,hx23⟩;have HX23:=gH (HX22.out.trans hx23);have HB23:=gH (HB22.out.ext hx23);have HG23:=gH (HG22.out.ext hx23);have HO23:=gH (HO22.out.ext hx23);have HV23:Hid (qAp _ w.heap.size _ _):=gH (qAh HV22.out hx23);have HT23:=gH (HT22.out.ext hx23);clear hx23 HX22 HB22 HG22 HO22 HV22 HT22;(have hb:=fun o=>HB23.out.cell o);(have hg:=fun o=>HG23.out.cell o);(have ho:=fun o=>HO23.out.cell o);have hs:=HX23.out.size;go_wp2_with fail;clear hb hg ho hs;refine (qQh _).mono ?_;rintro e w24 ⟨rfl,rfl⟩;(have hb:=fun o=>HB23.out.cell o);(have hg:=fun o=>HG23.out.cell o);(have ho:=fun o=>HO23.out.cell o);have hs:=HX23.out.size;go_wp2_with fail;clear hb hg ho hs
 have hxa:=(Ext.refl w23).alloc (.cells #[.string ⟨#[45]⟩] 9);have HX24:=gH (HX23.out.trans hxa);have HB24:=gH (HB23.out.ext hxa);have HG24:=gH (HG23.out.ext hxa);have HO24:=gH (HO23.out.ext hxa);have HV24:Hid (qAp _ w.heap.size _ _):=gH (qAh HV23.out hxa);have HT24:=gH (HT23.out.ext hxa);clear hxa HX23 HB23 HG23 HO23 HV23 HT23;refine (qPm _ _ _ _ _ _ _ HG24.out).mono ?_;rintro e w25 ⟨rfl,hx25⟩;have HX25:=gH (HX24.out.trans hx25);have HB25:=gH (HB24.out.ext hx25);have HG25:=gH (HG24.out.ext hx25);have HO25:=gH (HO24.out.ext hx25);have HV25:Hid (qAp _ w.heap.size _ _):=gH (qAh HV24.out hx25);have HT25:=gH (HT24.out.ext hx25);clear hx25 HX24 HB24 HG24 HO24 HV24 HT24;(have hb:=fun o=>HB25.out.cell o);(have hg:=fun o=>HG25.out.cell o);(have ho:=fun o=>HO25.out.cell o);have hs:=HX25.out.size;go_wp2_with fail;clear hb hg ho hs;refine (qLs 0 _).mono ?_;rintro e w26 ⟨s26,rfl,-,hx26⟩;have HX26:=gH (HX25.out.trans hx26);have HB26:=gH (HB25.out.ext hx26);have HG26:=gH (HG25.out.ext hx26);have HO26:=gH (HO25.out.ext hx26);have HV26:Hid (qAp _ w.heap.size _ _):=gH (qAh HV25.out hx26);have HT26:=gH (HT25.out.ext hx26);clear hx26 HX25 HB25 HG25 HO25 HV25 HT25;(have hb:=fun o=>HB26.out.cell o);(have hg:=fun o=>HG26.out.cell o);(have ho:=fun o=>HO26.out.cell o);have hs:=HX26.out.size;go_wp2_with fail;clear hb hg ho hs;have hxa:=(Ext.refl w26).alloc (.cells #[.string s26] 9);have HX27:=gH (HX26.out.trans hxa)
 have HB27:=gH (HB26.out.ext hxa);have HG27:=gH (HG26.out.ext hxa);have HO27:=gH (HO26.out.ext hxa);have HV27:Hid (qAp _ w.heap.size _ _):=gH (qAh HV26.out hxa);have HT27:=gH (HT26.out.ext hxa);clear hxa HX26 HB26 HG26 HO26 HV26 HT26;refine (qSk _ _ _ _ _ _ _ HG27.out).mono ?_;rintro e w28 ⟨rfl,hx28⟩;have HX28:=gH (HX27.out.trans hx28);have HB28:=gH (HB27.out.ext hx28);have HG28:=gH (HG27.out.ext hx28);have HO28:=gH (HO27.out.ext hx28);have HV28:Hid (qAp _ w.heap.size _ _):=gH (qAh HV27.out hx28);have HT28:=gH (HT27.out.ext hx28);clear hx28 HX27 HB27 HG27 HO27 HV27 HT27;(have hb:=fun o=>HB28.out.cell o);(have hg:=fun o=>HG28.out.cell o);(have ho:=fun o=>HO28.out.cell o);have hs:=HX28.out.size;go_wp2_with fail;clear hb hg ho hs;refine (zAm ⟨#[]⟩ _ (fun k h=>absurd h (Nat.not_lt_zero _)) (by decide)).mono ?_;rintro e w29 ⟨rfl,hx29⟩;have HX29:=gH (HX28.out.trans hx29);have HB29:=gH (HB28.out.ext hx29);have HG29:=gH (HG28.out.ext hx29);have HO29:=gH (HO28.out.ext hx29);have HV29:Hid (qAp _ w.heap.size _ _):=gH (qAh HV28.out hx29);have HT29:=gH (HT28.out.ext hx29);clear hx29 HX28 HB28 HG28 HO28 HV28 HT28;(have hb:=fun o=>HB29.out.cell o);(have hg:=fun o=>HG29.out.cell o);(have ho:=fun o=>HO29.out.cell o);have hs:=HX29.out.size;go_wp2_with fail;clear hb hg ho hs;have hxa:=(Ext.refl w29).alloc (.cells #[.string (quoS ⟨#[]⟩)] 9);have HX30:=gH (HX29.out.trans hxa);have HB30:=gH (HB29.out.ext hxa)
 have HG30:=gH (HG29.out.ext hxa);have HO30:=gH (HO29.out.ext hxa);have HV30:Hid (qAp _ w.heap.size _ _):=gH (qAh HV29.out hxa);have HT30:=gH (HT29.out.ext hxa);clear hxa HX29 HB29 HG29 HO29 HV29 HT29;refine (qPn _ _ _ _ _ _ _ HG30.out).mono ?_;rintro e w31 ⟨rfl,hx31⟩;have HX31:=gH (HX30.out.trans hx31);have HB31:=gH (HB30.out.ext hx31);have HG31:=gH (HG30.out.ext hx31);have HO31:=gH (HO30.out.ext hx31);have HV31:Hid (qAp _ w.heap.size _ _):=gH (qAh HV30.out hx31);have HT31:=gH (HT30.out.ext hx31);clear hx31 HX30 HB30 HG30 HO30 HV30 HT30;(have hb:=fun o=>HB31.out.cell o);(have hg:=fun o=>HG31.out.cell o);(have ho:=fun o=>HO31.out.cell o);have hs:=HX31.out.size;go_wp2_with fail;clear hb hg ho hs;refine (qSx qCk A c _ (HEv.out.ext HX31.out) (HL.out.ext HX31.out) qVl zKh (by decide) zGj (by decide)).mono ?_;rintro e w32 ⟨vq,rfl,hq,hx32⟩;obtain ⟨Aq,cq,rfl,hsq⟩:=hq.at_;clear hq;have HSq:=gH hsq;clear hsq;have HX32:=gH (HX31.out.trans hx32);have HB32:=gH (HB31.out.ext hx32);have HG32:=gH (HG31.out.ext hx32);have HO32:=gH (HO31.out.ext hx32);have HV32:Hid (qAp _ w.heap.size _ _):=gH (qAh HV31.out hx32);have HT32:=gH (HT31.out.ext hx32);clear hx32 HX31 HB31 HG31 HO31 HV31 HT31;(have hb:=fun o=>HB32.out.cell o);(have hg:=fun o=>HG32.out.cell o);(have ho:=fun o=>HO32.out.cell o);have hs:=HX32.out.size;go_wp2_with fail;clear hb hg ho hs
 refine (qPk _ _ _ _ _ w.heap.size _ _ [quoS qCk] _ _ w HG32.out HO32.out HV32.out HSq.out HX32.out (Nat.le_refl _) HX32.out.size HGo.out (by decide)).mono ?_;rintro e w33 ⟨rfl,v',ho',hv',hx',hsz',hkb'⟩;obtain ⟨A33,c33,rfl,-⟩:=hv'.at_;have HX33:=gH hx';have HB33:=gH (HB32.out.kb (hkb' _ (by decide) (by decide)));have HG33:=gH (HG32.out.kb (hkb' _ (by decide) (by decide)));have HO33:=gH ho';have HV33:=gH hv';have HT33:=gH (HT.out.ext hx');clear ho' hv' hx' hsz' hkb' HX32 HB32 HG32 HO32 HV32 HT32;(have hb:=fun o=>HB33.out.cell o);(have hg:=fun o=>HG33.out.cell o);(have ho:=fun o=>HO33.out.cell o);have hs:=HX33.out.size;go_wp2_with fail;clear hb hg ho hs;obtain ⟨A',c',hv',hcap,-,hsl,-⟩:=qBn (f:=fun x:ByteArray=>[Value.string x]) (size:=1) (fun _=>rfl) rfl HV33.out
 cases hv'
 obtain ⟨b,off,hA',hcs⟩:=hsl.2 (by decide);subst hA';refine (Tryz.strings_Join b off _ [⟨#[82,79,87,83]⟩,decS 1,quoS qCk] ⟨#[32]⟩ w33 (fun j x hx=>by simpa using hcs j x hx 0 _ rfl) ?_ (by decide) hcap (Nat.le_of_ble_eq_true (by kernel_rfl))).mono ?_
 . exact World.block_lt_of_cell? _ _ (hcs 0 _ rfl 0 _ rfl)
 rintro e w34 ⟨rfl,hx34⟩;have HXz:=gH (HX33.out.trans hx34);clear hx34 hcs hsl hcap;(have hct:(⟨(Lib.join ([(⟨#[82,79,87,83]⟩:ByteArray),decS 1,quoS qCk].map (·.data.toList)) (⟨#[32]⟩:ByteArray).data.toList).toArray⟩:ByteArray)=cmdT:=by kernel_rfl);rw [hct];(have hsz:decide ((cmdT.size:Int) > 1000)=false:=by decide);go_wp2_with fail;go_ret2;exact ⟨rfl,HXz.out⟩
end
end Go.Proofs.YtneffpbodfjceaaGreatDoor