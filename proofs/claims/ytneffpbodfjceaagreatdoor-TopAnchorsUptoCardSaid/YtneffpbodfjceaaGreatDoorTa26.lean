/- Texts laid together. -/
import Derived.Test.YtneffpbodfjceaaGreatDoorTa25
set_option linter.unusedVariables false
set_option linter.unusedSimpArgs false
set_option maxRecDepth 100000
set_option maxHeartbeats 16000000
namespace Go.Proofs.YtneffpbodfjceaaGreatDoor
section
open Go.RowKit
def zRe:ByteArray:=⟨#[82,79,87,83]⟩
def cmdL:List Fl:=[⟨zRe,false⟩,⟨⟨#[49]⟩,false⟩,⟨qCk,true⟩]
def cmdF:List Fd:=qDz cmdL 0 cmdL
theorem zNo:∀ f∈cmdL,f.Ok:=by
 intro f hf;simp only [cmdL,List.mem_cons,List.not_mem_nil,or_false] at hf
 rcases hf with rfl | rfl | rfl
 . exact qNs (by decide) (by decide) (by decide)
 . exact qNs (by decide) (by decide) (by decide)
 . exact qYe (by decide)
theorem zJs:∀ (i:Nat) (p:ByteArray) (l:List Fl),([cmdT]:List ByteArray)[i]?=some p->([cmdL]:List (List Fl))[i]?=some l->p.data.toList=qOd l/\p.size<=1000/\l.length<=1000/\∀ f∈l,f.Ok:=by
 intro i p l hp hl;(have hi:i=0:=by have:=(List.getElem?_eq_some_iff.1 hl).1;simp at this;omega);subst hi
 cases hp;cases hl
 exact ⟨by decide,by decide,by decide,zNo⟩
theorem zFl (p:Nat) (w:World) (hB:Blk w p 3 #[.int .i64 2049]):Calls Tryz.prog 62 #[.int .i64 1,.pointer (some ⟨p,0,none⟩)] w fun e w'=>e = .returned (.bool true)/\w=w':=by
 (have hc:=fun o=>hB.cell o);clear hB;go_enter Tryz.func62,Tryz.ntmps62;go_wp2_with fail;go_ret;exact ⟨rfl,rfl⟩
theorem zFm (p:Nat) (w:World) (hB:Blk w p 3 #[.int .i64 2049]):Calls Tryz.prog 62 #[.int .i64 2,.pointer (some ⟨p,0,none⟩)] w fun e w'=>e = .returned (.bool false)/\w=w':=by
 (have hc:=fun o=>hB.cell o);clear hB;go_enter Tryz.func62,Tryz.ntmps62;go_wp2_with fail;go_ret;exact ⟨rfl,rfl⟩
theorem zFn (p:Nat) (w:World) (hB:Blk w p 3 #[.int .i64 2049]):Calls Tryz.prog 62 #[.int .i64 4,.pointer (some ⟨p,0,none⟩)] w fun e w'=>e = .returned (.bool false)/\w=w':=by
 (have hc:=fun o=>hB.cell o);clear hB;go_enter Tryz.func62,Tryz.ntmps62;go_wp2_with fail;go_ret;exact ⟨rfl,rfl⟩
theorem zFo (p:Nat) (w:World) (hB:Blk w p 3 #[.int .i64 2049]):Calls Tryz.prog 62 #[.int .i64 8,.pointer (some ⟨p,0,none⟩)] w fun e w'=>e = .returned (.bool false)/\w=w':=by
 (have hc:=fun o=>hB.cell o);clear hB;go_enter Tryz.func62,Tryz.ntmps62;go_wp2_with fail;go_ret;exact ⟨rfl,rfl⟩
theorem zBz (p:Nat) (w:World) (hB:Blk w p 3 #[.int .i64 2049]):Calls Tryz.prog 62 #[.int .i64 16,.pointer (some ⟨p,0,none⟩)] w fun e w'=>e = .returned (.bool false)/\w=w':=by
 (have hc:=fun o=>hB.cell o);clear hB;go_enter Tryz.func62,Tryz.ntmps62;go_wp2_with fail;go_ret;exact ⟨rfl,rfl⟩
theorem zCa (p:Nat) (w:World) (hB:Blk w p 3 #[.int .i64 2049]):Calls Tryz.prog 62 #[.int .i64 32,.pointer (some ⟨p,0,none⟩)] w fun e w'=>e = .returned (.bool false)/\w=w':=by
 (have hc:=fun o=>hB.cell o);clear hB;go_enter Tryz.func62,Tryz.ntmps62;go_wp2_with fail;go_ret;exact ⟨rfl,rfl⟩
theorem zCb (p:Nat) (w:World) (hB:Blk w p 3 #[.int .i64 2049]):Calls Tryz.prog 62 #[.int .i64 64,.pointer (some ⟨p,0,none⟩)] w fun e w'=>e = .returned (.bool false)/\w=w':=by
 (have hc:=fun o=>hB.cell o);clear hB;go_enter Tryz.func62,Tryz.ntmps62;go_wp2_with fail;go_ret;exact ⟨rfl,rfl⟩
theorem qXw (p:Nat) (w:World) (hB:Blk w p 3 #[.int .i64 2049]):Calls Tryz.prog 62 #[.int .i64 128,.pointer (some ⟨p,0,none⟩)] w fun e w'=>e = .returned (.bool false)/\w=w':=by
 (have hc:=fun o=>hB.cell o);clear hB;go_enter Tryz.func62,Tryz.ntmps62;go_wp2_with fail;go_ret;exact ⟨rfl,rfl⟩
theorem qXx (p:Nat) (w:World) (hB:Blk w p 3 #[.int .i64 2049]):Calls Tryz.prog 62 #[.int .i64 256,.pointer (some ⟨p,0,none⟩)] w fun e w'=>e = .returned (.bool false)/\w=w':=by
 (have hc:=fun o=>hB.cell o);clear hB;go_enter Tryz.func62,Tryz.ntmps62;go_wp2_with fail;go_ret;exact ⟨rfl,rfl⟩
theorem qXy (p:Nat) (w:World) (hB:Blk w p 3 #[.int .i64 2049]):Calls Tryz.prog 62 #[.int .i64 512,.pointer (some ⟨p,0,none⟩)] w fun e w'=>e = .returned (.bool false)/\w=w':=by
 (have hc:=fun o=>hB.cell o);clear hB;go_enter Tryz.func62,Tryz.ntmps62;go_wp2_with fail;go_ret;exact ⟨rfl,rfl⟩
theorem qVd (p:Nat) (w:World) (hB:Blk w p 3 #[.int .i64 2049]):Calls Tryz.prog 62 #[.int .i64 1024,.pointer (some ⟨p,0,none⟩)] w fun e w'=>e = .returned (.bool false)/\w=w':=by
 (have hc:=fun o=>hB.cell o);clear hB;go_enter Tryz.func62,Tryz.ntmps62;go_wp2_with fail;go_ret;exact ⟨rfl,rfl⟩
theorem qLw (p:Nat) (w:World) (hB:Blk w p 3 #[.int .i64 2049]):Calls Tryz.prog 62 #[.int .i64 2048,.pointer (some ⟨p,0,none⟩)] w fun e w'=>e = .returned (.bool true)/\w=w':=by
 (have hc:=fun o=>hB.cell o);clear hB;go_enter Tryz.func62,Tryz.ntmps62;go_wp2_with fail;go_ret;exact ⟨rfl,rfl⟩
theorem zCc (p g:Nat) (last:Int) (w:World) (hB:Blk w p 134 #[.pointer (some ⟨g,0,none⟩)]) (hs:ScAt w g 1 cmdF 1 last):Calls Tryz.prog 63 #[.pointer (some ⟨p,0,none⟩)] w fun e w'=>e = .returned (.int .i64 1)/\ScAt w' g 1 cmdF 2 6/\ButB g w w':=by
 (have hc:=fun o=>hB.cell o);have HN:=gH (qGt hs ⟨⟨#[49]⟩,_,false⟩ rfl rfl (show 3<=1000000 by decide) 1 (-1099511627776) 1099511627776 (qSf _ (by decide) (by decide) (by decide) (by decide)) (by kernel_rfl) (by decide) (by decide));clear hB hs;go_enter Tryz.func63,Tryz.ntmps63;go_wp2_with fail;refine HN.out.mono ?_;rintro e w1 ⟨rfl,h1,h2⟩;go_wp2_with fail;go_ret;exact ⟨rfl,h1,h2⟩
structure PeI (w0:World) (g p9 p10 p11 k:Nat) (last:Int) (cs:Array Value) (W:World):Prop where
 sc:ScAt W g 1 cmdF k last
 ext:Ext w0 W
 lo:w0.heap.size<=g
 b0:Blk W w0.heap.size 48 #[.int .u8 0,.int .i64 0,.int .i64 0,.int .i64 0,.int .i64 0,.int .i64 0,.int .i64 0,.int .i64 0,.int .i64 0,.int .u8 0,.int .u8 0,.bool false,.bool false,.string ⟨#[]⟩,.string ⟨#[]⟩,.string ⟨#[]⟩,.int .i64 0,.int .i64 0,.int .i64 0,.int .i64 0,.int .u8 0,.bool false,.slice none 0 0]
 b9:Blk W p9 134 #[.pointer (some ⟨g,0,none⟩)]
 b10:Blk W p10 48 cs
 b11:Blk W p11 3 #[.int .i64 2049]
 hi:w0.heap.size<p10
section
variable {w0 W W':World} {g p9 p10 p11 k k':Nat} {last last':Int} {cs cs':Array Value}
theorem PeI.meth (h:PeI w0 g p9 p10 p11 k last cs W) (s:ScAt W' g 1 cmdF k' last') (b:ButB g W W'):PeI w0 g p9 p10 p11 k' last' cs W' :=
 have ht:=h.sc.typed
 ⟨s,b.own h.ext h.lo,h.lo,b.blk h.b0 (fun e=>qBc.ne h.b0.typed ht (by decide) e),b.blk h.b9 (fun e=>qBc.ne h.b9.typed ht (by decide) e),b.blk h.b10 (fun e=>qBc.ne h.b10.typed ht (by decide) e),b.blk h.b11 (fun e=>qBc.ne h.b11.typed ht (by decide) e),h.hi⟩
theorem PeI.go (h:PeI w0 g p9 p10 p11 k last cs W) (x:Ext W W'):PeI w0 g p9 p10 p11 k last cs W':=⟨h.sc.ext x,h.ext.trans x,h.lo,h.b0.ext x,h.b9.ext x,h.b10.ext x,h.b11.ext x,h.hi⟩
theorem PeI.put (h:PeI w0 g p9 p10 p11 k last cs W):PeI w0 g p9 p10 p11 k last cs' (putB W p10 48 cs'):=by
 have ht:=h.b10.typed;(have hkb:∀ T:TypeId,T≠48->KB T W (putB W p10 48 cs'):=fun T hn=>(ButB.put (ButB.refl W) _ _).kb ht hn);exact ⟨h.sc.kb (hkb _ (by decide)) (hkb _ (by decide)),h.ext.put (Nat.le_of_lt h.hi) _ _,h.lo,h.b0.put_other (by have:=h.hi;omega) _,h.b9.kb (hkb _ (by decide)),h.b10.put _,h.b11.kb (hkb _ (by decide)),h.hi⟩
theorem PeI.grown {T:TypeId} {row:Option Nat} (h:PeI w0 g p9 p10 p11 k last cs W) (hg:W.grownBy W' row) (ht:∀ q,row=some q->qBc W T q) (h1:∀ q,row=some q->w0.heap.size<=q) (n1:234≠T) (n2:122≠T) (n3:48≠T) (n4:134≠T) (n5:3≠T):PeI w0 g p9 p10 p11 k last cs W' :=
 ⟨h.sc.kb (KB.grown hg ht n1) (KB.grown hg ht n2),h.ext.grown hg h1,h.lo,h.b0.kb (KB.grown hg ht n3),h.b9.kb (KB.grown hg ht n4),h.b10.kb (KB.grown hg ht n3),h.b11.kb (KB.grown hg ht n5),h.hi⟩
end
theorem ScAt.next {w:World} {g:Nat} {num last:Int} {fl:List Fd} {k:Nat} (h:ScAt w g num fl k last):w.cell? ⟨g,2,none⟩=some (.int .i64 k):=by
 obtain ⟨A,c,h1,-⟩:=h;exact h1.cell 2
def PeR (w:World) (g p9 p10 p11:Nat) (wr:World):Prop:=PeI w g p9 p10 p11 2 6 #[.int .u8 4,.int .i64 1,.int .i64 0,.int .i64 0,.int .i64 0,.int .i64 0,.int .i64 0,.int .i64 0,.int .i64 0,.int .u8 0,.int .u8 0,.bool false,.bool false,.string ⟨#[]⟩,.string ⟨#[]⟩,.string ⟨#[]⟩,.int .i64 0,.int .i64 0,.int .i64 0,.int .i64 0,.int .u8 0,.bool false,.slice none 0 0] wr\/∃ gr cr gx cx col,PeI w g p9 p10 p11 3 col #[.int .u8 4,.int .i64 1,.int .i64 0,.int .i64 0,.int .i64 0,.int .i64 0,.int .i64 0,.int .i64 0,.int .i64 0,.int .u8 0,.int .u8 0,.bool false,.bool false,.string ⟨#[]⟩,.string ⟨#[]⟩,.string ⟨#[]⟩,.int .i64 0,.int .i64 0,.int .i64 0,.int .i64 0,.int .u8 0,.bool false,.slice (some ⟨gr,0,none⟩) 1 cr] wr/\wr.ownsRow w.heap.size 61 1 (.slice (some ⟨gr,0,none⟩) 1 cr) 1 [.slice (some ⟨gx,0,none⟩) 1 cx]/\wr.ownsRow w.heap.size 102 5 (.slice (some ⟨gx,0,none⟩) 1 cx) 1 (runP qCk).cells
theorem zLa {w:World} {base:Nat} {e:TypeId} {size g n c:Nat} {xs:List Value} (h:w.ownsRow base e size (.slice (some ⟨g,0,none⟩) n c) n xs):n<=c:=by
 rcases h.2 with ⟨h0,-⟩ | ⟨g',cap,cur,h0,-,-,h1,-⟩
 . cases h0
 . cases h0
   exact h1
theorem zAo {w:World} {L gr cr gx cx:Nat} {r:Run} (h2:w.ownsRow L 61 1 (.slice (some ⟨gr,0,none⟩) 1 cr) 1 [.slice (some ⟨gx,0,none⟩) 1 cx]) (h3:w.ownsRow L 102 5 (.slice (some ⟨gx,0,none⟩) 1 cx) 1 r.cells):qCb w (some ⟨gr,0,none⟩) 1 [[r]]:=by
 obtain ⟨Ax,cx',hvx,hcx,-,hslx,-⟩:=qBn (f:=Run.cells) (size:=5) (l:=[r]) (fun _=>rfl) rfl (by simpa using h3)
 cases hvx
 obtain ⟨Ar,cr',hvr,hcr,-,hslr,-⟩:=qBn (f:=fun h:Hd=>[Hd.val h]) (size:=1) (l:=[(some ⟨gx,0,none⟩,1,cx)]) (fun _=>rfl) rfl (by simpa [Hd.val] using h2)
 cases hvr
 (refine qHg hslr rfl fun i h x a b=>?_);(have hi:i=0:=by have:=(List.getElem?_eq_some_iff.1 a).1;simp at this;omega);subst hi;simp only [List.getElem?_cons_zero,Option.some.injEq] at a b;subst a;subst b;exact ⟨hcx,(show 1*40<=140737488355328 by decide),qBj.of_cells hslx⟩
theorem zOc:∀ k,k<19->∃ wd u,zQq[k]?=some (wd,u)/\qFn[k*2]?=some (.string wd)/\qFn[k*2+1]?=some (.int .i64 u)
 | 0,_ | 1,_ | 2,_ | 3,_ | 4,_ | 5,_ | 6,_ | 7,_ | 8,_ | 9,_ | 10,_ | 11,_ | 12,_ | 13,_ | 14,_ | 15,_ | 16,_ | 17,_ | 18,_=>⟨_,_,rfl,rfl,rfl⟩
 | n+19,h=>absurd h (by omega)
def qNu:List ByteArray:=zQq.map (·.1)
def FwRel (w:World) (v i:Value) (wr:World):Prop:=∃ k:Nat,k<=19/\i = .int .i64 (k:Int)/\Ext w wr/\qAp wr w.heap.size v (qNu.take k)
theorem zFp (w:World) (hE:Env w) (ht:TabX w):Calls Tryz.prog 14 #[.string cmdT] w fun e w'=>∃ gr cr,e = .returned (.tuple #[.agg (edC 4 1 0 0 ⟨#[]⟩ ⟨#[]⟩ (.slice (some ⟨gr,0,none⟩) 1 cr)),.int .i64 0])/\1<=cr/\qCb w' (some ⟨gr,0,none⟩) 1 [[runP qCk]]/\Ext w w':=by
 have HX0:=gH ((Ext.refl w).alloc (.cells #[.int .u8 0,.int .i64 0,.int .i64 0,.int .i64 0,.int .i64 0,.int .i64 0,.int .i64 0,.int .i64 0,.int .i64 0,.int .u8 0,.int .u8 0,.bool false,.bool false,.string ⟨#[]⟩,.string ⟨#[]⟩,.string ⟨#[]⟩,.int .i64 0,.int .i64 0,.int .i64 0,.int .i64 0,.int .u8 0,.bool false,.slice none 0 0] 48));have HB0:=gH (Blk.new w 48 #[.int .u8 0,.int .i64 0,.int .i64 0,.int .i64 0,.int .i64 0,.int .i64 0,.int .i64 0,.int .i64 0,.int .i64 0,.int .u8 0,.int .u8 0,.bool false,.bool false,.string ⟨#[]⟩,.string ⟨#[]⟩,.string ⟨#[]⟩,.int .i64 0,.int .i64 0,.int .i64 0,.int .i64 0,.int .u8 0,.bool false,.slice none 0 0]);have HSp:=gH (qVt cmdT [cmdT] [cmdL] _ (hE.ext HX0.out) (by decide) (by kernel_rfl) (by kernel_rfl) (by decide) (by decide) zJs);have HE:=gH hE;have HT:=gH ht;clear hE ht;go_enter Tryz.func14,Tryz.ntmps14;go_wp2_with fail;refine HSp.out.mono ?_;rintro e w1 ⟨v1,hs1,rfl,hbd,hx1⟩;rw [show lnsL 0 [cmdL]=[(1,cmdF)] from rfl] at hbd;obtain ⟨gl,cl,rfl,hgl,-⟩:=qBt hbd.own (by decide);obtain ⟨A0,c0,l00,l01,l02⟩:=hbd.line (k:=0) rfl;have HX1:=gH (HX0.out.trans hx1);have HB1:=gH (HB0.out.ext hx1);have hz:(2:Nat)=2:=rfl;clear HSp HX0 HB0 hx1 hbd hz;have hl1:([(1,cmdF)]:List (Int × List Fd)).length=1:=rfl;rw [hl1];clear hl1;go_wp2_with fail;refine (qHw _).mono ?_;rintro e w2 ⟨f,rfl,-,hBf,hx2⟩;have HX2:=gH (HX1.out.trans hx2);have HB2:=gH (HB1.out.ext hx2)
 have k0:=hx2.cell l00;have k1:=hx2.cell l01;simp only [Nat.reduceMul,Nat.reduceAdd] at k0 k1;have HL2:=gH (And.intro k0 (And.intro k1 (l02.ext hx2)));have HBf:=gH hBf;clear hx2 HX1 HB1 l00 l01 l02 k0 k1 hBf;go_wp2_with fail
 go_loopw [6,37] (fun v i wr=>FwRel w2 v i wr) (fun _ i _=>19-(intOf i).toNat)
 case atStart=>exact ⟨0,Nat.zero_le _,rfl,Ext.refl w2,⟨rfl,.inl ⟨rfl,rfl⟩⟩⟩
 case round =>
  obtain ⟨k,hk,rfl,hx,hown⟩:=hrel;have hxs:=hx.size;(have hlen:(qNu.take k).length=k:=by rw [List.length_take];exact Nat.min_eq_left hk)
  by_cases hlt:k<19
  . obtain ⟨wd,u,hw0,hw1,hw2⟩:=zOc k hlt
    have HS:=gH (take_snoc' qNu k wd (by unfold qNu;rw [List.getElem?_map,hw0];rfl));have cf1:wr.cell? ⟨f,k*2,none⟩=some (.string wd):=((HBf.out.ext hx).cell _).trans hw1;have cf2:wr.cell? ⟨f,k*2+1,none⟩=some (.int .i64 u):=((HBf.out.ext hx).cell _).trans hw2;have HO:=gH hown;have HX:=gH hx;unfold qAp at HO;rw [hlen] at HO;clear hown hw0 hw1 hw2 hlen hx;go_wp2_with (at_builtin;refine qAi rfl (.tmp 41) (.tmp 44) 129 rfl qEu Tryz.underlying129 rfl (by decide) ((HO.out.alloc _).alloc _) (by exact rfl) (wr.heap.size+1) _ (by exact rfl) (by exact Blk.new' (by simp)) (by exact rfl) (by simp [Value.oneCell']) (by omega) (by unfold maxLen;omega) (by simp;omega) ?_;intro v' w4 hown4 hgr);refine ⟨⟨k+1,hlt,by go_num,((HX.out.alloc _).alloc _).grown hgr (fun q hq=>by have:=qBg HO.out q hq;simpa using this),?_⟩,by simp only [intOf];omega⟩;unfold qAp;rw [HS.out,List.flatMap_append,List.length_append,List.length_take,Nat.min_eq_left (show k<=qNu.length from hk)];exact hown4
  . obtain rfl:k=19:=by omega
    (have hd:decide ((19:Int)<19)=false:=by decide);obtain ⟨gw,cw,rfl,hgw,-⟩:=qBt hown (by decide);have HO:=gH hown;have HX:=gH (HX2.out.trans hx);have HBz:=gH (HB2.out.ext hx);have cl0:=hx.cell HL2.out.1;have cl1:=hx.cell HL2.out.2.1;have HF:=gH (HL2.out.2.2.ext hx);have hf3:cmdF.length=3:=rfl;rw [hf3] at cl1 HF;clear hown hx HB2 HX2 HL2 HBf hf3 hlen hgw;go_wp2_with fail;refine (qTb 1 A0 3 c0 cmdF _ HF.out (by decide)).mono ?_;rintro e w5 ⟨g,rfl,hg,hsc,hx5⟩;have HG:=gH (Nat.le_trans HX.out.size hg);have HX5:=gH ((HX.out.trans hx5).alloc (.cells #[.pointer (some ⟨g,0,none⟩)] 134));have HBz5:=gH ((HBz.out.ext hx5).alloc (.cells #[.pointer (some ⟨g,0,none⟩)] 134));have HS5:=gH (hsc.ext ((Ext.refl w5).alloc (.cells #[.pointer (some ⟨g,0,none⟩)] 134)));have H95:=gH (Blk.new w5 134 #[.pointer (some ⟨g,0,none⟩)]);have HO5:Hid (qAp (w5.alloc (.cells #[.pointer (some ⟨g,0,none⟩)] 134)) w2.heap.size _ _):=gH (qAh HO.out (hx5.alloc (.cells #[.pointer (some ⟨g,0,none⟩)] 134)));clear hg hsc hx5 HX HBz HF HO cl0 cl1;(have hc9:=fun o=>H95.out.cell o);go_wp2_with fail;generalize w5.alloc (.cells #[.pointer (some ⟨g,0,none⟩)] 134)=W5 at *;generalize w5.heap.size=p9 at *;obtain ⟨hn19,hww⟩:=HO5.out.words HS5.out.typed;clear hn19 hc9;refine (qIx HS5.out ⟨zRe,_,false⟩ rfl rfl (show 3<=1000000 by decide) _ _ _ _ 3 hww (by decide) rfl (fun i x hi hx=>?_)).mono ?_
    . have hi3:i=0\/i=1\/i=2:=by omega
      rcases hi3 with rfl | rfl | rfl<;>(cases hx;decide)
    rintro e w6 ⟨rfl,hsc,hb⟩;clear hww HO5;rw [show ((3:Nat):Int)=3 from rfl];have ht5:=HS5.out.typed;have HX6:=gH (hb.own HX5.out HG.out);have HS6:=gH hsc;have HBz6:=gH (hb.blk HBz5.out (fun e=>qBc.ne HBz5.out.typed ht5 (by decide) e));have H96:=gH (hb.blk H95.out (fun e=>qBc.ne H95.out.typed ht5 (by decide) e));clear hsc hb ht5 HX5 HS5 HBz5 H95 W5;have hx7:Ext w6 (putB (w6.alloc (.cells #[.int .u8 0,.int .i64 0,.int .i64 0,.int .i64 0,.int .i64 0,.int .i64 0,.int .i64 0,.int .i64 0,.int .i64 0,.int .u8 0,.int .u8 0,.bool false,.bool false,.string ⟨#[]⟩,.string ⟨#[]⟩,.string ⟨#[]⟩,.int .i64 0,.int .i64 0,.int .i64 0,.int .i64 0,.int .u8 0,.bool false,.slice none 0 0] 48)) w6.heap.size 48 #[.int .u8 4,.int .i64 0,.int .i64 0,.int .i64 0,.int .i64 0,.int .i64 0,.int .i64 0,.int .i64 0,.int .i64 0,.int .u8 0,.int .u8 0,.bool false,.bool false,.string ⟨#[]⟩,.string ⟨#[]⟩,.string ⟨#[]⟩,.int .i64 0,.int .i64 0,.int .i64 0,.int .i64 0,.int .u8 0,.bool false,.slice none 0 0]):=((Ext.refl w6).alloc _).put (Nat.le_refl _) _ _;have HX7:=gH (HX6.out.trans hx7);have HS7:=gH (HS6.out.ext hx7);have HBz7:=gH (HBz6.out.ext hx7);have H97:=gH (H96.out.ext hx7)
    have HQ7:=gH (Blk.new w6 48 #[.int .u8 0,.int .i64 0,.int .i64 0,.int .i64 0,.int .i64 0,.int .i64 0,.int .i64 0,.int .i64 0,.int .i64 0,.int .u8 0,.int .u8 0,.bool false,.bool false,.string ⟨#[]⟩,.string ⟨#[]⟩,.string ⟨#[]⟩,.int .i64 0,.int .i64 0,.int .i64 0,.int .i64 0,.int .u8 0,.bool false,.slice none 0 0]);have H107:=gH (HQ7.out.put #[.int .u8 4,.int .i64 0,.int .i64 0,.int .i64 0,.int .i64 0,.int .i64 0,.int .i64 0,.int .i64 0,.int .i64 0,.int .u8 0,.int .u8 0,.bool false,.bool false,.string ⟨#[]⟩,.string ⟨#[]⟩,.string ⟨#[]⟩,.int .i64 0,.int .i64 0,.int .i64 0,.int .i64 0,.int .u8 0,.bool false,.slice none 0 0]);have hlt6:w.heap.size<w6.heap.size:=HBz6.out.lt;(have hb7:=fun o=>H107.out.cell o);clear hx7;go_wp2_with (refine qAc rfl 48 (.tmp 10) _ rfl w6.heap.size 48 _ _ (by exact rfl) (by exact rfl) (by exact HQ7.out) (by exact rfl) (by exact qBq) (by simp [Value.oneCell']) ?_);clear HQ7
    generalize (putB (w6.alloc (.cells #[.int .u8 0,.int .i64 0,.int .i64 0,.int .i64 0,.int .i64 0,.int .i64 0,.int .i64 0,.int .i64 0,.int .i64 0,.int .u8 0,.int .u8 0,.bool false,.bool false,.string ⟨#[]⟩,.string ⟨#[]⟩,.string ⟨#[]⟩,.int .i64 0,.int .i64 0,.int .i64 0,.int .i64 0,.int .u8 0,.bool false,.slice none 0 0] 48)) w6.heap.size 48 #[.int .u8 4,.int .i64 0,.int .i64 0,.int .i64 0,.int .i64 0,.int .i64 0,.int .i64 0,.int .i64 0,.int .i64 0,.int .u8 0,.int .u8 0,.bool false,.bool false,.string ⟨#[]⟩,.string ⟨#[]⟩,.string ⟨#[]⟩,.int .i64 0,.int .i64 0,.int .i64 0,.int .i64 0,.int .u8 0,.bool false,.slice none 0 0])=W7 at *;generalize w6.heap.size=p10 at *;clear HX6 HS6 HBz6 H96;have kop:=hb7 0;simp only [gA,gB,gC] at kop;clear hb7;refine qBb [some 61,some 62,some 63,some 64,some 65,some 66,some 67,some 11,none] [[],[],[1],[2],[0,3],[4],[5],[],[7,6,0,0,1,2,3,4,5,6,7]] [0,4,5,6,8] [7] [undef,.pointer (some ⟨p10,0,none⟩),.int .u8 4,.int .u8 3,undef,undef,undef,undef,undef] (fun _=>.cells #[.int .i64 0] 3) (FmJ 3 2049 W7) (by kernel_rfl) (by kernel_rfl) (by kernel_rfl) (by kernel_rfl) (by kernel_rfl) (by kernel_rfl) (by kernel_rfl) (by decide) (by kernel_rfl) ?_ ?_ ?_ ?_ ?_ ?_
    . exact FmJ.start W7
    . intro i o ho ha a w' K' hk
      match i,ho with
      | 0,ho | 1,ho | 2,ho | 3,ho | 4,ho | 5,ho | 6,ho=>simp at ha
      | 7,ho =>
       simp only [gA,gB,gC,gD] at ho;subst ho;exact qJw rfl Tryz.zeroValue3 hk
      | 8,ho=>simp at ha
      | i+9,ho=>simp at ho
    . intro i ha us gs w' hJ hn hlim
      match i,ha with
      | 0,ha | 1,ha | 2,ha | 3,ha | 4,ha | 5,ha | 6,ha=>simp at ha
      | 7,ha=>exact hJ.alloc (by have:=hlim 4 8 rfl rfl;omega)
      | 8,ha=>simp at ha
      | i+9,ha=>simp at ha
    . intro i o ho hc ha a w' us gs K' hJ hF hlim hk
      match i,ho with
      | 0,ho=>simp at hc
      | 1,ho =>
       simp only [gA,gB,gC,gD] at ho;subst ho;have e10:=hF.old 10 (.pointer (some ⟨p10,0,none⟩)) rfl rfl;simp only [Act.eval] at e10;clear hF hlim hJ;go_simp;exact hk
      | 2,ho =>
       simp only [gA,gB,gC,gD] at ho;subst ho;have e62:=hF.pure 1 62 (.pointer (some ⟨p10,0,none⟩)) rfl rfl rfl rfl rfl;have hcl:=hJ.ext.cell (kop);simp only [Act.eval] at e62;clear hF hlim hJ;go_simp;exact hk
      | 3,ho =>
       simp only [gA,gB,gC,gD] at ho;subst ho;have e63:=hF.pure 2 63 (.int .u8 4) rfl rfl rfl rfl rfl;simp only [Act.eval] at e63;clear hF hlim hJ;go_simp;exact hk
      | 4,ho | 5,ho | 6,ho=>simp at hc
      | 7,ho=>simp at ha
      | 8,ho=>simp at hc
      | i+9,ho=>simp at ho
    . intro p c' o hp ho a w' us gs K' hl hJ hF hk
      match p,hp with
      | 0,hp =>
       (obtain rfl:0=c':=by simpa using hp);simp only [gA,gB,gC,gD] at ho;subst ho;obtain rfl:us=[]:=List.eq_nil_of_length_eq_zero hl;refine qLa rfl Tryz.call59 (qHw w') ?_;rintro en w4 ⟨f,rfl,-,hB,hx⟩;exact ⟨_,rfl,hk _ _ (hJ.call hx hB)⟩
      | 1,hp =>
       (obtain rfl:4=c':=by simpa using hp);simp only [gA,gB,gC,gD] at ho;subst ho;obtain ⟨u0,rfl⟩:=qBv hl;obtain ⟨f,rfl,hBf,-⟩:=hJ.fs _ rfl;have e61:=hF.link 0 0 61 _ rfl rfl rfl rfl;have e64:=hF.pure 3 64 (.int .u8 3) rfl rfl rfl rfl rfl;have HK:=gH (hk _ _ hJ.idx);simp only [Nat.reduceMul] at HK;simp [Act.eval] at e61 e64;clear hk hF hJ;go_simp;exact HK.out
      | 2,hp =>
       (obtain rfl:5=c':=by simpa using hp);simp only [gA,gB,gC,gD] at ho;subst ho;obtain ⟨u0,u1,rfl⟩:=qCm hl;obtain ⟨f,rfl,hBf,h1,-⟩:=hJ.fs _ rfl;obtain rfl:=h1 _ rfl;have e65:=hF.link 1 4 65 _ rfl rfl rfl rfl;have HK:=gH (hk _ _ hJ.fld);simp only [Nat.reduceMul,Nat.reduceAdd] at HK;simp [Act.eval] at e65;clear hk hF hJ h1;go_simp;exact HK.out
      | 3,hp =>
       (obtain rfl:6=c':=by simpa using hp);simp only [gA,gB,gC,gD] at ho;subst ho;obtain ⟨u0,u1,u2,rfl⟩:=qCn hl;obtain ⟨f,rfl,hBf,h1,h2,-⟩:=hJ.fs _ rfl;obtain rfl:=h1 _ rfl;obtain rfl:=h2 _ rfl;have e66:=hF.link 2 5 66 _ rfl rfl rfl rfl;have hcl:=hBf.cell 7;unfold qFn at hcl;simp only [gA,gB,gC] at hcl;have HK:=gH (hk _ _ hJ.ld);simp [Act.eval] at e66;clear hk hF hJ h1 h2;go_simp;exact HK.out
      | 4,hp =>
       (obtain rfl:8=c':=by simpa using hp);simp only [gA,gB,gC,gD] at ho;subst ho;obtain ⟨u0,u1,u2,u3,rfl⟩:=qEm hl;obtain ⟨f,rfl,hBf,h1,h2,h3⟩:=hJ.fs _ rfl;obtain rfl:=h1 _ rfl;obtain rfl:=h2 _ rfl;obtain rfl:=h3 _ rfl;obtain ⟨g11,hg11,e11⟩:=hF.ptr 7 11 rfl rfl rfl rfl;have e67:=hF.link 3 6 67 _ rfl rfl rfl rfl;have hbk:=hJ.blk hg11 (by simp);have hcl:=hbk.cell 0;simp only [List.getElem?_toArray,List.getElem?_cons_zero] at hcl;have hfz:=hbk.frozen 0;have hsl:_=putB w' g11 3 #[.int .i64 2049]:=qAd hbk 0 (.int .i64 2049);have HK:=gH (hk undef _ (hJ.store hg11));simp [Act.eval] at e11 e67;clear hk hF hJ h1 h2 h3;go_simp;exact HK.out
      | p+5,hp=>simp at hp
    intro us gs w8 hl hgs hJ;obtain ⟨u0,u1,u2,u3,u4,rfl⟩:=qHz hl;obtain ⟨g7,hg7⟩:=Option.isSome_iff_exists.1 (hgs 7 rfl)
    first | (rename_i hK;refine hK _ _ ?_;clear hK) | (rename_i hK hK_1;refine hK _ _ ?_;clear hK) | (rename_i hK hK_1 hK_2;refine hK _ _ ?_;clear hK) | (rename_i hK hK_1 hK_2 hK_3;refine hK _ _ ?_;clear hK)
    generalize hL:qFy _ _ _ _ _ _=L;obtain rfl:L=[(61,u0),(62,.pointer (some ⟨p10,0,none⟩)),(63,.int .u8 4),(64,.int .u8 3),(65,u1),(66,u2),(67,u3),(11,.pointer ((gs 7).map fun g=>⟨g,0,none⟩))]:=hL.symm.trans (by kernel_rfl);rw [hg7];clear hL hl;simp only [Act.put,Option.map_some,List.foldl_cons,List.foldl_nil,List.setIfInBounds_toArray,List.set_cons_zero,List.set_cons_succ];have hv7:=(hJ.va g7 hg7).2;rw [if_neg (by simp)] at hv7;have HI8:Hid (PeI w g p9 p10 g7 1 1 #[.int .u8 4,.int .i64 0,.int .i64 0,.int .i64 0,.int .i64 0,.int .i64 0,.int .i64 0,.int .i64 0,.int .i64 0,.int .u8 0,.int .u8 0,.bool false,.bool false,.string ⟨#[]⟩,.string ⟨#[]⟩,.string ⟨#[]⟩,.int .i64 0,.int .i64 0,.int .i64 0,.int .i64 0,.int .u8 0,.bool false,.slice none 0 0] w8):=gH ⟨HS7.out.ext hJ.ext,HX7.out.trans hJ.ext,HG.out,HBz7.out.ext hJ.ext,H97.out.ext hJ.ext,H107.out.ext hJ.ext,hv7,hlt6⟩;clear hJ hgs hg7 hv7 HX7 HS7 HBz7 H97 H107 kop hlt6 HG;generalize g7=p11 at *;go_wp2_with fail;refine (zFl _ _ HI8.out.b11).mono ?_;rintro e wz ⟨rfl,hz⟩;obtain rfl:=hz;go_wp2_with fail;refine (zCc p9 g _ _ HI8.out.b9 HI8.out.sc).mono ?_;rintro e w9 ⟨rfl,hsc,hb⟩;have HI9:=gH (HI8.out.meth hsc hb);clear hsc hb HI8 w8;(have sac0:=fun o=>(HI9.out.b10).cell o);(have saf0:=fun o=>(HI9.out.b10).frozen o)
    have sae0:w9.setCell ⟨p10,1,none⟩ (.int .i64 1)=putB w9 p10 48 #[.int .u8 4,.int .i64 1,.int .i64 0,.int .i64 0,.int .i64 0,.int .i64 0,.int .i64 0,.int .i64 0,.int .i64 0,.int .u8 0,.int .u8 0,.bool false,.bool false,.string ⟨#[]⟩,.string ⟨#[]⟩,.string ⟨#[]⟩,.int .i64 0,.int .i64 0,.int .i64 0,.int .i64 0,.int .u8 0,.bool false,.slice none 0 0]:=qAd (HI9.out.b10) 1 _;(have sac1:=fun o=>((HI9.out.b10).put #[.int .u8 4,.int .i64 1,.int .i64 0,.int .i64 0,.int .i64 0,.int .i64 0,.int .i64 0,.int .i64 0,.int .i64 0,.int .u8 0,.int .u8 0,.bool false,.bool false,.string ⟨#[]⟩,.string ⟨#[]⟩,.string ⟨#[]⟩,.int .i64 0,.int .i64 0,.int .i64 0,.int .i64 0,.int .u8 0,.bool false,.slice none 0 0]).cell o);(have saf1:=fun o=>((HI9.out.b10).put #[.int .u8 4,.int .i64 1,.int .i64 0,.int .i64 0,.int .i64 0,.int .i64 0,.int .i64 0,.int .i64 0,.int .i64 0,.int .u8 0,.int .u8 0,.bool false,.bool false,.string ⟨#[]⟩,.string ⟨#[]⟩,.string ⟨#[]⟩,.int .i64 0,.int .i64 0,.int .i64 0,.int .i64 0,.int .u8 0,.bool false,.slice none 0 0]).frozen o);go_wp2_with fail
    have HI10:Hid (PeI w g p9 p10 p11 2 6 #[.int .u8 4,.int .i64 1,.int .i64 0,.int .i64 0,.int .i64 0,.int .i64 0,.int .i64 0,.int .i64 0,.int .i64 0,.int .u8 0,.int .u8 0,.bool false,.bool false,.string ⟨#[]⟩,.string ⟨#[]⟩,.string ⟨#[]⟩,.int .i64 0,.int .i64 0,.int .i64 0,.int .i64 0,.int .u8 0,.bool false,.slice none 0 0] (putB w9 p10 48 #[.int .u8 4,.int .i64 1,.int .i64 0,.int .i64 0,.int .i64 0,.int .i64 0,.int .i64 0,.int .i64 0,.int .i64 0,.int .u8 0,.int .u8 0,.bool false,.bool false,.string ⟨#[]⟩,.string ⟨#[]⟩,.string ⟨#[]⟩,.int .i64 0,.int .i64 0,.int .i64 0,.int .i64 0,.int .u8 0,.bool false,.slice none 0 0])):=gH HI9.out.put;clear sac0 saf0 sae0 sac1 saf1 HI9;generalize putB w9 p10 48 #[.int .u8 4,.int .i64 1,.int .i64 0,.int .i64 0,.int .i64 0,.int .i64 0,.int .i64 0,.int .i64 0,.int .i64 0,.int .u8 0,.int .u8 0,.bool false,.bool false,.string ⟨#[]⟩,.string ⟨#[]⟩,.string ⟨#[]⟩,.int .i64 0,.int .i64 0,.int .i64 0,.int .i64 0,.int .u8 0,.bool false,.slice none 0 0]=w10 at *;clear w9;refine (zFn _ _ HI10.out.b11).mono ?_;rintro e wz ⟨rfl,hz⟩;obtain rfl:=hz;go_wp2_with fail;refine (zFo _ _ HI10.out.b11).mono ?_;rintro e wz ⟨rfl,hz⟩;obtain rfl:=hz;go_wp2_with fail;refine (zFm _ _ HI10.out.b11).mono ?_;rintro e wz ⟨rfl,hz⟩;obtain rfl:=hz;go_wp2_with fail;refine (zBz _ _ HI10.out.b11).mono ?_;rintro e wz ⟨rfl,hz⟩;obtain rfl:=hz;go_wp2_with fail
    refine (zCa _ _ HI10.out.b11).mono ?_;rintro e wz ⟨rfl,hz⟩;obtain rfl:=hz;go_wp2_with fail;refine (qXw _ _ HI10.out.b11).mono ?_;rintro e wz ⟨rfl,hz⟩;obtain rfl:=hz;go_wp2_with fail;refine (qXx _ _ HI10.out.b11).mono ?_;rintro e wz ⟨rfl,hz⟩;obtain rfl:=hz;go_wp2_with fail;refine (zCb _ _ HI10.out.b11).mono ?_;rintro e wz ⟨rfl,hz⟩;obtain rfl:=hz;(have hb:=fun o=>HI10.out.b10.cell o);go_wp2_with fail;clear hb;refine (qXy _ _ HI10.out.b11).mono ?_;rintro e wz ⟨rfl,hz⟩;obtain rfl:=hz;go_wp2_with fail;refine (qVd _ _ HI10.out.b11).mono ?_;rintro e wz ⟨rfl,hz⟩;obtain rfl:=hz;go_wp2_with fail
    go_loopw [] (fun wr=>PeR w g p9 p10 p11 wr) (fun wr=>3-(intOf ((wr.cell? ⟨g,2,none⟩).getD undef)).toNat)
    case atStart=>exact .inl HI10.out
    case round =>
     rcases hrel with hI | ⟨gr,cr,gx,cx,col,hI,hor,hox⟩
     . have HI:=gH hI
       (have hms:(intOf ((wr.cell? ⟨g,2,none⟩).getD undef)).toNat=2:=by rw [hI.sc.next];rfl);clear hI HI10;go_wp2_with fail;refine (qLw _ _ HI.out.b11).mono ?_;rintro e wz ⟨rfl,hz⟩;obtain rfl:=hz;(have h9:=fun o=>HI.out.b9.cell o);go_wp2_with fail;refine (zAr HI.out.sc (by decide) (by decide)).mono ?_;rintro e v1 ⟨rfl,hx⟩;rw [show ((cmdF.length-2:Nat):Int)=1 from rfl];have HI1:=gH (HI.out.go hx);clear hx h9;(have h9:=fun o=>HI1.out.b9.cell o);go_wp2_with fail;clear h9;refine (qLq HI1.out.sc ⟨qCk,_,true⟩ rfl rfl (by decide)).mono ?_;rintro e v2 ⟨rfl,hsc,hb⟩;have HI2:=gH (HI1.out.meth hsc hb);clear hsc hb HI1;go_wp2_with fail;refine (qWp qCk _ (HE.out.ext HI2.out.ext) qVl (by decide) zGj (by decide)).mono ?_;rintro e v3 ⟨gx,cx,rfl,hox,hx3⟩;have HI3:=gH (HI2.out.go hx3);have HOx:=gH (qBo hox HI2.out.ext.size);clear hox hx3 HI2;obtain ⟨v4,hv4⟩:∃ v4,v4=v3.alloc (.cells #[.slice (some ⟨gx,0,none⟩) 1 cx] 61):=⟨_,rfl⟩;have HI4:Hid (PeI w g p9 p10 p11 3 _ _ v4):=gH (by rw [hv4];exact HI3.out.go ((Ext.refl v3).alloc _));have HO4:Hid (v4.ownsRow w.heap.size 102 5 (.slice (some ⟨gx,0,none⟩) 1 cx) 1 (runP qCk).cells):=gH (by rw [hv4];exact qAh HOx.out ((Ext.refl v3).alloc _));have HN4:=gH (Blk.new v3 61 #[.slice (some ⟨gx,0,none⟩) 1 cx]);(have hn4:=fun o=>HN4.out.cell o);(have h10:=fun o=>(HI3.out.b10.alloc (.cells #[.slice (some ⟨gx,0,none⟩) 1 cx] 61)).cell o);rw [← hv4] at HN4
       have hs4:=HI4.out.ext.size
       go_wp2_with
        (at_builtin
         rw [← hv4];refine qAi rfl (.tmp 168) (.tmp 170) 46 rfl qVo Tryz.underlying46 rfl (by decide) (base:=w.heap.size) (v:=.slice none 0 0) (n:=0) (xs:=[]) ⟨rfl,.inl ⟨rfl,rfl⟩⟩ (by exact rfl) (v3.heap.size+1) #[.slice (some ⟨gx,0,none⟩) 1 cx] (by exact rfl) (by exact Blk.new' (by rw [hv4];simp)) (by exact rfl) (by simp [Value.oneCell']) (by decide) (by decide) (by simp;omega) ?_;intro v' w5 hown5 hgr;obtain ⟨gr,cr,rfl,-,-⟩:=qBt hown5 (by decide);(have hnq:∀ (T:TypeId) q,(Value.slice none 0 0).ownBlock=some q->qBc (v4.alloc (.cells #[.slice (some ⟨gx,0,none⟩) 1 cx] 61)) T q:=fun T q hq=>by simp [Value.ownBlock] at hq);have HI5:=gH ((HI4.out.go ((Ext.refl v4).alloc (.cells #[.slice (some ⟨gx,0,none⟩) 1 cx] 61))).grown (T:=61) hgr (hnq _) (fun q hq=>by simp [Value.ownBlock] at hq) (by decide) (by decide) (by decide) (by decide) (by decide));have HO5:=gH (qDs (qAh HO4.out ((Ext.refl v4).alloc (.cells #[.slice (some ⟨gx,0,none⟩) 1 cx] 61))) (KB.grown hgr (hnq 61) (by decide)));have HR5:=gH hown5;clear hown5 hgr hnq h10 hn4;(have sbc0:=fun o=>HI5.out.b10.cell o);(have sbf0:=fun o=>HI5.out.b10.frozen o)
         have sbe0:w5.setCell ⟨p10,22,none⟩ (.slice (some ⟨gr,0,none⟩) 1 cr)=putB w5 p10 48 #[.int .u8 4,.int .i64 1,.int .i64 0,.int .i64 0,.int .i64 0,.int .i64 0,.int .i64 0,.int .i64 0,.int .i64 0,.int .u8 0,.int .u8 0,.bool false,.bool false,.string ⟨#[]⟩,.string ⟨#[]⟩,.string ⟨#[]⟩,.int .i64 0,.int .i64 0,.int .i64 0,.int .i64 0,.int .u8 0,.bool false,.slice (some ⟨gr,0,none⟩) 1 cr]:=qAd HI5.out.b10 22 _)
       have HI6:=gH (HI5.out.put (cs':=#[.int .u8 4,.int .i64 1,.int .i64 0,.int .i64 0,.int .i64 0,.int .i64 0,.int .i64 0,.int .i64 0,.int .i64 0,.int .u8 0,.int .u8 0,.bool false,.bool false,.string ⟨#[]⟩,.string ⟨#[]⟩,.string ⟨#[]⟩,.int .i64 0,.int .i64 0,.int .i64 0,.int .i64 0,.int .u8 0,.bool false,.slice (some ⟨gr,0,none⟩) 1 cr]));have hn6:=HI6.out.sc.next;refine ⟨.inr ⟨gr,cr,gx,cx,_,HI6.out,qBi HR5.out HI5.out.b10 (by decide),qBi HO5.out HI5.out.b10 (by decide)⟩,?_⟩;rw [hn6,hms];decide
     . have HI:=gH hI
       have HR:=gH hor;have HO:=gH hox;clear hI HI10 hor hox;go_wp2_with fail;refine (qLw _ _ HI.out.b11).mono ?_;rintro e wz ⟨rfl,hz⟩;obtain rfl:=hz;(have h9:=fun o=>HI.out.b9.cell o);go_wp2_with fail;refine (zAr HI.out.sc (by decide) (by decide)).mono ?_;rintro e v1 ⟨rfl,hx⟩;rw [show ((cmdF.length-3:Nat):Int)=0 from rfl];have HI1:=gH (HI.out.go hx);have HR1:=gH (qAh HR.out hx);have HO1:=gH (qAh HO.out hx);clear hx h9 HI HR HO;(have h9:=fun o=>HI1.out.b9.cell o);go_wp2_with fail;clear h9;refine (qTd (show ScAt v1 g 1 cmdF cmdF.length col from HI1.out.sc) (by decide)).mono ?_;rintro e v2 ⟨rfl,hx⟩;have hx3:=hx.trans ((Ext.refl v2).alloc (.cells #[.int .i64 0,.int .i64 0,.int .i64 0] 116));have HI3:=gH (HI1.out.go hx3);have HR3:=gH (qAh HR1.out hx3);have HO3:=gH (qAh HO1.out hx3);clear hx HI1 HR1 HO1 hx3;go_wp2_with (refine qAa rfl 48 (.tmp 10) rfl p10 48 _ _ (by exact rfl) (by exact HI3.out.b10) Tryz.underlying48 rfl (by exact qBq) ?_);generalize (v2.alloc (.cells #[.int .i64 0,.int .i64 0,.int .i64 0] 116))=v3 at *;refine (zCg _ cr v3 (HE.out.ext HI3.out.ext) (zAo HR3.out HO3.out) (HT.out.ext HI3.out.ext)).mono ?_;rintro e v4 ⟨rfl,hx4⟩;have HI4:=gH (HI3.out.go hx4);have HR4:=gH (qAh HR3.out hx4);have HO4:=gH (qAh HO3.out hx4);clear hx4 HI3 HR3 HO3;(have hne:(cmdT.toList != cmdT.toList)=false:=by kernel_rfl)
       (go_wp2_with first | (refine qAa rfl 48 (.tmp 10) rfl p10 48 _ _ (by exact rfl) (by exact HI4.out.b10) Tryz.underlying48 rfl (by exact qBq) ?_) | (refine qAc rfl 48 (.tmp 2) _ rfl w.heap.size 48 _ _ (by exact rfl) (by exact rfl) (by exact HI4.out.b0) (by exact rfl) (by exact qBq) (by simp [Value.oneCell']) ?_));refine bodyPost_ret (v:=.tuple #[.agg (edC 4 1 0 0 ⟨#[]⟩ ⟨#[]⟩ (.slice (some ⟨gr,0,none⟩) 1 cr)),.int .i64 0]) ?_ rfl ⟨gr,cr,rfl,zLa HR4.out,zAo (qBi HR4.out HI4.out.b0 (by decide)) (qBi HO4.out HI4.out.b0 (by decide)),HI4.out.ext.put (Nat.le_refl _) _ _⟩;exact qAq (P:=Tryz.prog) Tryz.results14 (g:=w.heap.size) rfl (by exact HI4.out.b0.put _) Tryz.underlying48 rfl qBq
structure DSm (d:Doc):Prop where
 r:d.regs.length<=1000
 e:d.evs.length<=1000
 c:d.coms.length<=1000
def hisC (d:Doc) (h:DocH) (s:Doc) (k:DocH) (u r:Value):Array Value :=
 #[.string d.title,.string d.lang,.int .u8 d.rate,.bool d.drop,.int .i64 d.last,.slice h.ra h.rn h.rc,.slice h.ea h.en h.ec,.slice h.ca h.cn h.cc,
  .string s.title,.string s.lang,.int .u8 s.rate,.bool s.drop,.int .i64 s.last,.slice k.ra k.rn k.rc,.slice k.ea k.en k.ec,.slice k.ca k.cn k.cc,u,r]
theorem qVn:(Tryz.prog.info? 27).map (fun i=>(i.zero,i.size,i.bytes))=some (some (.agg qAl),8,120):=by kernel_rfl
def zOm (d:Doc) (L:Nat):List (Value->World->Prop):=[fun u wa=>∃ h1:DocH,u=Value.agg #[.string d.title,.string d.lang,.int .u8 d.rate,.bool d.drop,.int .i64 d.last,.slice h1.ra h1.rn h1.rc,.slice h1.ea h1.en h1.ec,.slice h1.ca h1.cn h1.cc]/\qAw wa L d h1,fun u wa=>∃ h1:DocH,u=Value.agg #[.string d.title,.string d.lang,.int .u8 d.rate,.bool d.drop,.int .i64 d.last,.slice h1.ra h1.rn h1.rc,.slice h1.ea h1.en h1.ec,.slice h1.ca h1.cn h1.cc]/\qAw wa L d h1,fun u wa=>∃ h1 h2:DocH,u=Value.agg (hisC d h1 d h2 (.slice none 0 0) (.slice none 0 0))/\qAw wa L d h1,fun u wa=>∃ (g:Nat) (h1 h2:DocH),u=Value.pointer (some ⟨g,0,none⟩)/\Blk wa g 128 (hisC d h1 d h2 (.slice none 0 0) (.slice none 0 0))/\qAw wa L d h1/\L<=g,fun u wa=>∃ (g:Nat) (h1 h2:DocH),u=Value.pointer (some ⟨g,0,none⟩)/\Blk wa g 128 (hisC d h1 d h2 (.slice none 0 0) (.slice none 0 0))/\qAw wa L d h1/\L<=g]
theorem qKm (d:Doc) (L:Nat):QSt (zOm d L):=by
 intro p hp u wa wb hx hh;simp only [zOm,List.mem_cons,List.not_mem_nil,or_false] at hp
 rcases hp with rfl | rfl | rfl | rfl | rfl
 . obtain ⟨h1,e,o⟩:=hh
   exact ⟨h1,e,o.ext hx⟩
 . obtain ⟨h1,e,o⟩:=hh
   exact ⟨h1,e,o.ext hx⟩
 . obtain ⟨h1,h2,e,o⟩:=hh
   exact ⟨h1,h2,e,o.ext hx⟩
 . obtain ⟨g,h1,h2,e,b,o,hl⟩:=hh
   exact ⟨g,h1,h2,e,b.ext hx,o.ext hx,hl⟩
 . obtain ⟨g,h1,h2,e,b,o,hl⟩:=hh
   exact ⟨g,h1,h2,e,b.ext hx,o.ext hx,hl⟩
theorem zOf (d:Doc) (h:DocH) (w:World) (hE:Env w) (hat:qCx w d h) (hf:qCf d) (hs:DSm d) (h0:d.err=0) :
 Calls Tryz.prog 13 #[.agg (d.cells h)] w fun e w'=>∃ g h1 h2,e = .returned (.tuple #[.pointer (some ⟨g,0,none⟩),.int .i64 0]) /\
  Blk w' g 128 (hisC d h1 d h2 (.slice none 0 0) (.slice none 0 0))/\qAw w' w.heap.size d h1/\w.heap.size<=g/\Ext w w':=by
 have HX:=gH ((Ext.refl w).alloc (.cells (d.cells h) 27));have HB:=gH (Blk.new w 27 (d.cells h));have hl1:h.rn=d.regs.length:=hat.regs.len.symm;have hl2:h.en=d.evs.length:=hat.evs.len.symm;have hl3:h.cn=d.coms.length:=hat.coms.len.symm;have hs1:=hs.r;have hs2:=hs.e;have hs3:=hs.c;have HCk:=gH (qDb d h _ (hE.ext HX.out) (hat.ext HX.out) hf (by omega) (by omega) (by omega));rw [h0] at HCk;have HCl:=gH (fun w' (hx:Ext w w')=>qGf d h w' (hat.ext hx) (by omega) (by omega) (by omega));unfold qJh at HCl;unfold Doc.cells at *;clear hE hat hf hs hl1 hl2 hl3 hs1 hs2 hs3;go_enter Tryz.func13,Tryz.ntmps13;go_wp2_with (refine qAa rfl 27 (.tmp 1) rfl w.heap.size 27 _ _ (by exact rfl) (by exact HB.out) Tryz.underlying27 rfl (by exact qAb) ?_);refine HCk.out.mono ?_;rintro en w2 ⟨rfl,hx2⟩;have HX2:=gH (HX.out.trans hx2);have HB2:=gH (HB.out.ext hx2);clear hx2 HX HB HCk;go_wp2_with fail;have hw2:w.heap.size<=w2.heap.size:=HX2.out.size
 refine qAr [some 10,some 11,some 12,some 13,some 14,some 15,some 2,some 3] [[],[0],[],[2,1],[1,3],[4],[5,3,0,1,2,3,4,5],[6,0,1,2,3,4,5,6]] [1,3,4,5,6] [.agg #[.string d.title,.string d.lang,.int .u8 d.rate,.bool d.drop,.int .i64 d.last,.slice h.ra h.rn h.rc,.slice h.ea h.en h.ec,.slice h.ca h.cn h.cc],undef,.agg #[.string d.title,.string d.lang,.int .u8 d.rate,.bool d.drop,.int .i64 d.last,.slice h.ra h.rn h.rc,.slice h.ea h.en h.ec,.slice h.ca h.cn h.cc],undef,undef,undef,undef,.int .i64 0] (QJ (zOm d w.heap.size) w2) (by kernel_rfl) (by kernel_rfl) (by kernel_rfl) (by kernel_rfl) (by kernel_rfl) (by kernel_rfl) (by kernel_rfl) (by decide) ?_ ?_ ?_ ?_
 . exact QJ.start _ w2
 . intro i o ho hc a w' us K' hJ hF hlim hk
   match i,ho with
   | 0,ho =>
    simp only [gA,gB,gC,gD] at ho;subst ho;have e1:=hF.old 1 (.pointer (some ⟨w.heap.size,0,none⟩)) rfl rfl;exact qBf 27 (.tmp 1) rfl _ 27 _ _ e1 (HB2.out.ext hJ.ext) Tryz.underlying27 rfl (by exact qAb) hk
   | 1,ho=>simp at hc
   | 2,ho =>
    simp only [gA,gB,gC,gD] at ho;subst ho;have e1:=hF.old 1 (.pointer (some ⟨w.heap.size,0,none⟩)) rfl rfl;exact qBf 27 (.tmp 1) rfl _ 27 _ _ e1 (HB2.out.ext hJ.ext) Tryz.underlying27 rfl (by exact qAb) hk
   | 3,ho | 4,ho | 5,ho | 6,ho=>simp at hc
   | 7,ho =>
    simp only [gA,gB,gC,gD] at ho;subst ho;clear hF hlim hJ;go_simp;exact hk
   | i+8,ho=>simp at ho
 . intro p c' o hp ho a w' us K' hl hJ hF hk
   match p,hp with
   | 0,hp =>
    (obtain rfl:1=c':=by simpa using hp);simp only [gA,gB,gC,gD] at ho;subst ho;obtain rfl:us=[]:=List.eq_nil_of_length_eq_zero hl;have e10:=hF.pure 0 10 (.agg #[.string d.title,.string d.lang,.int .u8 d.rate,.bool d.drop,.int .i64 d.last,.slice h.ra h.rn h.rc,.slice h.ea h.en h.ec,.slice h.ca h.cn h.cc]) rfl rfl rfl rfl;refine qDl rfl e10 Tryz.call37 (HCl.out w' (HX2.out.trans hJ.ext)) ?_;rintro en w5 ⟨h1,rfl,ho,hx5⟩;exact ⟨_,rfl,hk _ w5 (hJ.push (qKm d _) hx5 (fun p hp=>by cases hp;exact ⟨h1,rfl,ho.le (Nat.le_trans hw2 hJ.ext.size)⟩))⟩
   | 1,hp =>
    (obtain rfl:3=c':=by simpa using hp);simp only [gA,gB,gC,gD] at ho;subst ho;obtain ⟨u0,rfl⟩:=qBv hl;have e12:=hF.pure 2 12 (.agg #[.string d.title,.string d.lang,.int .u8 d.rate,.bool d.drop,.int .i64 d.last,.slice h.ra h.rn h.rc,.slice h.ea h.en h.ec,.slice h.ca h.cn h.cc]) rfl rfl rfl rfl;refine qDl rfl e12 Tryz.call37 (HCl.out w' (HX2.out.trans hJ.ext)) ?_;rintro en w5 ⟨h1,rfl,ho,hx5⟩;exact ⟨_,rfl,hk _ w5 (hJ.push (qKm d _) hx5 (fun p hp=>by cases hp;exact ⟨h1,rfl,ho.le (Nat.le_trans hw2 hJ.ext.size)⟩))⟩
   | 2,hp =>
    (obtain rfl:4=c':=by simpa using hp);simp only [gA,gB,gC,gD] at ho;subst ho;obtain ⟨u0,u1,rfl⟩:=qCm hl;obtain ⟨h1,rfl,ho1⟩:=hJ.val 0 u0 _ rfl rfl;obtain ⟨h2,rfl,ho2⟩:=hJ.val 1 u1 _ rfl rfl;have e11:=hF.link 0 1 11 _ rfl rfl rfl rfl;have e13:=hF.link 1 3 13 _ rfl rfl rfl rfl;have HK:=gH (hk (.agg (hisC d h1 d h2 (.slice none 0 0) (.slice none 0 0))) w' (hJ.push (qKm d _) (Ext.refl w') (fun p hp=>by cases hp;exact ⟨h1,h2,rfl,ho1⟩)));unfold hisC at HK;simp [Act.eval] at e11 e13;clear hk hF hJ;go_simp;exact HK.out
   | 3,hp =>
    (obtain rfl:5=c':=by simpa using hp);simp only [gA,gB,gC,gD] at ho;subst ho;obtain ⟨u0,u1,u2,rfl⟩:=qCn hl;obtain ⟨h1,h2,rfl,ho1⟩:=hJ.val 2 u2 _ rfl rfl;have e14:=hF.link 2 4 14 _ rfl rfl rfl rfl;have HK:=gH (hk (.pointer (some ⟨w'.heap.size,0,none⟩)) (w'.alloc (.cells (hisC d h1 d h2 (.slice none 0 0) (.slice none 0 0)) 128)) (hJ.push (qKm d _) ((Ext.refl w').alloc _) (fun p hp=>by cases hp;exact ⟨_,h1,h2,rfl,Blk.new w' _ _,ho1.ext ((Ext.refl w').alloc _),Nat.le_trans hw2 hJ.ext.size⟩)));unfold hisC at HK e14;simp [Act.eval] at e14;clear hk hF hJ;go_simp;exact HK.out
   | 4,hp =>
    (obtain rfl:6=c':=by simpa using hp);simp only [gA,gB,gC,gD] at ho;subst ho;obtain ⟨u0,u1,u2,u3,rfl⟩:=qEm hl;obtain ⟨g,h1,h2,rfl,hb,ho,hl⟩:=hJ.val 3 u3 _ rfl rfl;have e15:=hF.link 3 5 15 _ rfl rfl rfl rfl;have HK:=gH (hk (.pointer (some ⟨g,0,none⟩)) w' (hJ.push (qKm d _) (Ext.refl w') (fun p hp=>by cases hp;exact ⟨g,h1,h2,rfl,hb,ho,hl⟩)));simp [Act.eval] at e15;clear hk hF hJ;go_simp;exact HK.out
   | p+5,hp=>simp at hp
 intro us w3 hl hJ;obtain ⟨u0,u1,u2,u3,u4,rfl⟩:=qHz hl
 first | (rename_i hK;refine hK _ _ ?_;clear hK) | (rename_i hK hK_1;refine hK _ _ ?_;clear hK) | (rename_i hK hK_1 hK_2;refine hK _ _ ?_;clear hK) | (rename_i hK hK_1 hK_2 hK_3;refine hK _ _ ?_;clear hK)
 generalize hL:qCd _ _ _ _=L;obtain rfl:L=[(10,.agg #[.string d.title,.string d.lang,.int .u8 d.rate,.bool d.drop,.int .i64 d.last,.slice h.ra h.rn h.rc,.slice h.ea h.en h.ec,.slice h.ca h.cn h.cc]),(11,u0),(12,.agg #[.string d.title,.string d.lang,.int .u8 d.rate,.bool d.drop,.int .i64 d.last,.slice h.ra h.rn h.rc,.slice h.ea h.en h.ec,.slice h.ca h.cn h.cc]),(13,u1),(14,u2),(15,u3),(2,u4),(3,.int .i64 0)]:=hL.symm.trans (by kernel_rfl);clear hL hl;simp only [Act.put,List.foldl_cons,List.foldl_nil,List.setIfInBounds_toArray,List.set_cons_zero,List.set_cons_succ];obtain ⟨g,h1,h2,rfl,hb,ho,hl⟩:=hJ.val 4 u4 _ rfl rfl;have hx3:=HX2.out.trans hJ.ext;clear hJ;go_wp2_with fail;go_ret2;exact ⟨g,h1,h2,rfl,hb,ho,hl,hx3⟩
theorem zGd (d s:Doc) (h k:DocH) (u r:Value) (g:Nat) (w:World) (hB:Blk w g 128 (hisC d h s k u r)) (hat:qCx w d h) (hs:DSm d) :
 Calls Tryz.prog 17 #[.pointer (some ⟨g,0,none⟩)] w (qJh d w):=by
 have HX:=gH ((Ext.refl w).alloc (.cells qAl 27));have HZ:=gH (Blk.new w 27 qAl);have HB:=gH (hB.ext HX.out);have hl1:h.rn=d.regs.length:=hat.regs.len.symm;have hl2:h.en=d.evs.length:=hat.evs.len.symm;have hl3:h.cn=d.coms.length:=hat.coms.len.symm;have hs1:=hs.r;have hs2:=hs.e;have hs3:=hs.c;have HCl:=gH (qGf d h _ (hat.ext HX.out) (by omega) (by omega) (by omega));unfold qJh at HCl;unfold Doc.cells at HCl;unfold qAl at HX HZ HB HCl;unfold hisC at HB;clear hB hat hs hl1 hl2 hl3 hs1 hs2 hs3;go_enter Tryz.func17,Tryz.ntmps17;go_wp2_with (refine qCj rfl 27 _ rfl g 0 128 _ #[.string d.title,.string d.lang,.int .u8 d.rate,.bool d.drop,.int .i64 d.last,.slice h.ra h.rn h.rc,.slice h.ea h.en h.ec,.slice h.ca h.cn h.cc] _ (by exact rfl) (by exact HB.out) (by exact rfl) Tryz.underlying27 rfl (by exact qAb) ?_);refine HCl.out.mono ?_;rintro en w2 ⟨h1,rfl,ho,hx⟩;have HX2:=gH (HX.out.trans hx);have HZ2:=gH (HZ.out.ext hx);have HO2:=gH (ho.le (by simp:w.heap.size<=_));clear hx HX HZ HB HCl ho;go_wp2_with (refine qAc rfl 27 (.tmp 2) _ rfl w.heap.size 27 _ _ (by exact rfl) (by exact rfl) (by exact HZ2.out) (by exact rfl) (by exact qAb) (by simp [Value.oneCell']) ?_);refine bodyPost_ret (v:=.agg (d.cells h1)) ?_ rfl ⟨h1,rfl,HO2.out.put HZ2.out _,HX2.out.put (Nat.le_refl _) _ _⟩;exact qBz (P:=Tryz.prog) Tryz.results17 (g:=w.heap.size) rfl (by exact HZ2.out.put _) Tryz.underlying27 rfl qAb
theorem zOg (d0 d s:Doc) (h0 h k:DocH) (g:Nat) (w:World) (hB:Blk w g 128 (hisC d0 h0 s k (.slice none 0 0) (.slice none 0 0))) :
 Calls Tryz.prog 76 #[.pointer (some ⟨g,0,none⟩),.agg (d.cells h)] w fun e w'=>e = .returned (.tuple #[])/\∃ gu cu w1,Ext w w1/\Blk w1 g 128 (hisC d0 h0 s k (.slice none 0 0) (.slice none 0 0)) /\
  w'=putB w1 g 128 (hisC d h s k (.slice (some ⟨gu,0,none⟩) 1 cu) (.slice none 0 0))/\w1.ownsRow w.heap.size 27 8 (.slice (some ⟨gu,0,none⟩) 1 cu) 1 (d0.cells h0).toList:=by
 have HX:=gH ((Ext.refl w).alloc (.cells (d.cells h) 27));have HD:=gH (Blk.new w 27 (d.cells h));have HB:=gH (hB.ext HX.out);clear hB;unfold Doc.cells at *;unfold hisC at *;go_enter Tryz.func76,Tryz.ntmps76;go_wp2_with fail;obtain ⟨W1,hW1⟩:∃ W1,W1=w.alloc (.cells #[.string d.title,.string d.lang,.int .u8 d.rate,.bool d.drop,.int .i64 d.last,.slice h.ra h.rn h.rc,.slice h.ea h.en h.ec,.slice h.ca h.cn h.cc] 27):=⟨_,rfl⟩;rw [← hW1] at HX HD HB ⊢;have hsz:w.heap.size<=W1.heap.size:=HX.out.size;clear hW1
 refine qDo [some 4,some 5,some 6,some 7,some 8,some 9,some 10,some 11,some 12,some 13,some 14,some 15,some 16,none] [[],[],[1],[2],[3],[],[5],[6],[7],[8],[4,9],[0,0,1,2,3,4,5,6,7,8,9,10],[11,0,1,2,3,4,5,6,7,8,9,10],[12,10,10,0,1,2,3,4,5,6,7,8,9,10]] [9,10,13] [.pointer (some ⟨g,0,none⟩),.pointer (some ⟨g,0,none⟩),.pointer (some ⟨g,0,none⟩),.pointer (some ⟨g,16,none⟩),.slice none 0 0,.pointer (some ⟨g,0,none⟩),.pointer (some ⟨g,0,none⟩),.pointer (some ⟨g,0,none⟩),.agg #[.string d0.title,.string d0.lang,.int .u8 d0.rate,.bool d0.drop,.int .i64 d0.last,.slice h0.ra h0.rn h0.rc,.slice h0.ea h0.en h0.ec,.slice h0.ca h0.cn h0.cc],undef,undef,.pointer (some ⟨g,0,none⟩),.pointer (some ⟨g,16,none⟩),undef] (ApQ 27 8 #[.string d0.title,.string d0.lang,.int .u8 d0.rate,.bool d0.drop,.int .i64 d0.last,.slice h0.ra h0.rn h0.rc,.slice h0.ea h0.en h0.ec,.slice h0.ca h0.cn h0.cc] w.heap.size (.slice none 0 0) 0 ([]) (⟨g,16,none⟩) W1) (by kernel_rfl) (by kernel_rfl) (by kernel_rfl) (by kernel_rfl) (by kernel_rfl) (by kernel_rfl) (by kernel_rfl) (by decide) ?_ ?_ ?_ ?_
 . exact ApQ.start _
 . intro i o ho hc a w' us K' hJ hF hlim hk
   match i,ho with
   | 0,ho | 1,ho =>
    simp only [gA,gB,gC,gD] at ho;subst ho;have e0:=hF.old 0 (.pointer (some ⟨g,0,none⟩)) rfl rfl;simp only [Act.eval] at e0;clear hF hlim hJ;go_simp;exact hk
   | 2,ho =>
    simp only [gA,gB,gC,gD] at ho;subst ho;have e5:=hF.pure 1 5 (.pointer (some ⟨g,0,none⟩)) rfl rfl rfl rfl;simp only [Act.eval] at e5;clear hF hlim hJ;go_simp;exact hk
   | 3,ho =>
    simp only [gA,gB,gC,gD] at ho;subst ho;have e6:=hF.pure 2 6 (.pointer (some ⟨g,0,none⟩)) rfl rfl rfl rfl;simp only [Act.eval] at e6;clear hF hlim hJ;go_simp;exact hk
   | 4,ho =>
    simp only [gA,gB,gC,gD] at ho;subst ho;have e7:=hF.pure 3 7 (.pointer (some ⟨g,16,none⟩)) rfl rfl rfl rfl;have hcl:=(qGa HB.out (hJ.kb (hlim 2 13 rfl (by kernel_rfl)) 128 (by decide))).cell 16;simp only [gA,gB,gC] at hcl;simp only [Act.eval] at e7;clear hF hlim hJ;go_simp;exact hk
   | 5,ho =>
    simp only [gA,gB,gC,gD] at ho;subst ho;have e0:=hF.old 0 (.pointer (some ⟨g,0,none⟩)) rfl rfl;simp only [Act.eval] at e0;clear hF hlim hJ;go_simp;exact hk
   | 6,ho =>
    simp only [gA,gB,gC,gD] at ho;subst ho;have e9:=hF.pure 5 9 (.pointer (some ⟨g,0,none⟩)) rfl rfl rfl rfl;simp only [Act.eval] at e9;clear hF hlim hJ;go_simp;exact hk
   | 7,ho =>
    simp only [gA,gB,gC,gD] at ho;subst ho;have e10:=hF.pure 6 10 (.pointer (some ⟨g,0,none⟩)) rfl rfl rfl rfl;simp only [Act.eval] at e10;clear hF hlim hJ;go_simp;exact hk
   | 8,ho =>
    simp only [gA,gB,gC,gD] at ho;subst ho;have e11:=hF.pure 7 11 (.pointer (some ⟨g,0,none⟩)) rfl rfl rfl rfl;exact qFs 27 _ rfl g 0 128 _ #[.string d0.title,.string d0.lang,.int .u8 d0.rate,.bool d0.drop,.int .i64 d0.last,.slice h0.ra h0.rn h0.rc,.slice h0.ea h0.en h0.ec,.slice h0.ca h0.cn h0.cc] _ e11 (qGa HB.out (hJ.kb (hlim 2 13 rfl (by kernel_rfl)) 128 (by decide))) (by exact rfl) Tryz.underlying27 rfl (by exact qAb) hk
   | 9,ho | 10,ho=>simp at hc
   | 11,ho =>
    simp only [gA,gB,gC,gD] at ho;subst ho;have e4:=hF.pure 0 4 (.pointer (some ⟨g,0,none⟩)) rfl rfl rfl rfl;simp only [Act.eval] at e4;clear hF hlim hJ;go_simp;exact hk
   | 12,ho =>
    simp only [gA,gB,gC,gD] at ho;subst ho;have e15:=hF.pure 11 15 (.pointer (some ⟨g,0,none⟩)) rfl rfl rfl rfl;simp only [Act.eval] at e15;clear hF hlim hJ;go_simp;exact hk
   | 13,ho=>simp at hc
   | i+14,ho=>simp at ho
 . intro p c' o hp ho a w' us K' hl hJ hF hk
   match p,hp with
   | 0,hp =>
    (obtain rfl:9=c':=by simpa using hp);simp only [gA,gB,gC,gD] at ho;subst ho;obtain rfl:us=[]:=List.eq_nil_of_length_eq_zero hl;have e12:=hF.pure 8 12 (.agg #[.string d0.title,.string d0.lang,.int .u8 d0.rate,.bool d0.drop,.int .i64 d0.last,.slice h0.ra h0.rn h0.rc,.slice h0.ea h0.en h0.ec,.slice h0.ca h0.cn h0.cc]) rfl rfl rfl rfl;have HK:=gH (hk (.slice (some ⟨w'.heap.size,0,none⟩) 1 1) (w'.alloc (.cells #[.string d0.title,.string d0.lang,.int .u8 d0.rate,.bool d0.drop,.int .i64 d0.last,.slice h0.ra h0.rn h0.rc,.slice h0.ea h0.en h0.ec,.slice h0.ca h0.cn h0.cc] 27)) hJ.build);simp [Act.eval] at e12;clear hk hF hJ;go_simp;exact HK.out
   | 1,hp =>
    (obtain rfl:10=c':=by simpa using hp);simp only [gA,gB,gC,gD] at ho;subst ho;obtain ⟨u0,rfl⟩:=qBv hl;obtain ⟨⟨gu,rfl,hBu⟩,hxu⟩:=hJ.st;have e8:=hF.pure 4 8 (.slice none 0 0) rfl rfl rfl rfl;have e13:=hF.link 0 9 13 _ rfl rfl rfl rfl;exact qFq (.tmp 8) (.tmp 13) 126 rfl qVn Tryz.underlying126 rfl (by decide) (qAh (qFd W1 w.heap.size 27 8) hxu) e8 gu _ e13 hBu rfl (by simp [Value.oneCell']) (by first | omega | simp) (by first | (simp [maxLen];done) | (simp [maxLen];omega)) (by have:=hxu.size;omega) (fun v' wz hoz hgz hlz=>hk v' wz (hJ.app (qAt (qAh (qFd W1 w.heap.size 27 8) hxu)) hgz hoz))
   | 2,hp =>
    (obtain rfl:13=c':=by simpa using hp);simp only [gA,gB,gC,gD] at ho;subst ho;obtain ⟨u0,u1,rfl⟩:=qCm hl;obtain ⟨wq,hxq,hgq,hoq⟩:=hJ.st;obtain ⟨gv,cv,rfl,-,-⟩:=qBt hoq (by omega);have e16:=hF.pure 12 16 (.pointer (some ⟨g,16,none⟩)) rfl rfl rfl rfl;have e14:=hF.link 1 10 14 _ rfl rfl rfl rfl;have hbk:=qGa HB.out (hJ.kb (by simp) 128 (by decide));have hcl:=hbk.cell 16;simp only [gA,gB,gC] at hcl;have hfz:=hbk.frozen 16;have HK:=gH (hk undef _ (hJ.store (u2:=undef)));simp only [Nat.zero_add] at HK;simp [Act.eval] at e16 e14;clear hk hF hJ;go_simp;exact HK.out
   | p+3,hp=>simp at hp
 intro us Wf hl hJ;obtain ⟨u0,u1,u2,rfl⟩:=qCn hl;generalize hL:qCd _ _ _ _=L;obtain rfl:L=[(4,.pointer (some ⟨g,0,none⟩)),(5,.pointer (some ⟨g,0,none⟩)),(6,.pointer (some ⟨g,0,none⟩)),(7,.pointer (some ⟨g,16,none⟩)),(8,.slice none 0 0),(9,.pointer (some ⟨g,0,none⟩)),(10,.pointer (some ⟨g,0,none⟩)),(11,.pointer (some ⟨g,0,none⟩)),(12,.agg #[.string d0.title,.string d0.lang,.int .u8 d0.rate,.bool d0.drop,.int .i64 d0.last,.slice h0.ra h0.rn h0.rc,.slice h0.ea h0.en h0.ec,.slice h0.ca h0.cn h0.cc]),(13,u0),(14,u1),(15,.pointer (some ⟨g,0,none⟩)),(16,.pointer (some ⟨g,16,none⟩))]:=hL.symm.trans (by kernel_rfl);clear hL hl;simp only [Act.put,List.foldl_cons,List.foldl_nil,List.setIfInBounds_toArray,List.set_cons_zero,List.set_cons_succ];obtain ⟨w5,w6,hx5,hg6,ho6,rfl⟩:=hJ.st;obtain ⟨gu,cu,rfl,-,-⟩:=qBt ho6 (by omega);have hx6:=hx5.trans ((Ext.refl w5).grown hg6 (fun q hq=>by simp [Value.ownBlock] at hq));have HX6:=gH (HX.out.trans hx6);have HB6:=gH (HB.out.ext hx6);have HD6:=gH (HD.out.ext hx6);have HO6:=gH ho6;clear hx5 hg6 ho6 hJ hx6 HX HB HD hsz
 have hsq:w6.setCell ⟨g,16,none⟩ (.slice (some ⟨gu,0,none⟩) (0+1) cu)=putB w6 g 128 #[.string d0.title,.string d0.lang,.int .u8 d0.rate,.bool d0.drop,.int .i64 d0.last,.slice h0.ra h0.rn h0.rc,.slice h0.ea h0.en h0.ec,.slice h0.ca h0.cn h0.cc,.string s.title,.string s.lang,.int .u8 s.rate,.bool s.drop,.int .i64 s.last,.slice k.ra k.rn k.rc,.slice k.ea k.en k.ec,.slice k.ca k.cn k.cc,.slice (some ⟨gu,0,none⟩) 1 cu,.slice none 0 0]:=qAd HB6.out 16 _;rw [hsq];clear hsq;have HB7:=gH (HB6.out.put #[.string d0.title,.string d0.lang,.int .u8 d0.rate,.bool d0.drop,.int .i64 d0.last,.slice h0.ra h0.rn h0.rc,.slice h0.ea h0.en h0.ec,.slice h0.ca h0.cn h0.cc,.string s.title,.string s.lang,.int .u8 s.rate,.bool s.drop,.int .i64 s.last,.slice k.ra k.rn k.rc,.slice k.ea k.en k.ec,.slice k.ca k.cn k.cc,.slice (some ⟨gu,0,none⟩) 1 cu,.slice none 0 0]);have HD7:=gH (HD6.out.put_other (g':=g) (t':=128) (fun e=>qBc.ne HB6.out.typed HD6.out.typed (by decide) e) #[.string d0.title,.string d0.lang,.int .u8 d0.rate,.bool d0.drop,.int .i64 d0.last,.slice h0.ra h0.rn h0.rc,.slice h0.ea h0.en h0.ec,.slice h0.ca h0.cn h0.cc,.string s.title,.string s.lang,.int .u8 s.rate,.bool s.drop,.int .i64 s.last,.slice k.ra k.rn k.rc,.slice k.ea k.en k.ec,.slice k.ca k.cn k.cc,.slice (some ⟨gu,0,none⟩) 1 cu,.slice none 0 0])
 obtain ⟨W7,hW7⟩:∃ W7,W7=putB w6 g 128 #[.string d0.title,.string d0.lang,.int .u8 d0.rate,.bool d0.drop,.int .i64 d0.last,.slice h0.ra h0.rn h0.rc,.slice h0.ea h0.en h0.ec,.slice h0.ca h0.cn h0.cc,.string s.title,.string s.lang,.int .u8 s.rate,.bool s.drop,.int .i64 s.last,.slice k.ra k.rn k.rc,.slice k.ea k.en k.ec,.slice k.ca k.cn k.cc,.slice (some ⟨gu,0,none⟩) 1 cu,.slice none 0 0]:=⟨_,rfl⟩;rw [← hW7] at HB7 HD7 ⊢;have HW7:=gH hW7;clear hW7;have h16:=HB7.out.cell 16;have h17:=HB7.out.cell 17;have f17:=HB7.out.frozen 17;simp only [gA,gB,gC] at h16 h17;have hsr:W7.setCell ⟨g,17,none⟩ (.slice none 0 0)=W7:=(qAd HB7.out 17 _).trans (qEv HB7.out)
 go_wp2_with (first | (refine qAa rfl 27 (.tmp 3) rfl w.heap.size 27 _ _ (by exact rfl) (by exact HD7.out) Tryz.underlying27 rfl (by exact qAb) ?_) | (refine qJg rfl 27 _ _ rfl g 0 128 _ #[.string d.title,.string d.lang,.int .u8 d.rate,.bool d.drop,.int .i64 d.last,.slice h.ra h.rn h.rc,.slice h.ea h.en h.ec,.slice h.ca h.cn h.cc] #[.string d.title,.string d.lang,.int .u8 d.rate,.bool d.drop,.int .i64 d.last,.slice h.ra h.rn h.rc,.slice h.ea h.en h.ec,.slice h.ca h.cn h.cc,.string s.title,.string s.lang,.int .u8 s.rate,.bool s.drop,.int .i64 s.last,.slice k.ra k.rn k.rc,.slice k.ea k.en k.ec,.slice k.ca k.cn k.cc,.slice (some ⟨gu,0,none⟩) 1 cu,.slice none 0 0] [] #[.string d0.title,.string d0.lang,.int .u8 d0.rate,.bool d0.drop,.int .i64 d0.last,.slice h0.ra h0.rn h0.rc,.slice h0.ea h0.en h0.ec,.slice h0.ca h0.cn h0.cc].toList [.string s.title,.string s.lang,.int .u8 s.rate,.bool s.drop,.int .i64 s.last,.slice k.ra k.rn k.rc,.slice k.ea k.en k.ec,.slice k.ca k.cn k.cc,.slice (some ⟨gu,0,none⟩) 1 cu,.slice none 0 0] (by exact rfl) (by exact rfl) (by exact HB7.out) (by exact rfl) rfl (by exact rfl) (by exact qAb) (by simp [Value.oneCell']) (by exact rfl) ?_));rw [HW7.out,qBa];go_end0;exact ⟨rfl,gu,cu,w6,HX6.out,HB6.out,rfl,HO6.out⟩
end
end Go.Proofs.YtneffpbodfjceaaGreatDoor