/- Texts laid together. -/
import Derived.Test.YtneffpbodfjceaaGreatDoorTa04
import Derived.Maps.Own
import Derived.Maps.OwnOps
import Derived.Maps.OwnSet
import Derived.Maps.Views
import Derived.Orders
set_option linter.unusedVariables false
set_option linter.unusedSimpArgs false
set_option maxRecDepth 100000
set_option maxHeartbeats 16000000
namespace Go.Proofs.YtneffpbodfjceaaGreatDoor
section
open Go.RowKit
def orI (a b:Int):Int:=if a≠0 then a else b
theorem zMd (a b:Int) (g c:Nat) (w:World) (h0:w.cell? ⟨g,0,none⟩=some (.int .i64 a)) (h1:w.cell? ⟨g,1,none⟩=some (.int .i64 b)) :
 Calls Tryz.prog 184 #[.slice (some ⟨g,0,none⟩) 2 c] w fun e w'=>e = .returned (.int .i64 (orI a b))/\w=w':=by
 go_enter Tryz.func184,Tryz.ntmps184;go_wp2;(refine wp_loop_rounds 3 ?_;rw [rounds_succ])
 by_cases ha:(a != 0)=true
 . go_wp2
   go_ret;exact ⟨qAf (by unfold orI;simp at ha;simp [ha]),rfl⟩
 . have ha':(a != 0)=false:=by simpa using ha
   go_wp2;rw [rounds_succ]
   by_cases hb:(b != 0)=true
   . go_wp2
     go_ret;exact ⟨qAf (by unfold orI;simp at ha';simp [ha']),rfl⟩
   . have hb':(b != 0)=false:=by simpa using hb
     go_wp2;rw [rounds_succ];go_wp2;go_ret;exact ⟨qAf (by unfold orI;simp at ha' hb';simp [ha',hb']),rfl⟩
def qDw (x y:Ev):Bool:=decide (x.inn<y.inn\/x.inn=y.inn/\x.id<y.id)
theorem zOj (x y:Ev):decide (orI (cmpI x.inn y.inn) (cmpI x.id y.id)<0)=qDw x y:=by
 unfold qDw orI cmpI
 congr 1
 apply propext
 repeat' split
 all_goals omega
theorem zJg (x y:Ev) (A:Option Addr) (n c:Nat) (B:Option Addr) (m d:Nat) (w:World) :
 Calls Tryz.prog 100 #[.agg (x.cells A n c),.agg (y.cells B m d)] w fun e w'=>e = .returned (.bool (qDw x y))/\Ext w w':=by
 have hx:=((Ext.refl w).alloc (.cells (x.cells A n c) 54)).alloc (.cells (y.cells B m d) 54);have HX:=gH hx;clear hx;unfold Ev.cells at HX ⊢;go_enter Tryz.func100,Tryz.ntmps100;go_wp2_with fail;go_region_held3 (fun w'=>w'.cell? ⟨w.heap.size,0,none⟩=some (.int .i64 x.id)/\w'.cell? ⟨w.heap.size,1,none⟩=some (.int .i64 x.inn)/\w'.cell? ⟨w.heap.size+1,0,none⟩=some (.int .i64 y.id)/\w'.cell? ⟨w.heap.size+1,1,none⟩=some (.int .i64 y.inn)) (go_keep) (first | (go_at_call 185;refine (qNb _ _ _).mono ?_;rintro e w1 ⟨rfl,rfl⟩) | (go_at_call 184;refine (zMd (cmpI x.inn y.inn) (cmpI x.id y.id) _ _ _ (by exact (Blk.drew (Blk.new' (by simp))).cell 0) (by exact (Blk.drew (Blk.new' (by simp))).cell 1)).mono ?_;rintro e w1 ⟨rfl,rfl⟩));go_wp2_with fail;go_ret;exact ⟨qBh (zOj x y),(HX.out.drew).alloc _⟩
def qJe (r:Int):Int:=if r=1 then 5005 else if r=2 then 5000 else if r=3 then 4800 else if r=4 then 4004 else if r=5 then 4000 else if r=6 then 2400 else if r=7 then 2002 else 0
def rNom (r:Int):Int:=if r=1 then 24 else if r=2 then 24 else if r=3 then 25 else if r=4 then 30 else if r=5 then 30 else if r=6 then 50 else if r=7 then 60 else 0
def qMj (r:Int):Bool:=decide (r=4\/r=7)
def qIa (r:Int):ByteArray:=if r=1 then ⟨#[50,51,46,57,55,54]⟩ else if r=2 then ⟨#[50,52]⟩ else if r=3 then ⟨#[50,53]⟩ else if r=4 then ⟨#[50,57,46,57,55]⟩ else if r=5 then ⟨#[51,48]⟩ else if r=6 then ⟨#[53,48]⟩ else if r=7 then ⟨#[53,57,46,57,52]⟩ else ⟨#[]⟩
def rOk (r:Int):Bool:=decide (1<=r/\r<=7)
def qIc (r:Int):Value:=.agg #[.string (qIa r),.int .i64 (qJe r),.int .i64 (rNom r),.bool (qMj r)]
theorem zDb {r:Int} (h0:0<=r):(r=0\/r=1\/r=2\/r=3\/r=4\/r=5\/r=6\/r=7)\/8<=r:=by omega
theorem qYr {r:Int} (h:8<=r):qIc r = .agg #[.string ⟨#[]⟩,.int .i64 0,.int .i64 0,.bool false]:=by
 unfold qIc qIa qJe rNom qMj;simp only [show ¬ r=1 by omega,show ¬ r=2 by omega,show ¬ r=3 by omega,show ¬ r=4 by omega,show ¬ r=5 by omega,show ¬ r=6 by omega,show ¬ r=7 by omega,if_false,or_self];rfl
def zHs:Array Value:=#[.string ⟨#[]⟩,.int .i64 0,.int .i64 0,.bool false,.string ⟨#[50,51,46,57,55,54]⟩,.int .i64 5005,.int .i64 24,.bool false,.string ⟨#[50,52]⟩,.int .i64 5000,.int .i64 24,.bool false,
 .string ⟨#[50,53]⟩,.int .i64 4800,.int .i64 25,.bool false,.string ⟨#[50,57,46,57,55]⟩,.int .i64 4004,.int .i64 30,.bool true,.string ⟨#[51,48]⟩,.int .i64 4000,.int .i64 30,.bool false,
 .string ⟨#[53,48]⟩,.int .i64 2400,.int .i64 50,.bool false,.string ⟨#[53,57,46,57,52]⟩,.int .i64 2002,.int .i64 60,.bool true]
def zLh:Array Value:=#[.string ⟨#[]⟩,.int .i64 0,.int .i64 0,.bool false]
theorem zLm:(Tryz.prog.info? 372).map (·.size)=some 32:=by kernel_rfl
theorem qIh:(Tryz.prog.info? 341).map (·.size)=some 4:=by kernel_rfl
theorem zRd (r:Int) (h0:0<=r) (h7:r<=7):∀ j v,[Value.string (qIa r),.int .i64 (qJe r),.int .i64 (rNom r),.bool (qMj r)][j]?=some v->zHs[r.toNat*4+j]?=some v:=by
 have:r=0\/r=1\/r=2\/r=3\/r=4\/r=5\/r=6\/r=7:=by omega
 rcases this with rfl | rfl | rfl | rfl | rfl | rfl | rfl | rfl
 all_goals
  intro j v
  match j with
  | 0=>exact id
  | 1=>exact id
  | 2=>exact id
  | 3=>exact id
  | j+4=>intro h;simp at h
theorem zHe (r:Int) (w:World) (h0:0<=r) (h1:r<=255):Calls Tryz.prog 243 #[.int .u8 r] w fun e w'=>e = .returned (qIc r)/\Ext w w':=by
 have HT:=gH (zRd r h0);have HB:=gH (@qYr r);go_enter Tryz.func243,Tryz.ntmps243;go_upto_region 1 with fail
 go_cut [3] (fun s3 wr=>s3=Value.pointer (some ⟨w.heap.size+1,0,none⟩)/\Ext w wr/\Blk wr w.heap.size 341 zLh/\Blk wr (w.heap.size+1) 372 zHs)
 case first =>
  go_wp2_with (refine qAc rfl 372 (.tmp 3) (.tmp 12) rfl (w.heap.size+1) 372 _ _ (by exact rfl) (by exact rfl) (by exact Blk.new' (by simp)) (by exact rfl) (by exact zLm) (by simp [Value.oneCell']) ?_);go_meet
  case rel=>exact ⟨rfl,Ext.put (((Ext.refl w).alloc _).alloc _) (by omega) _ _,((Blk.new w _ _).alloc _).put_other (by omega) _,(Blk.new' (by simp)).put _⟩
 case rest =>
 obtain ⟨rfl,hx2,hB0,hB1⟩:=hcut;have HX:=gH hx2;have HB0:=gH hB0;have HB1:=gH hB1;clear hx2 hB0 hB1
 by_cases h8:8<=r
 . go_wp2_with (refine qAc rfl 341 (.tmp 2) (.tmp 16) rfl w.heap.size 341 _ _ (by exact rfl) (by exact rfl) (by exact HB0.out) (by exact rfl) (by exact qIh) (by simp [Value.oneCell']) ?_)
   refine bodyPost_ret (v:=qIc r) ?_ rfl ⟨rfl,?_⟩
   . rw [HB.out h8]
     exact qBz (P:=Tryz.prog) Tryz.results243 (g:=w.heap.size) rfl (by exact HB0.out.put _) Tryz.underlying341 rfl qIh
   . exact HX.out.put (Nat.le_refl _) _ _
 . have h7:r<=7:=by omega
   have HT7:=gH (HT.out h7);(have hr8:r<8:=by omega);clear HT h8;go_wp2_with (first | (refine wpList_load_mid rfl 341 (.tmp 18) rfl (w.heap.size+1) (r.toNat*4) (by first | exact rfl | (simp;done)) [.string (qIa r),.int .i64 (qJe r),.int .i64 (rNom r),.bool (qMj r)] _ (fun j v hv=>by rw [HB1.out.cell];exact HT7.out j v hv) Tryz.underlying341 rfl (by exact qIh) ?_) | (refine qAc rfl 341 (.tmp 2) (.tmp 19) rfl w.heap.size 341 _ _ (by exact rfl) (by exact rfl) (by exact HB0.out) (by exact rfl) (by exact qIh) (by simp [Value.oneCell']) ?_));refine bodyPost_ret (v:=qIc r) ?_ rfl ⟨rfl,?_⟩
   . exact qBz (P:=Tryz.prog) Tryz.results243 (g:=w.heap.size) rfl (by exact HB0.out.put _) Tryz.underlying341 rfl qIh
   . exact HX.out.put (Nat.le_refl _) _ _
theorem zHr (r:Int) (h0:0<=r):decide (0<qJe r)=rOk r:=by
 rcases zDb h0 with (rfl | rfl | rfl | rfl | rfl | rfl | rfl | rfl) | h8
 all_goals first | rfl | skip
 unfold rOk qJe;simp only [show ¬ r=1 by omega,show ¬ r=2 by omega,show ¬ r=3 by omega,show ¬ r=4 by omega,show ¬ r=5 by omega,show ¬ r=6 by omega,show ¬ r=7 by omega,if_false];rw [decide_eq_false (by omega),decide_eq_false (by omega)]
def qIb (r:Int) (d:Bool):Bool:=rOk r && (!d || qMj r)
theorem qJj (r:Int) (w:World) (h0:0<=r) (h1:r<=255):Calls Tryz.prog 229 #[.int .u8 r] w fun e w'=>e = .returned (.bool (rOk r))/\Ext w w':=by
 have HO:=gH (zHr r h0);(have hfd:∀ w:World,(Instr.field 341 (.agg #[.string (qIa r),.int .i64 (qJe r),.int .i64 (rNom r),.bool (qMj r)]) 1).run Tryz.prog w = .ok (.int .i64 (qJe r)) w:=fun _=>by kernel_rfl);go_enter Tryz.func229,Tryz.ntmps229;go_wp2_with fail;refine (zHe r _ h0 h1).mono ?_;rintro e w1 ⟨rfl,hx⟩;unfold qIc;go_wp2_with fail;go_ret;exact ⟨qBh HO.out,hx⟩
theorem qWy (r:Int) (w:World) (h0:0<=r) (h1:r<=255):Calls Tryz.prog 230 #[.int .u8 r] w fun e w'=>e = .returned (.bool (qMj r))/\Ext w w':=by
 (have hfd:∀ w:World,(Instr.field 341 (.agg #[.string (qIa r),.int .i64 (qJe r),.int .i64 (rNom r),.bool (qMj r)]) 3).run Tryz.prog w = .ok (.bool (qMj r)) w:=fun _=>by kernel_rfl);go_enter Tryz.func230,Tryz.ntmps230;go_wp2_with fail;refine (zHe r _ h0 h1).mono ?_;rintro e w1 ⟨rfl,hx⟩;unfold qIc;go_wp2_with fail;go_ret;exact ⟨rfl,hx⟩
structure Com where
 id:Int
 ev:Int
 fr:Int
 til:Int
 author:ByteArray
 text:ByteArray
 done:Bool
 lost:Bool
 deriving DecidableEq
def Com.vals (c:Com):List Value:=[.int .i64 c.id,.int .i64 c.ev,.int .i64 c.fr,.int .i64 c.til,.string c.author,.string c.text,.bool c.done,.bool c.lost]
structure Doc where
 title:ByteArray
 lang:ByteArray
 rate:Int
 drop:Bool
 last:Int
 regs:List Reg
 evs:List Ev
 coms:List Com
structure DocH where
 ra:Option Addr
 rn:Nat
 rc:Nat
 ea:Option Addr
 en:Nat
 ec:Nat
 ca:Option Addr
 cn:Nat
 cc:Nat
def Doc.cells (d:Doc) (h:DocH):Array Value:=#[.string d.title,.string d.lang,.int .u8 d.rate,.bool d.drop,.int .i64 d.last,.slice h.ra h.rn h.rc,.slice h.ea h.en h.ec,.slice h.ca h.cn h.cc]
def EvC (w:World) (b o:Nat) (e:Ev):Prop:=∃ A n c,(∀ j u,(e.cells A n c).toList[j]?=some u->w.cell? ⟨b,o+j,none⟩=some u)/\EvAt w e A n c
theorem EvC.stays:zBh EvC:=fun _ _ _ _ _ k ⟨A,n,c,h1,h2⟩=>⟨A,n,c,fun j u hu=>k.cell (h1 j u hu),h2.ext k⟩
def qGw (w:World) (A:Option Addr) (n:Nat) (l:List Ev):Prop:=Sl w 7 EvC A n l
theorem qGw.ext {w w1:World} {A:Option Addr} {n:Nat} {l:List Ev} (h:qGw w A n l) (k:Ext w w1):qGw w1 A n l:=Sl.ext EvC.stays h k
def qHj (w:World) (A:Option Addr) (n:Nat) (l:List Com):Prop:=Sl w 8 (Cells Com.vals) A n l
theorem qHj.ext {w w1:World} {A:Option Addr} {n:Nat} {l:List Com} (h:qHj w A n l) (k:Ext w w1):qHj w1 A n l:=Sl.ext (Cells.stays _) h k
structure qCx (w:World) (d:Doc) (h:DocH):Prop where
 regs:qFw w h.ra h.rn d.regs
 evs:qGw w h.ea h.en d.evs
 coms:qHj w h.ca h.cn d.coms
theorem qCx.ext {w w1:World} {d:Doc} {h:DocH} (k:qCx w d h) (hx:Ext w w1):qCx w1 d h:=⟨k.regs.ext hx,k.evs.ext hx,k.coms.ext hx⟩
theorem qGw.at_ev {w:World} {A:Option Addr} {n:Nat} {l:List Ev} (h:qGw w A n l) {i:Nat} (hi:i<n):∃ b off e A' n' c',A=some ⟨b,off,none⟩/\l[i]?=some e/\EvAt w e A' n' c' /\
 (w.cell? ⟨b,off+i*7,none⟩=some (.int .i64 e.id)/\w.cell? ⟨b,off+i*7+1,none⟩=some (.int .i64 e.inn)/\w.cell? ⟨b,off+i*7+2,none⟩=some (.int .i64 e.out)/\w.cell? ⟨b,off+i*7+3,none⟩=some (.string e.region) /\
  w.cell? ⟨b,off+i*7+4,none⟩=some (.int .u8 e.kind)/\w.cell? ⟨b,off+i*7+5,none⟩=some (.string e.speaker)/\w.cell? ⟨b,off+i*7+6,none⟩=some (.slice A' n' c')):=by
 obtain ⟨b,off,e,hA,he,A',n',c',hc,hat⟩:=h.at_ hi;exact ⟨b,off,e,A',n',c',hA,he,hat,by simpa using hc 0 _ rfl,hc 1 _ rfl,hc 2 _ rfl,hc 3 _ rfl,hc 4 _ rfl,hc 5 _ rfl,hc 6 _ rfl⟩
theorem qHj.at8 {w:World} {A:Option Addr} {n:Nat} {l:List Com} (h:qHj w A n l) {i:Nat} (hi:i<n):∃ b off c,A=some ⟨b,off,none⟩/\l[i]?=some c /\
 (w.cell? ⟨b,off+i*8,none⟩=some (.int .i64 c.id)/\w.cell? ⟨b,off+i*8+1,none⟩=some (.int .i64 c.ev)/\w.cell? ⟨b,off+i*8+2,none⟩=some (.int .i64 c.fr)/\w.cell? ⟨b,off+i*8+3,none⟩=some (.int .i64 c.til) /\
  w.cell? ⟨b,off+i*8+4,none⟩=some (.string c.author)/\w.cell? ⟨b,off+i*8+5,none⟩=some (.string c.text)/\w.cell? ⟨b,off+i*8+6,none⟩=some (.bool c.done)/\w.cell? ⟨b,off+i*8+7,none⟩=some (.bool c.lost)):=by
 obtain ⟨b,off,c,hA,hc,hC⟩:=h.at_ hi;exact ⟨b,off,c,hA,hc,by simpa using hC 0 _ rfl,hC 1 _ rfl,hC 2 _ rfl,hC 3 _ rfl,hC 4 _ rfl,hC 5 _ rfl,hC 6 _ rfl,hC 7 _ rfl⟩
def Doc.headErr (d:Doc):Int :=
 if vld d.title=false then 10 else if 400<d.title.size then 9 else if d.lang.toList.isEmpty=false/\qCt d.lang=false then 5 else if qIb d.rate d.drop=false then 13 else if d.last<0\/1099511627776<d.last then 2 else 0
def qFf:Option ByteArray->List Reg->Int
 | _,[]=>0
 | p,r :: l=>if r.check≠0 then r.check else if p=some r.name then 7 else if (p.map fun q=>Op.bytesLess r.name.toList q.toList)=some true then 8 else qFf (some r.name) l
def qEc (l:List Reg):Int:=if 16<l.length then 9 else qFf none l
def qBd (l:List Ev) (id:Int):Option Nat:=l.findIdx? fun e=>e.id == id
def qCr (regs:List Reg) (last:Int):List Ev->List Ev->Int
 | _,[]=>0
 | pre,x :: l=>if x.err regs≠0 then x.err regs else if last<x.id then 2 else if (pre.getLast?.map fun p=>qDw p x)=some false then 8 else if (qBd pre x.id).isSome=true then 7 else qCr regs last (pre++[x]) l
def Com.anchorErr (c:Com) (last:Int) (evs:List Ev):Int :=
 if c.ev<1\/last<c.ev then 2 else if c.lost=true then (if c.fr≠0\/c.til≠0 then 2 else 0) else
  match qBd evs c.ev with
  | none=>6
  | some k=>if c.fr<0\/c.til<=c.fr\/(evs[k]?.map fun e=>decide (e.len<c.til))=some true then 2 else 0
def qCe (last:Int) (evs:List Ev):Option Int->List Com->Int
 | _,[]=>0
 | p,c :: l=>if c.id<1\/last<c.id then 2 else if (p.map fun q=>decide (c.id<=q))=some true then 8 else if (qBd evs c.id).isSome=true then 7 else
  if c.anchorErr last evs≠0 then c.anchorErr last evs else if qCt c.author=false then 5 else if vld c.text=false then 10 else if c.text.toList.isEmpty=true then 4 else if 400<c.text.size then 9 else qCe last evs (some c.id) l
def Doc.err (d:Doc):Int :=
 if d.headErr≠0 then d.headErr else if qEc d.regs≠0 then qEc d.regs else if 400<d.evs.length then 9 else if qCr d.regs d.last [] d.evs≠0 then qCr d.regs d.last [] d.evs else
  if 64<d.coms.length then 9 else qCe d.last d.evs none d.coms
end
section
open Go.RowKit Go.Maps
theorem qHy:Keyed Tryz.prog 2:=int_keyed Tryz.underlying2
def IW (a:Int):Prop:=-9223372036854775808<=a/\a<=9223372036854775807
theorem IW.wf {a:Int} (h:IW a):(Lit.int .i64 a).wf=true:=by
 obtain ⟨h1,h2⟩:=h
 first | exact WalkArith.wf_i64 ⟨h1,h2⟩ | exact WalkArith.wf_i64 h1 h2 | exact WalkArith.wf_i64 (by omega) | (simp [Lit.wf,IntKind.min,IntKind.max,IntKind.bits,IntKind.signed];omega)
theorem IW.key {a:Int} (h:IW a):keyOf Tryz.prog 2 (.int .i64 a)=some (.int .i64 a):=keyOf_int_mk Tryz.underlying2 h.wf
theorem IW.isKey {a:Int} (h:IW a):WideAt.IsKeyLit (.int .i64 a):=qHy.key h.key
theorem qLh (l:List Ev) (x:Ev) (id:Int):qBd (l++[x]) id=match qBd l id with | some k=>some k | none=>if x.id=id then some l.length else none:=by
 unfold qBd;rw [List.findIdx?_append]
 cases h:l.findIdx? (fun e=>e.id == id) with
 | some k=>simp
 | none =>
  by_cases hx:x.id=id
  . simp [hx,List.findIdx?_cons]
  . simp [hx,List.findIdx?_cons]
def MapE (w:World) (T:TypeId) (B:Nat) (l:List Ev):Prop:=∃ (n:Nat) (D:DataW Unit),w.ownsMap Tryz.prog 2 (plainElem Tryz.prog T) B n D/\n<=l.length/\IsMap D /\
 (∀ id,IW id->Maps.has D (.int .i64 id)=(qBd l id).isSome)/\∀ id k,IW id->qBd l id=some k->D.atKey (.int .i64 id) (.lit (.int .i64 0)) = .lit (.int .i64 k)
theorem MapE.made (w:World) (T:TypeId):MapE (w.alloc (.map #[] 0)) T w.heap.size [] :=
 ⟨0,.map [],World.ownsMap_made w _ _ _,Nat.le_refl _,isMap_empty,fun _ _=>rfl,fun _ _ _ h=>by simp [qBd] at h⟩
theorem MapE.ext {w w1:World} {T:TypeId} {B:Nat} {l:List Ev} (h:MapE w T B l) (k:Ext w w1):MapE w1 T B l:=by
 obtain ⟨n,D,⟨es,cl,h1,h2⟩,h3⟩:=h;exact ⟨n,D,⟨es,cl,(k.block B (Array.getElem?_eq_some_iff.1 h1).1).trans h1,h2⟩,h3⟩
theorem MapE.lt {w:World} {T:TypeId} {B:Nat} {l:List Ev} (h:MapE w T B l):B<w.heap.size:=by
 obtain ⟨n,D,h1,_⟩:=h;exact h1.lt
theorem MapE.put {w w1:World} {T:TypeId} {B n:Nat} {l:List Ev} {D:DataW Unit} {x:Ev} (hn:n<=l.length) (hm:IsMap D) (hh:∀ id,IW id->Maps.has D (.int .i64 id)=(qBd l id).isSome)
 (ha:∀ id k,IW id->qBd l id=some k->D.atKey (.int .i64 id) (.lit (.int .i64 0)) = .lit (.int .i64 k)) (hx:IW x.id) (hno:qBd l x.id=none)
 (h:w1.ownsMap Tryz.prog 2 (plainElem Tryz.prog T) B (n+1) (D.put (.int .i64 x.id) (.lit (.int .i64 l.length)))):MapE w1 T B (l++[x]):=by
 refine ⟨n+1,_,h,by simp;omega,hm.put _ _,fun id hid=>?_,fun id k hid hk=>?_⟩
 . rw [qLh]
   by_cases he:id=x.id
   . subst he
     rw [has_put_same hm hx.isKey,hno];simp
   . rw [has_put_other (by simpa using he),hh id hid]
     cases qBd l id with
     | some k=>rfl
     | none=>simp [Ne.symm he]
 . rw [qLh] at hk
   by_cases he:id=x.id
   . subst he
     rw [hno] at hk;simp at hk;subst hk;exact atKey_put_same hm hx.isKey _ _
   . rw [atKey_put_other (by simpa using he)]
     refine ha id k hid ?_
     cases hf:qBd l id with
     | some j=>rw [hf] at hk;simpa using hk
     | none=>rw [hf] at hk;simp [Ne.symm he] at hk
end
section
open Go.RowKit
theorem qVa (l:Array Bool) (i:Nat) (h:l.getD i true=false):((l.setIfInBounds i true).toList.count false)+1=l.toList.count false:=by
 have hi:i<l.size:=by
  rcases Nat.lt_or_ge i l.size with h' | h'
  . exact h'
  . simp [Array.getElem?_eq_none h'] at h
 (have hv:l[i]=false:=by simpa [hi] using h);rw [Array.toList_setIfInBounds];obtain ⟨l⟩:=l;simp only at hi hv ⊢;(have hi':i<l.length:=by simpa using hi);(have hv':l[i]=false:=by simpa using hv);rw [List.set_eq_take_append_cons_drop,if_pos hi']
 conv=>rhs;rw [← List.take_append_drop i l,List.drop_eq_getElem_cons hi',hv']
 simp [List.count_append];omega
theorem qQb {md:Region.Mode} {ops:Array Oper} {l:Array Bool} (hord:∀ (i:Nat) (o:Oper),ops[i]?=some o->∀ e∈o.after,Region.binds md e=true->e.on<i) (hs:l.size=ops.size) (hr:Region.ready md ops l=[]):∀ i,i<ops.size->l.getD i false=true:=by
 intro i
 induction i using Nat.strongRecOn with
 | _ i ih =>
  intro hi
  cases hl:l.getD i false with
  | true=>rfl
  | false =>
   exfalso;(have hil:i<l.size:=by omega);have hm:i∈Region.ready md ops l:=mem_ready.2 ⟨by simpa [hil] using hl,ops[i],by simp [hi],fun e he hb=>ih e.on (hord i _ (by simp [hi]) e he hb) (by have:=hord i ops[i] (by simp [hi]) e he hb;omega)⟩;rw [hr] at hm
   cases hm
theorem qGv {P:Program} {md:Region.Mode} {ops:Array Oper} {Q:Exit->Act->World->Prop} (Inv:Array Bool->Act->World->Prop)
 (hsize:∀ l a w,Inv l a w->l.size=ops.size)
 (hstep:∀ l a w,Inv l a w->∀ i o,ops[i]?=some o->l.getD i true=false->(∀ e∈o.after,Region.binds md e=true->l.getD e.on false=true) ->
  ∀ K:Act->World->Prop,(∀ a w,Inv (l.setIfInBounds i true) a w->K a w)->if Region.wanted o (yielded ops a.tmps)=true then Oper.wp P o a w K Q else K (a.put o.dst undef) w)
 (hord:∀ (i:Nat) (o:Oper),ops[i]?=some o->∀ e∈o.after,Region.binds md e=true->e.on<i)
 (hdone:∀ l a w,Inv l a w->(∀ i,i<ops.size->l.getD i false=true)->Q .normal a w) :
 ∀ (fuel:Nat) (l:Array Bool) (a:Act) (w:World),l.toList.count false<=fuel->Inv l a w->wpAny P md ops Q fuel l a w
 | 0,l,a,w,hc,hI=>by
  have hr:Region.ready md ops l=[]:=by
   apply List.eq_nil_iff_forall_not_mem.2;intro i hi;obtain ⟨h0,_⟩:=mem_ready.1 hi;have:=qVa l i h0;omega
  exact ⟨hr,hdone l a w hI (qQb hord (hsize l a w hI) hr)⟩
 | fuel+1,l,a,w,hc,hI=>by
  refine ⟨fun hr=>hdone l a w hI (qQb hord (hsize l a w hI) hr),fun i hi=>?_⟩;obtain ⟨h0,o,ho,hall⟩:=mem_ready.1 hi;have hs:=qVa l i h0;have h1:=hstep l a w hI i o ho h0 hall (wpAny P md ops Q fuel (l.setIfInBounds i true)) (fun a' w' hI'=>qGv Inv hsize hstep hord hdone fuel _ a' w' (by omega) hI');unfold wpOp;simp only [ho]
  split
  . rename_i hw;rw [if_pos hw] at h1;exact .inl h1
  . rename_i hw;rw [if_neg hw] at h1;exact h1
theorem qFc {l:Array Bool} {i:Nat} (h:i<l.size):(l.setIfInBounds i true).getD i false=true:=by simp [h]
theorem qAj {l:Array Bool} {i j:Nat} (h:i≠j):(l.setIfInBounds i true).getD j false=l.getD j false:=getD_set_ne false h
theorem qIs {l:Array Bool} {i:Nat} (h:l.getD i true=false):l.getD i false=false:=by
 rcases Nat.lt_or_ge i l.size with h' | h'
 . simpa [h'] using h
 . simp [Array.getElem?_eq_none h'] at h
theorem qHi {P:Program} {o:Oper} {a:Act} {w:World} {K:Act->World->Prop} {Q:Exit->Act->World->Prop} {f:FuncId} {x:Operand} {ts:Array TypeId} {v:Value} (ho:o.op = .call { callee:=.value (.func f),args:=#[x],argTypes:=ts }) (hx:a.eval x=v)
 (hent:∀ args w,(callFunc f args).run P w = .ok (.enter f args) w) {R:Ending->World->Prop} (hc:Calls P f #[v] w R) (h:∀ en w',R en w'->∃ u,en = .returned u/\K (a.put o.dst u) w'):o.wp P a w K Q:=by
 have h2:Calls P f #[v] w (fun
  | .returned u,w''=>K (a.put o.dst u) w''
  | .panicked chain,w''=>Q (.panic chain) a w''
  | .outgrown,_=>LetsOut Q):=hc.mono fun en w' hr=>by
  obtain ⟨u,rfl,hk⟩:=h en w' hr;exact hk
 unfold Oper.wp execOp;simp only [ho];have hev:a.eval (.func f) = .func (.func f) #[] #[]:=rfl;simp [resolve,invoke,hev,hx,hent,Sem.run_bind,Deferred.ofValue];exact h2
theorem zIw {P:Program} {o:Oper} {a:Act} {w:World} {K:Act->World->Prop} {Q:Exit->Act->World->Prop} (ty:TypeId) (x y:Operand) (ho:o.op = .store ty x y) (g:Nat) (t:TypeId) (cs cs':Array Value) (hx:a.eval x = .pointer (some ⟨g,0,none⟩)) (hy:a.eval y = .agg cs')
 (hi:(P.info? ty).map (·.size)=some cs'.size) (h1:cs'.all (·.oneCell')=true) (hB:Blk w g t cs) (hl:cs.size=cs'.size) (h:K (a.put o.dst undef) (putB w g t cs')):o.wp P a w K Q:=by
 refine wp_store_mid ty x y ho g 0 cs' hx hy (fun j hj=>?_) hi h1 (by rw [qIg hB cs' hl];exact h);rw [hB.cell,hB.frozen];exact ⟨by simp;omega,rfl⟩
theorem edge {es:Array Edge} {k:Nat} (h:es.toList.any (fun d=>Region.binds .any d && d.on == k)=true):∃ d∈es,Region.binds .any d=true/\d.on=k:=by
 obtain ⟨d,hd,h'⟩:=List.any_eq_true.1 h;simp only [Bool.and_eq_true,beq_iff_eq] at h';exact ⟨d,by simpa using hd,h'⟩
def ordB:Nat->List Oper->Bool
 | _,[]=>true
 | i,o :: l=>o.after.all (fun d=>!Region.binds .any d || decide (d.on<i)) && ordB (i+1) l
theorem zHk:∀ (l:List Oper) (k:Nat),ordB k l=true->∀ i o,l[i]?=some o->∀ d∈o.after,Region.binds .any d=true->d.on<k+i
 | [],_,_,i,o,h=>by simp at h
 | o' :: l,k,hb,0,o,h=>by
  simp only [ordB,Bool.and_eq_true] at hb;simp at h;subst h;intro d hd hbd;have:=(Array.all_eq_true'.1 hb.1) d hd;simpa [hbd] using this
 | o' :: l,k,hb,i+1,o,h=>by
  simp only [ordB,Bool.and_eq_true] at hb;intro d hd hbd;have:=zHk l (k+1) hb.2 i o (by simpa using h) d hd hbd;omega
theorem zGk {ops:Array Oper} (h:ordB 0 ops.toList=true):∀ (i:Nat) (o:Oper),ops[i]?=some o->∀ d∈o.after,Region.binds .any d=true->d.on<i:=fun i o ho d hd hbd=>by
 have:=zHk ops.toList 0 h i o (by simpa using ho) d hd hbd;omega
theorem qTr {P:Program} {op:Oper} {a:Act} {w:World} {K:Act->World->Prop} {Q:Exit->Act->World->Prop} (ty:TypeId) (x:Operand) (ho:op.op = .load ty x) (g:Nat) (t:TypeId) (cs:Array Value) (d:TypeDesc) (hx:a.eval x = .pointer (some ⟨g,0,none⟩))
 (hB:Blk w g t cs) (hu:P.underlying ty=some d) (hd:d.isRow=true) (hi:(P.info? ty).map (·.size)=some cs.size) (h:K (a.put op.dst (.agg cs)) w):op.wp P a w K Q:=by
 refine wp_load_mid ty x ho g 0 hx cs.toList d (fun j v hv=>?_) hu hd (by simpa using hi) (by simpa using h);rw [hB.cell];simpa using hv
def qJk (ops:Array Oper) (j:Nat):Nat:=((ops[j]?).bind (·.dst)).getD 0
def qXr (ops:Array Oper) (n:Nat):Bool:=ops.toList.all (fun o=>(o.dst.map (fun s=>decide (s<n))).getD false) && decide ((ops.toList.map (fun o=>o.dst.getD 0)).Nodup)
def zPt (ops:Array Oper) (a0:Act) (W:World) (vals:Nat->Value) (l:Array Bool) (a:Act) (w:World):Prop :=
 l.size=ops.size/\Ext W w/\a.defers=a0.defers/\a.tmps.size=a0.tmps.size/\(∀ s,(∀ j,j<ops.size->qJk ops j≠s)->a.tmps[s]?=a0.tmps[s]?) /\
  (∀ j,j<ops.size->l.getD j false=true->a.tmps[qJk ops j]?=some (vals j))
theorem qKh {ops:Array Oper} {n j:Nat} {o:Oper} (h:qXr ops n=true) (ho:ops[j]?=some o):o.dst=some (qJk ops j)/\qJk ops j<n:=by
 simp only [qXr,Bool.and_eq_true,List.all_eq_true] at h;(have hm:o∈ops.toList:=by simpa using Array.mem_of_getElem? ho);have:=h.1 o hm;unfold qJk;rw [ho]
 cases hd:o.dst with
 | none=>rw [hd] at this;simp at this
 | some s=>rw [hd] at this;simp at this;simp [hd,this]
theorem zFg {ops:Array Oper} {n i j:Nat} (h:qXr ops n=true) (hi:i<ops.size) (hj:j<ops.size) (he:qJk ops i=qJk ops j):i=j:=by
 simp only [qXr,Bool.and_eq_true,decide_eq_true_eq] at h;have hn:=h.2
 have key:∀ k (hk:k<ops.size),(ops.toList.map (fun o=>o.dst.getD 0))[k]?=some (qJk ops k):=fun k hk=>by
  (have ho:ops[k]?=some ops[k]:=by simp [hk]);have:=(qKh (by simp only [qXr,Bool.and_eq_true,decide_eq_true_eq];exact h) ho).1;rw [List.getElem?_map];simp [hk,this]
 (have hl:(ops.toList.map (fun o=>o.dst.getD 0)).length=ops.size:=by simp);refine (List.getElem?_inj (by rw [hl];exact hi) hn).1 ?_;rw [key i hi,key j hj,he]
theorem qTs {P:Program} {ops:Array Oper} {Q:Exit->Act->World->Prop} {id:Nat} {a0:Act} {W:World} (vals:Nat->Value) (hm:P.follows .mixedOrders=true) (hdst:qXr ops a0.tmps.size=true) (hord:ordB 0 ops.toList=true)
 (hstep:∀ i o,ops[i]?=some o->∀ (a:Act) (w:World) (K:Act->World->Prop),Ext W w->(∀ s,(∀ j,j<ops.size->qJk ops j≠s)->a.tmps.getD s undef=a0.tmps.getD s undef) ->
  (∀ j,(∃ d∈o.after,Region.binds .any d=true/\d.on=j)->j<ops.size->a.tmps[qJk ops j]?=some (vals j))->(∀ w',Ext w w'->K (a.put o.dst (vals i)) w') ->
  if Region.wanted o (yielded ops a.tmps)=true then Oper.wp P o a w K Q else K (a.put o.dst undef) w)
 (hQ:∀ a w,Ext W w->a.defers=a0.defers->a.tmps.size=a0.tmps.size->(∀ s,(∀ j,j<ops.size->qJk ops j≠s)->a.tmps[s]?=a0.tmps[s]?)->(∀ j,j<ops.size->a.tmps[qJk ops j]?=some (vals j))->Q .normal a w) :
 (Code.region id ops true).wp P Q a0 W:=by
 refine wp_region_any hm ?_;refine qGv (zPt ops a0 W vals) (fun l a w h=>h.1) ?_ (zGk hord) ?_ _ _ _ _ (by simp) ?_
 . intro l a w hI i o ho hl hall K hK
   obtain ⟨hs,hx,hdf,hsz,hnot,hval⟩:=hI;have hi:i<ops.size:=(Array.getElem?_eq_some_iff.1 ho).1;refine hstep i o ho a w K hx (fun s hsn=>?_) (fun j hj hjl=>?_) (fun w' hx'=>?_)
   . have:=hnot s hsn
     simp [this]
   . obtain ⟨d,hd,hb,rfl⟩:=hj
     exact hval _ hjl (hall d hd hb)
   . apply hK
     obtain ⟨hd1,hd2⟩:=qKh hdst ho;rw [hd1];refine ⟨by simpa using hs,hx.trans hx',hdf,by simpa [Act.put] using hsz,fun s hsn=>?_,fun j hj hjl=>?_⟩
     . simp only [Act.put]
       rw [Array.getElem?_setIfInBounds_ne (hsn i hi)];exact hnot s hsn
     . simp only [Act.put]
       by_cases hij:i=j
       . subst hij
         simp [hsz,hd2]
       . rw [Array.getElem?_setIfInBounds_ne (fun h=>hij (zFg hdst hi hj h))]
         rw [qAj hij] at hjl;exact hval j hj hjl
 . rintro l a w ⟨hs,hx,hdf,hsz,hnot,hval⟩ hall
   exact hQ a w hx hdf hsz hnot (fun j hj=>hval j hj (hall j hj))
 . exact ⟨by simp,(Ext.refl W).drew,rfl,rfl,fun _ _=>rfl,fun j hj h=>by simp [Array.getElem?_replicate,hj] at h⟩
theorem qAg {a:Act} {s:Nat} {v:Value} (h:a.tmps[s]?=some v):a.eval (.tmp s)=v:=by simp [Act.eval,h]
theorem zIr {ops:Array Oper} {o:Oper} {a:Act} {k s:Nat} {b b':Bool} (hg:o.guard=some (k,b)) (hk:(ops[k]?).bind (·.dst)=some s) (hv:a.tmps[s]?=some (.bool b')):Region.wanted o (yielded ops a.tmps)=(b' == b):=by
 unfold Region.wanted yielded;rw [hg];simp only [hk,Option.bind_some,hv]
 cases b<;>cases b'<;>rfl
theorem qAm {o:Oper} {y:Nat->Option Bool} {A B:Prop} (hg:o.guard=none) (h:A):if Region.wanted o y=true then A else B:=by
 rw [if_pos (by simp [Region.wanted,hg])];exact h
theorem qAk {ops:Array Oper} {o:Oper} {a:Act} {k s:Nat} {b b':Bool} {A B:Prop} (hg:o.guard=some (k,b)) (hk:(ops[k]?).bind (·.dst)=some s) (hv:a.tmps[s]?=some (.bool b')) (he:(b' == b)=true) (h:A):if Region.wanted o (yielded ops a.tmps)=true then A else B:=by
 rw [if_pos (by rw [zIr hg hk hv];exact he)];exact h
theorem qTo {ops:Array Oper} {o:Oper} {a:Act} {k s:Nat} {b b':Bool} {A B:Prop} (hg:o.guard=some (k,b)) (hk:(ops[k]?).bind (·.dst)=some s) (hv:a.tmps[s]?=some (.bool b')) (he:(b' == b)=false) (h:B):if Region.wanted o (yielded ops a.tmps)=true then A else B:=by
 rw [if_neg (by rw [zIr hg hk hv,he];simp)];exact h
section
variable {P:Program} {o:Oper} {a:Act} {w:World} {K:Act->World->Prop} {Q:Exit->Act->World->Prop}
theorem qCs (x:Operand) (v:Value) (ho:o.op = .move x) (hx:a.eval x=v) (h:K (a.put o.dst v) w):o.wp P a w K Q:=by
 unfold Oper.wp execOp;simp [ho,hx,Sem.run_pure];exact h
theorem qLr (x:Operand) (v:Value) (ho:o.op = .assign x) (hx:a.eval x=v) (h:K (a.put o.dst v) w):o.wp P a w K Q:=by
 unfold Oper.wp execOp;simp [ho,hx,Sem.run_pure];exact h
theorem qFt (c x y:Operand) (b:Bool) (v:Value) (ho:o.op = .pick c x y) (hc:a.eval c = .bool b) (hx:(if b then a.eval x else a.eval y)=v) (h:K (a.put o.dst v) w):o.wp P a w K Q:=by
 unfold Oper.wp execOp;simp [ho,hc,asBool,Sem.run_pure,Sem.run_bind];rw [hx];exact h
theorem qNa {f:FuncId} {x y:Operand} {ts:Array TypeId} {v u:Value} (ho:o.op = .call { callee:=.value (.func f),args:=#[x,y],argTypes:=ts }) (hx:a.eval x=v) (hy:a.eval y=u)
 (hent:∀ args w,(callFunc f args).run P w = .ok (.enter f args) w) {r:Value} (hc:Calls P f #[v,u] w fun en w'=>en = .returned r/\Ext w w') (h:∀ w',Ext w w'->K (a.put o.dst r) w'):o.wp P a w K Q:=by
 have h2:Calls P f #[v,u] w (fun
  | .returned u,w''=>K (a.put o.dst u) w''
  | .panicked chain,w''=>Q (.panic chain) a w''
  | .outgrown,_=>LetsOut Q):=hc.mono fun en w' hr=>by
  obtain ⟨rfl,hk⟩:=hr;exact h w' hk
 unfold Oper.wp execOp;simp only [ho];have hev:a.eval (.func f) = .func (.func f) #[] #[]:=rfl;simp [resolve,invoke,hev,hx,hy,hent,Sem.run_bind,Deferred.ofValue];exact h2
end
theorem qIr {a0:Array Value}:∀ (L:List (Nat × Value)) (a a0:Array Value),a.size=a0.size->(∀ p∈L,a[p.1]?=some p.2)->(∀ s,s ∉ L.map (·.1)->a[s]?=a0[s]?)->a=L.foldl (fun t p=>t.setIfInBounds p.1 p.2) a0
 | [],a,a0,_,_,hn=>Array.ext_getElem? fun i=>hn i (by simp)
 | p :: L,a,a0,hz,hv,hn=>by
  rw [List.foldl_cons];refine qIr (a0:=a0) L a _ (by simpa using hz) (fun q hq=>hv q (List.mem_cons_of_mem _ hq)) (fun s hs=>?_);have hp:=hv p (List.mem_cons_self ..)
  by_cases he:p.1=s
  . subst he
    (have hlt:p.1<a0.size:=by rw [← hz];exact (Array.getElem?_eq_some_iff.1 hp).1);rw [hp];simp [hlt]
  . rw [Array.getElem?_setIfInBounds_ne he]
    exact hn s (by simp only [List.map_cons,List.mem_cons,not_or];exact ⟨fun h=>he h.symm,hs⟩)
theorem zJx {ops:Array Oper} {j s:Nat} (h:(ops[j]?).bind (·.dst)=some s):qJk ops j=s/\j<ops.size:=by
 unfold qJk;rw [h];refine ⟨rfl,?_⟩
 cases ho:ops[j]? with
 | none=>rw [ho] at h;cases h
 | some o=>exact (Array.getElem?_eq_some_iff.1 ho).1
theorem qCl {P:Program} {ops:Array Oper} {Q:Exit->Act->World->Prop} {id:Nat} {a0:Act} {W:World} (vals:List Value) (L:List (Nat × Value)) (hm:P.follows .mixedOrders=true) (hdst:qXr ops a0.tmps.size=true) (hord:ordB 0 ops.toList=true)
 (hL:(ops.toList.map (fun o=>o.dst.getD 0)).zip vals=L) (hlen:vals.length=ops.size)
 (hstep:∀ (i:Nat) (o:Oper),ops[i]?=some o->∀ (a:Act) (w:World) (K:Act->World->Prop),Ext W w->(∀ s:Nat,ops.toList.all (fun o=>o.dst != some s)=true->a.eval (.tmp s)=a0.eval (.tmp s)) ->
  (∀ (j s:Nat) (v:Value),o.after.toList.any (fun d=>Region.binds .any d && d.on == j)=true->(ops[j]?).bind (·.dst)=some s->vals[j]?=some v->a.tmps[s]?=some v)->(∀ v,vals[i]?=some v->∀ w',Ext w w'->K (a.put o.dst v) w') ->
  if Region.wanted o (yielded ops a.tmps)=true then Oper.wp P o a w K Q else K (a.put o.dst undef) w)
 (hQ:∀ w,Ext W w->Q .normal { a0 with tmps:=L.foldl (fun t p=>t.setIfInBounds p.1 p.2) a0.tmps } w) :
 (Code.region id ops true).wp P Q a0 W:=by
 (have hget:∀ j,j<ops.size->vals[j]?=some (vals.getD j undef):=fun j hj=>by simp [hlen,hj]);refine qTs (fun j=>vals.getD j undef) hm hdst hord (fun i o ho a w K hx hn hd hk=>?_) (fun a w hx hdf hsz hnot hval=>?_)
 . refine hstep i o ho a w K hx (fun s hs=>?_) (fun j s v hj hb hv=>?_) (fun v hv w' hx'=>?_)
   . refine hn s fun j hj he=>?_
     have h1:=(qKh hdst (show ops[j]?=some ops[j] by simp [hj])).1;have h2:=List.all_eq_true.1 hs ops[j] (by simp);rw [h1,he] at h2;simp at h2
   . obtain ⟨h1,h2⟩:=zJx hb
     have h3:=hd j (edge hj) h2;rw [h1] at h3;rw [h3];have h4:=hget j h2;rw [hv] at h4;exact congrArg some (Option.some.inj h4).symm
   . have h4:=hget i (Array.getElem?_eq_some_iff.1 ho).1
     rw [hv] at h4;have:=hk w' hx';rw [← Option.some.inj h4] at this;exact this
 . have hmem:∀ p∈L,∃ j,j<ops.size/\p=(qJk ops j,vals.getD j undef):=fun p hp=>by
    rw [← hL] at hp;obtain ⟨j,hj⟩:=List.getElem?_of_mem hp;rw [List.getElem?_zip_eq_some] at hj;obtain ⟨h1,h2⟩:=hj;(have hjl:j<ops.size:=by rw [← hlen];exact (List.getElem?_eq_some_iff.1 h2).1);refine ⟨j,hjl,?_⟩;(have ho:ops[j]?=some ops[j]:=by simp [hjl]);have hd:=(qKh hdst ho).1;rw [List.getElem?_map] at h1;simp [hjl,hd] at h1;have h4:=hget j hjl;rw [h2] at h4;obtain ⟨p1,p2⟩:=p;simp only at h1 h4;rw [← h1,Option.some.inj h4]
   have hfr:=qIr (a0:=a0.tmps) L a.tmps a0.tmps hsz (fun p hp=>by
    obtain ⟨j,hj,rfl⟩:=hmem p hp
    exact hval j hj) (fun s hs=>hnot s fun j hj he=>hs (by
     rw [← hL,List.map_fst_zip (by simp [hlen])];(have ho:ops[j]?=some ops[j]:=by simp [hj]);have hd:=(qKh hdst ho).1;rw [List.mem_map]
     exact ⟨ops[j],by simp,by rw [hd,he];rfl⟩))
   have:a={ a0 with tmps:=L.foldl (fun t p=>t.setIfInBounds p.1 p.2) a0.tmps }:=by
    obtain ⟨at_,ad⟩:=a;simp only at hfr hdf;rw [hfr,hdf]
   rw [this];exact hQ w hx
def dstO (ops:Array Oper) (j:Nat):Option Nat:=(ops[j]?).bind Oper.dst
def qGi (ops:Array Oper) (n:Nat):Bool:=(ops.toList.filterMap Oper.dst).all (fun s=>decide (s<n)) && decide ((ops.toList.filterMap Oper.dst).Nodup)
def qPj (o:Oper) (j:Nat):Bool:=o.after.toList.any (fun d=>Region.binds .any d && d.on == j)
def qWc (ops:Array Oper):Nat->Oper->Nat->Bool
 | 0,o,c=>qPj o c
 | f+1,o,c=>qPj o c || o.after.toList.any (fun d=>Region.binds .any d && ((ops[d.on]?).map (fun o'=>qWc ops f o' c)).getD false)
def qEl (ops:Array Oper):List Nat->Bool
 | []=>true
 | [c]=>decide (c<ops.size)
 | c :: c' :: l=>decide (c<ops.size) && ((ops[c']?).map (fun o=>qWc ops 6 o c)).getD false && qEl ops (c' :: l)
def qFv (chain:List Nat) (pv us:List Value) (j:Nat):Value:=match chain.idxOf? j with | some i=>us.getD i undef | none=>pv.getD j undef
theorem qEs {ops:Array Oper}:∀ {l:List Nat} {p c:Nat},qEl ops l=true->l[p]?=some c->c<ops.size
 | [],_,_,_,h=>by simp at h
 | [x],0,c,h,hc=>by simp [qEl] at h hc;omega
 | [x],p+1,c,_,hc=>by simp at hc
 | x :: y :: l,0,c,h,hc=>by simp [qEl] at h hc;omega
 | x :: y :: l,p+1,c,h,hc=>by
  simp only [qEl,Bool.and_eq_true] at h;exact qEs (p:=p) h.2 (by simpa using hc)
theorem qNi {ops:Array Oper}:∀ {l:List Nat} {p c c':Nat},qEl ops l=true->l[p]?=some c->l[p+1]?=some c'->∃ o,ops[c']?=some o/\qWc ops 6 o c=true
 | [],_,_,_,_,h,_=>by simp at h
 | [x],p,c,c',_,_,h=>by simp at h
 | x :: y :: l,0,c,c',h,hc,hc'=>by
  simp only [qEl,Bool.and_eq_true] at h;simp at hc hc';subst hc hc'
  cases ho:ops[y]? with
  | none=>rw [ho] at h;simp at h
  | some o=>rw [ho] at h;exact ⟨o,rfl,by simpa using h.1.2⟩
 | x :: y :: l,p+1,c,c',h,hc,hc'=>by
  simp only [qEl,Bool.and_eq_true] at h;exact qNi (p:=p) h.2 (by simpa using hc) (by simpa using hc')
theorem qBk {l:List Nat} (hn:l.Nodup) {p c:Nat} (h:l[p]?=some c):l.idxOf? c=some p:=by
 have hp:=(List.getElem?_eq_some_iff.1 h).1;have hc:l[p]=c:=(List.getElem?_eq_some_iff.1 h).2;subst hc;rw [List.idxOf?_eq_some_iff]
 exact ⟨hp,rfl,fun j hj he=>by
  have:=(List.getElem_inj hn).1 he
  omega⟩
theorem qBx {l:List Nat} {c:Nat} (h:c ∉ l):l.idxOf? c=none:=List.idxOf?_eq_none_iff.2 h
theorem qHt {ops:Array Oper} {n i j s:Nat} (h:qGi ops n=true) (hi:dstO ops i=some s) (hj:dstO ops j=some s):i=j:=by
 simp only [qGi,Bool.and_eq_true,decide_eq_true_eq] at h;obtain ⟨_,hnd⟩:=h
 have key:∀ (l:List Oper) (i j:Nat),(l.filterMap Oper.dst).Nodup->(l[i]?).bind Oper.dst=some s->(l[j]?).bind Oper.dst=some s->i=j:=by
  intro l
  induction l with
  | nil=>intro i j _ h;simp at h
  | cons o l ih =>
   intro i j hn h1 h2
   have mem:∀ k,(l[k]?).bind Oper.dst=some s->s∈l.filterMap Oper.dst:=fun k hk=>by
    rw [Option.bind_eq_some_iff] at hk;obtain ⟨o',h3,h4⟩:=hk;exact List.mem_filterMap.2 ⟨o',List.mem_of_getElem? h3,h4⟩
   cases hd:o.dst with
   | none =>
    have hn':(l.filterMap Oper.dst).Nodup:=by simpa [List.filterMap_cons,hd] using hn
    match i,j with
    | 0,_=>simp [hd] at h1
    | _+1,0=>simp [hd] at h2
    | i+1,j+1=>have:=ih i j hn' (by simpa using h1) (by simpa using h2);omega
   | some s' =>
    have hn':s' ∉ l.filterMap Oper.dst/\(l.filterMap Oper.dst).Nodup:=by
     rw [List.filterMap_cons,hd] at hn;exact List.nodup_cons.1 hn
    match i,j with
    | 0,0=>rfl
    | 0,j+1 =>
     simp [hd] at h1;subst h1;exact absurd (mem j (by simpa using h2)) hn'.1
    | i+1,0 =>
     simp [hd] at h2;subst h2;exact absurd (mem i (by simpa using h1)) hn'.1
    | i+1,j+1=>have:=ih i j hn'.2 (by simpa using h1) (by simpa using h2);omega
 exact key ops.toList i j hnd (by simpa [dstO] using hi) (by simpa [dstO] using hj)
theorem qZo {ops:Array Oper} {n i s:Nat} (h:qGi ops n=true) (hi:dstO ops i=some s):s<n:=by
 simp only [qGi,Bool.and_eq_true,List.all_eq_true] at h;unfold dstO at hi;rw [Option.bind_eq_some_iff] at hi;obtain ⟨o,ho,hd⟩:=hi;have:=h.1 s (List.mem_filterMap.2 ⟨o,by simpa using Array.mem_of_getElem? ho,hd⟩);simpa using this
theorem qDy {o:Oper} {j:Nat} (h:qPj o j=true):∃ d∈o.after,Region.binds .any d=true/\d.on=j:=edge h
theorem qQv {ops:Array Oper} {l:Array Bool} (hcl:∀ j o,l.getD j false=true->ops[j]?=some o->∀ d∈o.after,Region.binds .any d=true->l.getD d.on false=true) {c:Nat} :
 ∀ (f:Nat) (o:Oper),(∀ d∈o.after,Region.binds .any d=true->l.getD d.on false=true)->qWc ops f o c=true->l.getD c false=true
 | 0,o,hall,h=>by
  obtain ⟨d,hd1,hd2,hd3⟩:=qDy (show qPj o c=true from h);(rw [← hd3];exact hall d hd1 hd2)
 | f+1,o,hall,h=>by
  unfold qWc at h
  rcases Bool.or_eq_true_iff.1 h with h | h
  . obtain ⟨d,hd1,hd2,hd3⟩:=qDy h
    rw [← hd3];exact hall d hd1 hd2
  . obtain ⟨d,hd1,hd2⟩:=List.any_eq_true.1 h
    rw [Bool.and_eq_true] at hd2;(have hdm:d∈o.after:=by simpa using hd1);have hdone:=hall d hdm hd2.1
    cases ho':ops[d.on]? with
    | none=>rw [ho'] at hd2;simp at hd2
    | some o' =>
     rw [ho'] at hd2;exact qQv hcl f o' (hcl _ _ hdone ho') (by simpa using hd2.2)
theorem qIo {ops:Array Oper} {l:Array Bool} {chain:List Nat} {q c c':Nat} {o:Oper} (hcl:∀ j o,l.getD j false=true->ops[j]?=some o->∀ d∈o.after,Region.binds .any d=true->l.getD d.on false=true)
 (hall:∀ d∈o.after,Region.binds .any d=true->l.getD d.on false=true) (hch:qEl ops chain=true) (hq:chain[q]?=some c) (hp:chain[q+1]?=some c') (ho:ops[c']?=some o):l.getD c false=true:=by
 obtain ⟨o',ho',he⟩:=qNi hch hq hp;rw [ho] at ho'
 cases ho'
 exact qQv hcl 6 o hall he
def zPq (ops:Array Oper) (chain:List Nat) (pv:List Value) (a0:Act) (J:List Value->World->Prop) (l:Array Bool) (a:Act) (w:World):Prop :=
 l.size=ops.size/\a.defers=a0.defers/\a.tmps.size=a0.tmps.size/\(∀ s,(∀ j,dstO ops j=some s->l.getD j false=false)->a.tmps[s]?=a0.tmps[s]?) /\
 (∀ j o,l.getD j false=true->ops[j]?=some o->∀ d∈o.after,Region.binds .any d=true->l.getD d.on false=true) /\
 ∃ us:List Value,us.length<=chain.length/\(∀ i c,chain[i]?=some c->(l.getD c false=true↔i<us.length))/\(∀ j s,l.getD j false=true->dstO ops j=some s->a.tmps[s]?=some (qFv chain pv us j))/\J us w
structure qRo (ops:Array Oper) (chain:List Nat) (pv us:List Value) (a0 a:Act) (o:Oper):Prop where
 old:∀ s:Nat,ops.toList.all (fun o=>o.dst != some s)=true->a.eval (.tmp s)=a0.eval (.tmp s)
 pure:∀ (j s:Nat) (v:Value),qPj o j=true->dstO ops j=some s->chain.contains j=false->pv[j]?=some v->a.tmps[s]?=some v
 link:∀ (p j s:Nat) (v:Value),chain[p]?=some j->qPj o j=true->dstO ops j=some s->us[p]?=some v->a.tmps[s]?=some v
 did:∀ (p j:Nat),chain[p]?=some j->qPj o j=true->p<us.length
 olds:∀ (p j s:Nat),chain[p]?=some j->dstO ops j=some s->us.length<=p->a.tmps[s]?=a0.tmps[s]?
def qCd (ops:Array Oper) (chain:List Nat) (pv us:List Value):List (Nat × Value):=(List.range ops.size).filterMap fun j=>(dstO ops j).map fun s=>(s,qFv chain pv us j)
theorem qIk {P:Program} {ops:Array Oper} {Q:Exit->Act->World->Prop} {id:Nat} {a0:Act} {W:World} (chain:List Nat) (pv:List Value) (J:List Value->World->Prop) (hm:P.follows .mixedOrders=true) (hdst:qGi ops a0.tmps.size=true) (hord:ordB 0 ops.toList=true)
 (hch:qEl ops chain=true) (hnd:chain.Nodup) (h0:J [] W.drew)
 (hpure:∀ (i:Nat) (o:Oper),ops[i]?=some o->chain.contains i=false->∀ (a:Act) (w:World) (us:List Value) (K:Act->World->Prop),J us w->qRo ops chain pv us a0 a o->(∀ p c oc,chain[p]?=some c->ops[c]?=some oc->qPj oc i=true->us.length<=p)->K (a.put o.dst (pv.getD i undef)) w ->
  if Region.wanted o (yielded ops a.tmps)=true then Oper.wp P o a w K Q else K (a.put o.dst undef) w)
 (hlink:∀ (p c:Nat) (o:Oper),chain[p]?=some c->ops[c]?=some o->∀ (a:Act) (w:World) (us:List Value) (K:Act->World->Prop),us.length=p->J us w->qRo ops chain pv us a0 a o->(∀ v w',J (us++[v]) w'->K (a.put o.dst v) w') ->
  if Region.wanted o (yielded ops a.tmps)=true then Oper.wp P o a w K Q else K (a.put o.dst undef) w)
 (hQ:∀ us w,us.length=chain.length->J us w->Q .normal { a0 with tmps:=(qCd ops chain pv us).foldl (fun t p=>t.setIfInBounds p.1 p.2) a0.tmps } w) :
 (Code.region id ops true).wp P Q a0 W:=by
 refine wp_region_any hm ?_;refine qGv (zPq ops chain pv a0 J) (fun l a w h=>h.1) ?_ (zGk hord) ?_ _ _ _ _ (by simp) ?_
 . intro l a w hI i o ho hl hall K hK
   obtain ⟨hs,hdf,hsz,hnot,hcl,us,hul,hcu,hval,hJ⟩:=hI;have hi:i<ops.size:=(Array.getElem?_eq_some_iff.1 ho).1;have hnl:=qIs hl;have hself:(l.setIfInBounds i true).getD i false=true:=qFc (by omega)
   have hfind:qRo ops chain pv us a0 a o:=by
    refine ⟨fun s hsn=>?_,fun j s v he hd hc hv=>?_,fun p j s v hp he hd hv=>?_,fun p j hp he=>by obtain ⟨d,hd1,hd2,rfl⟩:=qDy he;exact (hcu p _ hp).1 (hall d hd1 hd2),fun p j s hp hj hl0=>hnot s fun j' hj'=>by
     have e:j'=j:=qHt hdst hj' hj;subst e
     cases hx:l.getD j' false
     . rfl
     . exact absurd ((hcu p _ hp).1 hx) (by omega)⟩
    . have:=hnot s (fun j hj=>by
       unfold dstO at hj;rw [Option.bind_eq_some_iff] at hj;obtain ⟨o',h1,h2⟩:=hj;have h3:=List.all_eq_true.1 hsn o' (by simpa using Array.mem_of_getElem? h1);rw [h2] at h3
       simp at h3)
      simp [Act.eval,this]
    . obtain ⟨d,hd1,hd2,rfl⟩:=qDy he
      rw [hval _ s (hall d hd1 hd2) hd];have:chain.idxOf? d.on=none:=qBx (by simpa using hc);simp only [qFv,this];simp [hv]
    . obtain ⟨d,hd1,hd2,rfl⟩:=qDy he
      rw [hval _ s (hall d hd1 hd2) hd];have:chain.idxOf? d.on=some p:=qBk hnd hp;simp only [qFv,this];simp [hv]
   have hclosed:∀ j o',(l.setIfInBounds i true).getD j false=true->ops[j]?=some o'->∀ d∈o'.after,Region.binds .any d=true->(l.setIfInBounds i true).getD d.on false=true:=by
    intro j o' hj ho' d hd hb
    have mono:∀ k,l.getD k false=true->(l.setIfInBounds i true).getD k false=true:=fun k hk=>by
     by_cases hik:i=k
     . subst hik;exact hself
     . rw [qAj hik];exact hk
    by_cases hij:i=j
    . subst hij
      rw [ho] at ho'
      cases ho'
      exact mono _ (hall d hd hb)
    . rw [qAj hij] at hj
      exact mono _ (hcl j o' hj ho' d hd hb)
   have hput:∀ v s,(∀ j,dstO ops j=some s->(l.setIfInBounds i true).getD j false=false)->(a.put o.dst v).tmps[s]?=a0.tmps[s]?:=fun v s hsn=>by
    have hsn':∀ j,dstO ops j=some s->l.getD j false=false:=fun j hj=>by
     have h1:=hsn j hj
     by_cases hij:i=j
     . subst hij;rw [hself] at h1;cases h1
     . rwa [qAj hij] at h1
    cases hd:o.dst with
    | none=>simp only [Act.put];exact hnot s hsn'
    | some t =>
     have:dstO ops i=some t:=by unfold dstO;rw [ho];exact hd
     have hts:t≠s:=fun e=>by
      have h1:=hsn i (by rw [this,e]);(rw [hself] at h1;cases h1)
     simp only [Act.put];rw [Array.getElem?_setIfInBounds_ne hts];exact hnot s hsn'
   have hputd:∀ v,(a.put o.dst v).defers=a0.defers/\(a.put o.dst v).tmps.size=a0.tmps.size:=fun v=>by
    cases hd:o.dst with
    | none=>exact ⟨hdf,hsz⟩
    | some t=>exact ⟨hdf,by simpa [Act.put] using hsz⟩
   have hputv:∀ us' v,qFv chain pv us' i=v->(∀ j,l.getD j false=true->qFv chain pv us' j=qFv chain pv us j)->∀ j s,(l.setIfInBounds i true).getD j false=true->dstO ops j=some s->(a.put o.dst v).tmps[s]?=some (qFv chain pv us' j):=by
    intro us' v hv hsame j s hj hd
    by_cases hij:i=j
    . subst hij
      (have hod:o.dst=some s:=by unfold dstO at hd;rw [ho] at hd;exact hd);rw [hod,hv];have:=qZo hdst hd;simp [Act.put,hsz,this]
    . rw [qAj hij] at hj
      rw [hsame j hj]
      cases hod:o.dst with
      | none=>simp only [Act.put];exact hval j s hj hd
      | some t =>
       (have h1:dstO ops i=some t:=by unfold dstO;rw [ho];exact hod);(have hts:t≠s:=fun e=>hij (qHt hdst h1 (by rw [hd,e])));simp only [Act.put];rw [Array.getElem?_setIfInBounds_ne hts];exact hval j s hj hd
   by_cases hc:i∈chain
   . obtain ⟨p,hp⟩:=List.getElem?_of_mem hc
     have hle:us.length<=p:=by
      rcases Nat.lt_or_ge p us.length with h | h
      . have:=(hcu p i hp).2 h
        rw [hnl] at this
        cases this
      . exact h
     have hge:p<=us.length:=by
      cases p with
      | zero=>omega
      | succ q =>
       have hpl:=(List.getElem?_eq_some_iff.1 hp).1;have hq:chain[q]?=some chain[q]:=List.getElem?_eq_getElem (by omega);have:=(hcu q _ hq).1 (qIo hcl hall hch hq hp ho);omega
     have hpl:=(List.getElem?_eq_some_iff.1 hp).1;refine hlink p i o hp ho a w us K (by omega) hJ hfind (fun v w' hJ'=>?_);apply hK;(have hlen:(us++[v]).length=us.length+1:=by simp);refine ⟨by simpa using hs,(hputd v).1,(hputd v).2,hput v,hclosed,us++[v],by rw [hlen];omega,fun q c hq=>?_,hputv _ v ?_ ?_,hJ'⟩
     . rw [hlen]
       by_cases hic:i=c
       . subst hic
         have:q=p:=by
          have h1:=qBk hnd hq;have h2:=qBk hnd hp;rw [h1] at h2;exact Option.some.inj h2
         rw [hself];simp;omega
       . rw [qAj hic,hcu q c hq]
         (have:q≠p:=fun e=>hic (by rw [e,hp] at hq;exact Option.some.inj hq));omega
     . simp only [qFv,qBk hnd hp]
       rw [List.getD_eq_getElem?_getD,List.getElem?_append_right (by omega)];(have:p-us.length=0:=by omega);simp [this]
     . intro j hj
       unfold qFv
       cases hx:chain.idxOf? j with
       | none=>rfl
       | some q =>
        have hq:chain[q]?=some j:=by
         obtain ⟨h1,h2,_⟩:=List.idxOf?_eq_some_iff.1 hx;rw [List.getElem?_eq_getElem h1,h2]
        have:=(hcu q j hq).1 hj;simp only [List.getD_eq_getElem?_getD];rw [List.getElem?_append_left this]
   . refine hpure i o ho (by simpa using hc) a w us K hJ hfind (fun p c oc hp hoc he=>?_) ?_
     . rcases Nat.lt_or_ge p us.length with h | h
       . obtain ⟨d,hd1,hd2,hd3⟩:=qDy he
         have:=hcl c oc ((hcu p c hp).2 h) hoc d hd1 hd2;rw [hd3,hnl] at this
         cases this
       . exact h
     . apply hK
       refine ⟨by simpa using hs,(hputd _).1,(hputd _).2,hput _,hclosed,us,hul,fun q c hq=>?_,hputv us _ ?_ (fun _ _=>rfl),hJ⟩
       . have:i≠c:=fun e=>hc (by rw [e];exact List.mem_of_getElem? hq)
         rw [qAj this];exact hcu q c hq
       . simp only [qFv,qBx hc]
 . rintro l a w ⟨hs,hdf,hsz,hnot,hcl,us,hul,hcu,hval,hJ⟩ hall
   have hlen:us.length=chain.length:=by
    rcases Nat.lt_or_ge us.length chain.length with h | h
    . have hq:chain[us.length]?=some chain[us.length]:=List.getElem?_eq_getElem h
      have:=(hcu _ _ hq).1 (hall _ (qEs hch hq));omega
    . omega
   have hfr:=qIr (a0:=a0.tmps) (qCd ops chain pv us) a.tmps a0.tmps hsz (fun p hp=>by
    obtain ⟨j,hj,hv⟩:=List.mem_filterMap.1 hp;rw [Option.map_eq_some_iff] at hv;obtain ⟨s,hd,rfl⟩:=hv
    exact hval j s (hall j (by simpa using hj)) hd) (fun s hsn=>hnot s fun j hj=>absurd (by
     have hjl:j<ops.size:=by
      unfold dstO at hj;rw [Option.bind_eq_some_iff] at hj;obtain ⟨o',h1,_⟩:=hj;exact (Array.getElem?_eq_some_iff.1 h1).1
     rw [List.mem_map]
     exact ⟨(s,qFv chain pv us j),List.mem_filterMap.2 ⟨j,by simpa using hjl,by rw [hj];rfl⟩,rfl⟩) hsn)
   have:a={ a0 with tmps:=(qCd ops chain pv us).foldl (fun t p=>t.setIfInBounds p.1 p.2) a0.tmps }:=by
    obtain ⟨at_,ad⟩:=a;simp only at hfr hdf;rw [hfr,hdf]
   rw [this];exact hQ us w hlen hJ
 . refine ⟨by simp,rfl,rfl,fun _ _=>rfl,fun j o h=>?_,[],by simp,fun i c hc=>?_,fun j s h=>?_,h0⟩
   . simp [Array.getElem?_replicate] at h
     split at h<;>simp at h
   . have:(Array.replicate ops.size false).getD c false=false:=by
      simp [Array.getElem?_replicate]
      split<;>rfl
     rw [this];simp
   . simp [Array.getElem?_replicate] at h
     split at h<;>simp at h
theorem qBf {P:Program} {op:Oper} {a:Act} {w:World} {K:Act->World->Prop} {Q:Exit->Act->World->Prop} (ty:TypeId) (x:Operand) (ho:op.op = .load ty x) (g:Nat) (t:TypeId) (cs:Array Value) (d:TypeDesc) (hx:a.eval x = .pointer (some ⟨g,0,none⟩))
 (hB:Blk w g t cs) (hu:P.underlying ty=some d) (hd:d.isRow=true) (hi:(P.info? ty).map (·.size)=some cs.size) (h:K (a.put op.dst (.agg cs)) w):op.wp P a w K Q:=by
 refine wp_load_mid ty x ho g 0 hx cs.toList d (fun j v hv=>?_) hu hd (by simpa using hi) (by simpa using h);rw [hB.cell];simpa using hv
def qFm (o:Oper):List Nat:=(o.after.toList.filter (fun d=>Region.binds .any d)).map (·.on)
theorem qDk {o:Oper} {j:Nat} (h:(qFm o).contains j=true):qPj o j=true:=by
 (have h':j∈qFm o:=by simpa using h);obtain ⟨d,hd,rfl⟩:=List.mem_map.1 h';rw [List.mem_filter] at hd;exact List.any_eq_true.2 ⟨d,hd.1,by simp [hd.2]⟩
structure Sees (slots:List (Option Nat)) (deps:List (List Nat)) (chain:List Nat) (pv us:List Value) (a0 a:Act) (i:Nat):Prop where
 old:∀ (s:Nat) (v:Value),slots.contains (some s)=false->a0.eval (.tmp s)=v->a.eval (.tmp s)=v
 pure:∀ (j s:Nat) (v:Value),(deps.getD i []).contains j=true->slots[j]?=some (some s)->chain.contains j=false->pv[j]?=some v->a.eval (.tmp s)=v
 link:∀ (p j s:Nat) (v:Value),chain[p]?=some j->(deps.getD i []).contains j=true->slots[j]?=some (some s)->us[p]?=some v->a.eval (.tmp s)=v
 did:∀ (p j:Nat),chain[p]?=some j->(deps.getD i []).contains j=true->p<us.length
 olds:∀ (p j s:Nat) (v:Value),chain[p]?=some j->slots[j]?=some (some s)->us.length<=p->a0.eval (.tmp s)=v->a.eval (.tmp s)=v
theorem qRo.sees {ops:Array Oper} {chain:List Nat} {pv us:List Value} {a0 a:Act} {o:Oper} {slots:List (Option Nat)} {deps:List (List Nat)} {i:Nat} (hs:ops.toList.map (·.dst)=slots) (hd:ops.toList.map qFm=deps) (ho:ops[i]?=some o) (h:qRo ops chain pv us a0 a o):Sees slots deps chain pv us a0 a i:=by
 have hdo:deps.getD i []=qFm o:=by
  rw [← hd,List.getD_eq_getElem?_getD,List.getElem?_map];(have:ops.toList[i]?=some o:=by simpa using ho);(rw [this];rfl)
 have hsl:∀ j s,slots[j]?=some (some s)->dstO ops j=some s:=fun j s h=>by
  rw [← hs,List.getElem?_map,Option.map_eq_some_iff] at h;obtain ⟨o',h1,h2⟩:=h;(have h1':ops[j]?=some o':=by simpa using h1);simp [dstO,h1',h2]
 refine ⟨fun s v hc hv=>(h.old s ?_).trans hv,fun j s v he hj hc hv=>qAg (h.pure j s v (qDk (by rw [← hdo];exact he)) (hsl j s hj) hc hv),fun p j s v hp he hj hv=>qAg (h.link p j s v hp (qDk (by rw [← hdo];exact he)) (hsl j s hj) hv),fun p j hp he=>h.did p j hp (qDk (by rw [← hdo];exact he)),fun p j s v hp hj hl0 hv=>by rw [← hv];simp [Act.eval,h.olds p j s hp (hsl j s hj) hl0]⟩;(have hn:some s ∉ ops.toList.map (·.dst):=by rw [hs];simpa using hc);(refine List.all_eq_true.2 fun o' ho'=>?_);(have:o'.dst≠some s:=fun e=>hn (List.mem_map.2 ⟨o',ho',e⟩));simp [this]
theorem qAr {P:Program} {ops:Array Oper} {Q:Exit->Act->World->Prop} {id:Nat} {a0:Act} {W:World} (slots:List (Option Nat)) (deps:List (List Nat)) (chain:List Nat) (pv:List Value) (J:List Value->World->Prop) (hm:P.follows .mixedOrders=true) (hdst:qGi ops a0.tmps.size=true) (hord:ordB 0 ops.toList=true)
 (hs:ops.toList.map (·.dst)=slots) (hd:ops.toList.map qFm=deps) (hg:ops.toList.all (fun o=>o.guard.isNone)=true) (hch:qEl ops chain=true) (hnd:chain.Nodup) (h0:J [] W.drew)
 (hpure:∀ (i:Nat) (o:Oper),ops[i]?=some o->chain.contains i=false->∀ (a:Act) (w:World) (us:List Value) (K:Act->World->Prop),J us w->Sees slots deps chain pv us a0 a i->(∀ p c,chain[p]?=some c->(deps.getD c []).contains i=true->us.length<=p)->K (a.put o.dst (pv.getD i undef)) w->Oper.wp P o a w K Q)
 (hlink:∀ (p c:Nat) (o:Oper),chain[p]?=some c->ops[c]?=some o->∀ (a:Act) (w:World) (us:List Value) (K:Act->World->Prop),us.length=p->J us w->Sees slots deps chain pv us a0 a c->(∀ v w',J (us++[v]) w'->K (a.put o.dst v) w')->Oper.wp P o a w K Q)
 (hQ:∀ us w,us.length=chain.length->J us w->Q .normal { a0 with tmps:=(qCd ops chain pv us).foldl (fun t p=>t.setIfInBounds p.1 p.2) a0.tmps } w) :
 (Code.region id ops true).wp P Q a0 W:=by
 have hgd:∀ (i:Nat) (o:Oper),ops[i]?=some o->o.guard=none:=fun i o ho=>by
  have:=List.all_eq_true.1 hg o (by simpa using Array.mem_of_getElem? ho);simpa using this
 refine qIk chain pv J hm hdst hord hch hnd h0 (fun i o ho hc a w us K hJ hF hl hk=>?_) (fun p c o hp ho a w us K hl hJ hF hk=>?_) hQ
 . refine qAm (hgd i o ho) (hpure i o ho hc a w us K hJ (hF.sees hs hd ho) (fun p c hp he=>?_) hk)
   have hcl:=qEs hch hp;(have hoc:ops[c]?=some ops[c]:=by simp [hcl]);refine hl p c _ hp hoc (qDk ?_)
   have:deps.getD c []=qFm ops[c]:=by
    rw [← hd,List.getD_eq_getElem?_getD,List.getElem?_map];(have:ops.toList[c]?=some ops[c]:=by simp [hcl]);(rw [this];rfl)
   rw [← this];exact he
 . exact qAm (hgd c o ho) (hlink p c o hp ho a w us K hl hJ (hF.sees hs hd ho) hk)
theorem wrap_i64 {a:Int} (h1:-9223372036854775808<=a) (h2:a<=9223372036854775807):IntKind.i64.wrap a=a:=by
 simp [IntKind.wrap,IntKind.bits,IntKind.signed];omega
section
variable {P:Program} {o:Oper} {a:Act} {w:World} {K:Act->World->Prop} {Q:Exit->Act->World->Prop}
theorem qPc {f:FuncId} {x:Operand} {ts:Array TypeId} {v:Value} (ho:o.op = .call { callee:=.value (.func f),args:=#[x],argTypes:=ts }) (hx:a.eval x=v)
 (hent:∀ args w,(callFunc f args).run P w = .ok (.enter f args) w) {r:Value} (hc:Calls P f #[v] w fun en w'=>en = .returned r/\Ext w w') (h:∀ w',Ext w w'->K (a.put o.dst r) w'):o.wp P a w K Q :=
 qHi ho hx hent hc fun _ w' hr=>⟨r,hr.1,h w' hr.2⟩
theorem qFr {op:BinOp} {x y:Operand} {ty ty':TypeId} {u v r:Value} (ho:o.op = .binOp op ty x y ty') (hx:a.eval x=u) (hy:a.eval y=v) (hr:(do eqGuard op ty x y u v;binOp op ty u v:Sem Value).run P w = .ok r w) (h:K (a.put o.dst r) w):o.wp P a w K Q:=by
 unfold Oper.wp execOp;simp only [ho,hx,hy];simp only [Sem.run_bind] at hr ⊢;rw [hr];exact h
theorem zPm {op:UnOp} {x:Operand} {ty:TypeId} {u r:Value} (ho:o.op = .unOp op ty x) (hx:a.eval x=u) (hr:(Op.unary op u).run P w = .ok r w) (h:K (a.put o.dst r) w):o.wp P a w K Q:=by
 unfold Oper.wp execOp;simp only [ho,hx,Sem.run_bind];rw [hr];exact h
end
end
end Go.Proofs.YtneffpbodfjceaaGreatDoor