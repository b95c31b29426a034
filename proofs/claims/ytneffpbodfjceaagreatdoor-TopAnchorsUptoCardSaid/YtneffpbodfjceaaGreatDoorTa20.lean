/- Texts laid together. -/
import Derived.Test.YtneffpbodfjceaaGreatDoorTa19
set_option linter.unusedVariables false
set_option linter.unusedSimpArgs false
set_option maxRecDepth 100000
set_option maxHeartbeats 16000000
namespace Go.Proofs.YtneffpbodfjceaaGreatDoor
section
open Go.RowKit
inductive SK
 | no
 | pure (s:Nat)
 | link (s p:Nat)
 | made (s:Nat)
def SK.slot:SK->Option Nat
 | .no=>none
 | .pure s=>some s
 | .link s _=>some s
 | .made s=>some s
def qZz (chain al:List Nat) (i:Nat):Option Nat->SK
 | none=>.no
 | some s=>match chain.idxOf? i with
   | some p=>.link s p
   | none=>if al.contains i then .made s else .pure s
def qJo (chain al:List Nat):Nat->List Oper->List SK
 | _,[]=>[]
 | i,o :: r=>qZz chain al i o.dst :: qJo chain al (i+1) r
def qGk (av:Nat->Nat->Value) (us:List Value) (gs:Nat->Option Nat):Nat->List SK->List Value->Array Value->Array Value
 | _,[],_,t=>t
 | _,_ :: _,[],t=>t
 | i,.no :: r,_ :: vs,t=>qGk av us gs (i+1) r vs t
 | i,.pure s :: r,v :: vs,t=>qGk av us gs (i+1) r vs (t.setIfInBounds s v)
 | i,.link s p :: r,_ :: vs,t=>qGk av us gs (i+1) r vs (t.setIfInBounds s (us.getD p undef))
 | i,.made s :: r,_ :: vs,t=>qGk av us gs (i+1) r vs (t.setIfInBounds s (((gs i).map (av i)).getD undef))
theorem qOb {chain al:List Nat}:∀ (l:List Oper) (i:Nat),(qJo chain al i l).map SK.slot=l.map (·.dst)
 | [],_=>rfl
 | o :: l,i=>by
   simp only [qJo,List.map_cons,qOb l]
   congr 1
   unfold qZz
   cases o.dst with
   | none=>rfl
   | some s =>
     dsimp only
     cases chain.idxOf? i with
     | some p=>rfl
     | none=>cases al.contains i<;>rfl
theorem zFx {av:Nat->Nat->Value} {chain al:List Nat} {pv us:List Value} {gs:Nat->Option Nat} {L:List Oper}:∀ (l:List Oper) (vs:List Value) (i:Nat) (t:Array Value),L.drop i=l->pv.drop i=vs->vs.length=l.length ->
 qGk av us gs i (qJo chain al i l) vs t=((List.range' i l.length).filterMap fun j=>(dstO L.toArray j).map fun s=>(s,valG av chain al pv us gs j)).foldl (fun t p=>t.setIfInBounds p.1 p.2) t
 | [],_,i,t,_,_,_=>by simp [qJo,qGk]
 | o :: l,[],i,t,_,_,h=>by simp at h
 | o :: l,v :: vs,i,t,hl,hv,hn=>by
   have ho:L[i]?=some o:=by
    have:=congrArg (·[0]?) hl;simpa [List.getElem?_drop] using this
   have hvi:pv[i]?=some v:=by
    have:=congrArg (·[0]?) hv;simpa [List.getElem?_drop] using this
   have hl':L.drop (i+1)=l:=by
    have:=congrArg (List.drop 1) hl;simpa [List.drop_drop,Nat.add_comm] using this
   have hv':pv.drop (i+1)=vs:=by
    have:=congrArg (List.drop 1) hv;simpa [List.drop_drop,Nat.add_comm] using this
   (have ih:=fun t=>zFx (av:=av) (chain:=chain) (al:=al) (us:=us) (gs:=gs) l vs (i+1) t hl' hv' (by simpa using hn));(have hd:dstO L.toArray i=o.dst:=by simp [dstO,ho]);simp only [List.length_cons,List.range'_succ,List.filterMap_cons,hd,qJo]
   cases hs:o.dst with
   | none=>simp only [qZz,qGk,Option.map_none,ih]
   | some s =>
     simp only [Option.map_some,List.foldl_cons,qZz];unfold valG
     cases hc:chain.idxOf? i with
     | some p=>simp only [qGk,ih];rfl
     | none =>
       cases ha:al.contains i with
       | true=>simp only [if_pos,qGk,ih];rfl
       | false =>
         simp only [Bool.false_eq_true,if_false,qGk,ih,List.getD_eq_getElem?_getD,hvi,Option.getD_some];rfl
theorem qPd {P:Program} {l:List Oper} {Q:Exit->Act->World->Prop} {id:Nat} {a0:Act} {W:World} (ks:List SK) (deps:List (List Nat)) (chain al:List Nat) (pv:List Value) (av:Nat->Nat->Value) (obj:Nat->Obj) (J:List Value->(Nat->Option Nat)->World->Prop) (hm:P.follows .mixedOrders=true) (hdst:qGi l.toArray a0.tmps.size=true) (hord:ordB 0 l=true)
 (hs:qJo chain al 0 l=ks) (hd:l.map qFm=deps) (hn:pv.length=l.length) (hch:qEl l.toArray chain=true) (hnd:decide chain.Nodup=true) (hal:(al.all fun j=>decide (j<l.length) && !chain.contains j)=true) (h0:J [] (fun _=>none) W.drew)
 (hJal:∀ (i:Nat),al.contains i=true->∀ us gs w,J us gs w->gs i=none->(∀ p c,chain[p]?=some c->(deps.getD c []).contains i=true->us.length<=p)->J us (upd gs i w.heap.size) (w.alloc (obj i)))
 (hst:qHr (qDx P l.toArray Q av (ks.map SK.slot) deps chain al pv obj J a0) 0 l)
 (hQ:∀ us gs w,us.length=chain.length->(∀ j,al.contains j=true->(gs j).isSome=true)->J us gs w->Q .normal { a0 with tmps:=qGk av us gs 0 ks pv a0.tmps } w) :
 (Code.region id l.toArray true).wp P Q a0 W :=
 qZf (ks.map SK.slot) deps chain al pv av obj J hm hdst hord (by rw [← hs,qOb]) hd hch (of_decide_eq_true hnd) hal h0 hJal hst fun us gs w h1 h2 h3=>by
  have:=hQ us gs w h1 h2 h3;rw [← hs,zFx (chain:=chain) (al:=al) (L:=l) l pv 0 _ rfl rfl hn] at this;unfold qVk;rw [List.size_toArray,List.range_eq_range'];exact this
structure EdW where
 op:Int
 id:Int
 other:Int
 in_:Int
 out:Int
 frame:Int
 row:Int
 fr:Int
 til:Int
 kind:Int
 color:Int
 it:Bool
 un:Bool
 name:ByteArray
 text:ByteArray
 reg:Reg
 ra:Option Addr
 rn:Nat
 rc:Nat
def EdW.cells (x:EdW):Array Value:=#[.int .u8 x.op,.int .i64 x.id,.int .i64 x.other,.int .i64 x.in_,.int .i64 x.out,.int .i64 x.frame,.int .i64 x.row,.int .i64 x.fr,.int .i64 x.til,.int .u8 x.kind,.int .u8 x.color,.bool x.it,.bool x.un,.string x.name,.string x.text,
 .string x.reg.name,.int .i64 x.reg.top,.int .i64 x.reg.height,.int .i64 x.reg.left,.int .i64 x.reg.width,.int .u8 x.reg.align,.bool x.reg.bottom,.slice x.ra x.rn x.rc]
theorem zFr (a b:Int) (w:World):(binOp .eql 38 (.agg #[.int .i64 a,.int .i64 b]) (.agg #[.int .i64 0,.int .i64 0])).run Tryz.prog w = .ok (.bool (decide (a=0) && decide (b=0))) w:=by
 go_simp
 by_cases h1:a=0<;>by_cases h2:b=0<;>simp [h1,h2]
theorem zCe (c:Int) (i u:Bool) (w:World):(binOp .eql 42 (.agg #[.int .u8 c,.bool i,.bool u]) (.agg #[.int .u8 0,.bool false,.bool false])).run Tryz.prog w = .ok (.bool (decide (c=0) && (!i && !u))) w:=by
 go_simp
 by_cases h1:c=0<;>cases i<;>cases u<;>simp [h1]
def Reg.z (r:Reg):Bool:=r.name.toList.isEmpty && (r.top == 0 && (r.height == 0 && (r.left == 0 && (r.width == 0 && (r.align == 0 && !r.bottom)))))
theorem zJz (n:ByteArray) (t h l d al:Int) (b:Bool) (w:World):(binOp .eql 45 (.agg #[.string n,.int .i64 t,.int .i64 h,.int .i64 l,.int .i64 d,.int .u8 al,.bool b]) (.agg #[.string ⟨#[]⟩,.int .i64 0,.int .i64 0,.int .i64 0,.int .i64 0,.int .u8 0,.bool false])).run Tryz.prog w = .ok (.bool (Reg.z ⟨n,t,h,l,d,al,b⟩)) w:=by
 unfold Reg.z;go_simp;(have e:n.toList=[]↔n.toList.isEmpty=true:=by simp)
 by_cases h1:n.toList=[]<;>by_cases h2:t=0<;>by_cases h3:h=0<;>by_cases h4:l=0<;>by_cases h5:d=0<;>by_cases h6:al=0<;>cases b<;>simp [h1,h2,h3,h4,h5,h6]
def EdW.zeros (x:EdW):List (Int × Bool):=[(1,x.id == 0),(2,x.other == 0),(4,decide (x.in_=0) && decide (x.out=0)),(8,x.frame == 0),(16,x.row == 0),(32,x.fr == 0 && x.til == 0),(64,x.kind == 0),(128,decide (x.color=0) && (!x.it && !x.un)),(256,x.name.toList.isEmpty),(512,x.text.toList.isEmpty),(1024,x.reg.z),(2048,(x.rn:Int) == 0)]
def qNj (uses:Int) (p:Int × Bool):Bool:=decide (bits BinOp.and IntKind.i64 uses p.1=0) && !p.2
def EdW.spare (x:EdW) (uses:Int):Bool:=!(x.zeros.any (qNj uses))
def SpRel (w4:World) (uses:Int) (Z:List (Int × Bool)) (i:Value) (wr:World):Prop:=∃ k:Nat,k<=12/\i = .int .i64 (k:Int)/\Ext w4 wr/\(Z.take k).any (qNj uses)=false
theorem flat2 {Z:List (Int × Bool)} {k:Nat} {p:Int × Bool} (h:Z[k]?=some p):(Z.flatMap fun p=>[Value.int .i64 p.1,.bool p.2])[k*2]?=some (.int .i64 p.1)/\(Z.flatMap fun p=>[Value.int .i64 p.1,.bool p.2])[k*2+1]?=some (.bool p.2):=by
 induction Z generalizing k with
 | nil=>simp at h
 | cons q Z ih =>
   cases k with
   | zero=>simp at h;subst h;exact ⟨rfl,rfl⟩
   | succ k =>
     have:=ih (k:=k) (by simpa using h);simp only [List.flatMap_cons,Nat.succ_mul];exact ⟨this.1,this.2⟩
theorem zRf {w4 wr:World} {g:Nat} {T:TypeId} {Z:List (Int × Bool)} {n k:Nat} (HG:Blk w4 g T (Z.flatMap fun p=>[Value.int .i64 p.1,.bool p.2]).toArray) (hx:Ext w4 wr) (hL:Z.length=n) (hk:k<n) :
 ∃ b z,Z[k]?=some (b,z)/\wr.cell? ⟨g,k*2,none⟩=some (.int .i64 b)/\wr.cell? ⟨g,k*2+1,none⟩=some (.bool z):=by
 have h:Z[k]?=some Z[k]:=List.getElem?_eq_getElem (by omega);obtain ⟨h1,h2⟩:=flat2 h;(have hc:=fun o=>(HG.ext hx).cell o);(refine ⟨_,_,h,?_,?_⟩<;>rw [hc]<;>simpa)
theorem zEy {uses:Int} {Z:List (Int × Bool)} {k:Nat} {p:Int × Bool} (h:Z[k]?=some p) (hc:qNj uses p=true):Z.any (qNj uses)=true:=List.any_eq_true.2 ⟨p,List.mem_of_getElem? h,hc⟩
theorem qQf {uses:Int} {Z:List (Int × Bool)} {k:Nat} {p:Int × Bool} (ht:(Z.take k).any (qNj uses)=false) (h:Z[k]?=some p) (hc:qNj uses p=false):(Z.take (k+1)).any (qNj uses)=false:=by
 rw [List.take_add_one,h,List.any_append,ht];simp [hc]
theorem qWo (x:EdW) (uses:Int) (w:World):Calls Tryz.prog 103 #[.agg x.cells,.int .i64 uses] w fun e w'=>e = .returned (.bool (x.spare uses))/\Ext w w':=by
 obtain ⟨Z,hZ⟩:∃ Z,Z=x.zeros:=⟨_,rfl⟩;have HS:Hid (x.spare uses = !(Z.any (qNj uses))):=gH (by rw [hZ];rfl);generalize x.spare uses=sp at HS;obtain ⟨op,id,other,in_,out,frame,row,fr,til,kind,color,it,un,name,text,⟨rn_,rt,rh,rl,rw_,ral,rb⟩,ra,rn,rc⟩:=x
 have hfr:(∃ h:fr=0,(fr == 0)=true)\/(fr == 0)=false:=by
  by_cases h:fr=0
  . exact .inl ⟨h,by simp [h]⟩
  . exact .inr (by simp [h])
 obtain ⟨W1,hW1⟩:∃ W1,W1=w.alloc (.cells (EdW.cells ⟨op,id,other,in_,out,frame,row,fr,til,kind,color,it,un,name,text,⟨rn_,rt,rh,rl,rw_,ral,rb⟩,ra,rn,rc⟩) 48):=⟨_,rfl⟩;have HX:Hid (Ext w W1):=gH (by rw [hW1];exact (Ext.refl w).alloc _);have HB:Hid (Blk W1 w.heap.size 48 (EdW.cells ⟨op,id,other,in_,out,frame,row,fr,til,kind,color,it,un,name,text,⟨rn_,rt,rh,rl,rw_,ral,rb⟩,ra,rn,rc⟩)):=gH (by rw [hW1];exact Blk.new w _ _);unfold EdW.cells at hW1 HB ⊢
 rcases hfr with ⟨rfl,hbz⟩ | hbz
 all_goals
  go_enter Tryz.func103,Tryz.ntmps103;go_wp2_with fail;rw [← hW1];clear hW1;(have he1:=fun w=>zFr in_ out w);(have he2:=fun w=>zCe color it un w);(have he3:=fun w=>zJz rn_ rt rh rl rw_ ral rb w)
  refine qPd (.pure 7 :: .pure 8 :: .pure 9 :: .pure 10 :: .pure 11 :: .pure 12 :: .pure 13 :: .pure 14 :: .pure 15 :: .pure 16 :: .pure 17 :: .pure 18 :: .pure 19 :: .pure 20 :: .pure 21 :: .pure 22 :: .pure 23 :: .pure 24 :: .pure 25 :: .pure 26 :: .pure 27 :: .pure 28 :: .pure 29 :: .pure 30 :: .pure 31 :: .pure 32 :: .pure 33 :: .pure 34 :: .pure 35 :: .pure 36 :: .pure 37 :: .pure 38 :: .pure 39 :: .pure 40 :: .pure 41 :: .pure 42 :: .pure 43 :: .pure 44 :: .pure 45 :: .pure 46 :: .pure 47 :: .pure 48 :: .pure 49 :: .pure 50 :: .pure 51 :: .pure 52 :: .pure 53 :: .pure 54 :: .pure 55 :: .pure 56 :: .pure 57 :: .pure 58 :: .pure 59 :: .pure 60 :: .pure 61 :: .pure 62 :: .pure 63 :: .made 64 :: .pure 65 :: .pure 66 :: []) ([] :: [0] :: [1] :: [2] :: [] :: [4] :: [5] :: [6] :: [] :: [8] :: [] :: [9,10] :: [11] :: [] :: [13] :: [14] :: [15] :: [] :: [17] :: [18] :: [19] :: [] :: [21] :: [22] :: [23] :: [24] :: [25,24] :: [26,24] :: [24,27] :: [28] :: [] :: [30] :: [31] :: [32] :: [] :: [34] :: [] :: [35,36] :: [37] :: [] :: [39] :: [40] :: [41] :: [] :: [43] :: [44] :: [45] :: [] :: [47] :: [] :: [48,49] :: [50] :: [] :: [52] :: [53] :: [54] :: [55] :: [3,7,12,16,20,29,33,38,42,46,51,56] :: [57] :: [] :: []) [] [57] (?_ :: ?_ :: ?_ :: ?_ :: ?_ :: ?_ :: ?_ :: ?_ :: ?_ :: ?_ :: ?_ :: ?_ :: ?_ :: ?_ :: ?_ :: ?_ :: ?_ :: ?_ :: ?_ :: ?_ :: ?_ :: ?_ :: ?_ :: ?_ :: ?_ :: ?_ :: ?_ :: ?_ :: ?_ :: ?_ :: ?_ :: ?_ :: ?_ :: ?_ :: ?_ :: ?_ :: ?_ :: ?_ :: ?_ :: ?_ :: ?_ :: ?_ :: ?_ :: ?_ :: ?_ :: ?_ :: ?_ :: ?_ :: ?_ :: ?_ :: ?_ :: ?_ :: ?_ :: ?_ :: ?_ :: ?_ :: ?_ :: undef :: ?_ :: ?_ :: []) (fun _ g=>.slice (some ⟨g,0,none⟩) 12 12) (fun _=>.cells ?_ 280) (AlJ W1 _) (by kernel_rfl) (by kernel_rfl) (by kernel_rfl) (by kernel_rfl) (by kernel_rfl) (by kernel_rfl) (by kernel_rfl) (by kernel_rfl) (by kernel_rfl) (AlJ.start _ _) (fun i _ us gs w hJ _ _=>hJ.alloc i) ?_ ?_
  rotate_right 2
  . iterate 57
     refine qDx.pure (by rfl) (by rfl) (fun a w' us gs K hJ hF hl hk=>?_) ?_
     . have e:=hF.all
       repeat
        obtain ⟨f,e⟩:=e
        first
         | replace f:a.eval (.tmp _)=_:=f
         | (obtain ⟨g,hg,f⟩:=f
            replace f:a.eval (.tmp _)=_:=f)
        have f':=f;simp [Act.eval] at f'
       try clear e
       first
        | (refine qMi rfl rfl (by assumption) ?_;exact hk)
        | ((first
             | refine qEb rfl ?_
             | refine qHl rfl rfl (by assumption) ?_)
           (have hc:=fun o=>(HB.out.ext hJ.2.1).cell o);have h2:=hF.old 2 _ rfl rfl;simp only [Act.eval] at h2;have hk:=gH hk;clear hF hJ hl
           first
            | (go_simp;exact hk.out)
            | (refine wp_load_mid 38 _ rfl _ 3 (by assumption) [.int .i64 in_,.int .i64 out] _ (qFe hc 3 _ ⟨_,rfl⟩) Tryz.underlying38 rfl (by kernel_rfl) ?_;exact hk.out)
            | (refine wp_load_mid 42 _ rfl _ 10 (by assumption) [.int .u8 color,.bool it,.bool un] _ (qFe hc 10 _ ⟨_,rfl⟩) Tryz.underlying42 rfl (by kernel_rfl) ?_;exact hk.out)
            | (refine wp_load_mid 45 _ rfl _ 15 (by assumption) [.string rn_,.int .i64 rt,.int .i64 rh,.int .i64 rl,.int .i64 rw_,.int .u8 ral,.bool rb] _ (qFe hc 15 _ ⟨_,rfl⟩) Tryz.underlying45 rfl (by kernel_rfl) ?_;exact hk.out))
    refine qDx.alloc (by rfl) (by rfl) (fun a w' us gs K hF hk=>?_) ?_
    . have e:=hF.all
      repeat
       obtain ⟨f,e⟩:=e
       first
        | replace f:a.eval (.tmp _)=_:=f
        | (obtain ⟨g,hg,f⟩:=f
           replace f:a.eval (.tmp _)=_:=f)
       have f':=f;simp [Act.eval] at f'
      try clear e
      refine qEb rfl ?_;have hk:=gH hk;clear hF
      first
       | (go_simp;exact hk.out)
       | (refine wp_load_mid 38 _ rfl _ 3 (by assumption) [.int .i64 in_,.int .i64 out] _ (qFe hc 3 _ ⟨_,rfl⟩) Tryz.underlying38 rfl (by kernel_rfl) ?_;exact hk.out)
       | (refine wp_load_mid 42 _ rfl _ 10 (by assumption) [.int .u8 color,.bool it,.bool un] _ (qFe hc 10 _ ⟨_,rfl⟩) Tryz.underlying42 rfl (by kernel_rfl) ?_;exact hk.out)
       | (refine wp_load_mid 45 _ rfl _ 15 (by assumption) [.string rn_,.int .i64 rt,.int .i64 rh,.int .i64 rl,.int .i64 rw_,.int .u8 ral,.bool rb] _ (qFe hc 15 _ ⟨_,rfl⟩) Tryz.underlying45 rfl (by kernel_rfl) ?_;exact hk.out)
    iterate 2
     refine qDx.pure (by rfl) (by rfl) (fun a w' us gs K hJ hF hl hk=>?_) ?_
     . have e:=hF.all
       repeat
        obtain ⟨f,e⟩:=e
        first
         | replace f:a.eval (.tmp _)=_:=f
         | (obtain ⟨g,hg,f⟩:=f
            replace f:a.eval (.tmp _)=_:=f)
        have f':=f;simp [Act.eval] at f'
       try clear e
       first
        | (refine qMi rfl rfl (by assumption) ?_;exact hk)
        | ((first
             | refine qEb rfl ?_
             | refine qHl rfl rfl (by assumption) ?_)
           (have hc:=fun o=>(HB.out.ext hJ.2.1).cell o);have h2:=hF.old 2 _ rfl rfl;simp only [Act.eval] at h2;have hk:=gH hk;clear hF hJ hl
           first
            | (go_simp;exact hk.out)
            | (refine wp_load_mid 38 _ rfl _ 3 (by assumption) [.int .i64 in_,.int .i64 out] _ (qFe hc 3 _ ⟨_,rfl⟩) Tryz.underlying38 rfl (by kernel_rfl) ?_;exact hk.out)
            | (refine wp_load_mid 42 _ rfl _ 10 (by assumption) [.int .u8 color,.bool it,.bool un] _ (qFe hc 10 _ ⟨_,rfl⟩) Tryz.underlying42 rfl (by kernel_rfl) ?_;exact hk.out)
            | (refine wp_load_mid 45 _ rfl _ 15 (by assumption) [.string rn_,.int .i64 rt,.int .i64 rh,.int .i64 rl,.int .i64 rw_,.int .u8 ral,.bool rb] _ (qFe hc 15 _ ⟨_,rfl⟩) Tryz.underlying45 rfl (by kernel_rfl) ?_;exact hk.out))
    exact trivial
  . intro us gs w4 hl hgs hJ
    obtain ⟨rfl,hx4,hb4⟩:=hJ;obtain ⟨g57,hg57⟩:=Option.isSome_iff_exists.1 (hgs 57 rfl)
    first | (rename_i hK;refine hK _ _ ?_;clear hK) | (rename_i hK hK_1;refine hK _ _ ?_;clear hK) | (rename_i hK hK_1 hK_2;refine hK _ _ ?_;clear hK) | (rename_i hK hK_1 hK_2 hK_3;refine hK _ _ ?_;clear hK)
    simp only [qGk,hg57,Option.map_some,Option.getD_some,List.getD_cons_zero,List.getD_cons_succ,List.setIfInBounds_toArray,List.set_cons_zero,List.set_cons_succ];have HG:Hid (Blk w4 g57 280 (Z.flatMap fun p=>[Value.int .i64 p.1,.bool p.2]).toArray):=gH (by rw [hZ];unfold EdW.zeros;rw [hbz];exact (hb4 57 g57 hg57).2);(have hL:Z.length=12:=by rw [hZ];rfl);have HX4:=gH (HX.out.trans hx4);clear hb4 hgs hl hx4 hg57 he1 he2 he3 hbz HB;go_wp2_with fail
    go_loopw [66] (fun i wr=>SpRel w4 uses Z i wr) (fun i _=>12-(intOf i).toNat)
    case atStart=>exact ⟨0,Nat.zero_le _,rfl,Ext.refl _,rfl⟩
    case round =>
     obtain ⟨k,hk,rfl,hx,ht⟩:=hrel;have HT:=gH ht;have HXk:=gH hx;clear ht hx;(have hk0:(0:Int)<=(k:Int):=by omega)
     by_cases hlt:k<12
     . obtain ⟨b,z,hp,c0,c1⟩:=zRf HG.out HXk.out hL hlt
       have HP:=gH hp;(have hk1:(k:Int)<12:=by omega);clear hp
       cases z
       . by_cases hb:bits BinOp.and IntKind.i64 uses b=0
         . have HN:=gH (zEy (uses:=uses) HP.out (by simp [qNj,hb]))
           go_wp2_with fail;go_ret;exact ⟨by rw [HS.out,HN.out];rfl,HX4.out.trans (HXk.out.alloc _)⟩
         . have HN:=gH (qQf HT.out HP.out (by simp [qNj,hb]))
           go_wp2_with fail;exact ⟨⟨k+1,by omega,by go_num,HXk.out.alloc _,HN.out⟩,by simp [intOf];omega⟩
       . have HN:=gH (qQf HT.out HP.out (by simp [qNj]))
         by_cases hb:bits BinOp.and IntKind.i64 uses b=0
         . go_wp2_with fail
           exact ⟨⟨k+1,by omega,by go_num,HXk.out.alloc _,HN.out⟩,by simp [intOf];omega⟩
         . go_wp2_with fail
           exact ⟨⟨k+1,by omega,by go_num,HXk.out.alloc _,HN.out⟩,by simp [intOf];omega⟩
     . obtain rfl:k=12:=by omega
       go_wp2_with fail;go_ret;exact ⟨by rw [HS.out,← List.take_of_length_le (Nat.le_of_eq hL),HT.out];rfl,HX4.out.trans HXk.out⟩
def EdW.oth (x:EdW):Bool:=if x.op=11 then inB x.other (-5184000) 5184000 else inB x.other 1 1099511627776
def EdW.oks (x:EdW):List (Int × Bool):=[(1,inB x.id 1 1099511627776),(2,x.oth),(4,decide (x.in_>=0) && decide (x.in_<x.out) && decide (x.out<=5184000)),(8,inB x.frame 0 5184000),(16,decide (x.row>=0) && decide (x.row<4)),(32,inB x.fr 0 262144 && inB x.til 0 262144)]
def offB (uses:Int) (p:Int × Bool):Bool:=!decide (bits BinOp.and IntKind.i64 uses p.1=0) && !p.2
def EdW.ranged (x:EdW) (uses:Int):Bool:=!(x.oks.any (offB uses))
def zQa (w4:World) (uses:Int) (Z:List (Int × Bool)) (i:Value) (wr:World):Prop:=∃ k:Nat,k<=6/\i = .int .i64 (k:Int)/\Ext w4 wr/\(Z.take k).any (offB uses)=false
theorem zOo {uses:Int} {Z:List (Int × Bool)} {k:Nat} {p:Int × Bool} (h:Z[k]?=some p) (hc:offB uses p=true):Z.any (offB uses)=true:=List.any_eq_true.2 ⟨p,List.mem_of_getElem? h,hc⟩
theorem zAh {uses:Int} {Z:List (Int × Bool)} {k:Nat} {p:Int × Bool} (ht:(Z.take k).any (offB uses)=false) (h:Z[k]?=some p) (hc:offB uses p=false):(Z.take (k+1)).any (offB uses)=false:=by
 rw [List.take_add_one,h,List.any_append,ht];simp [hc]
theorem qQu (x:EdW) (uses:Int) (w:World):Calls Tryz.prog 104 #[.agg x.cells,.int .i64 uses] w fun e w'=>e = .returned (.bool (x.ranged uses))/\Ext w w':=by
 obtain ⟨Z,hZ⟩:∃ Z,Z=x.oks:=⟨_,rfl⟩;have HS:Hid (x.ranged uses = !(Z.any (offB uses))):=gH (by rw [hZ];rfl);generalize x.ranged uses=sp at HS;obtain ⟨op,id,other,in_,out,frame,row,fr,til,kind,color,it,un,name,text,⟨rn_,rt,rh,rl,rw_,ral,rb⟩,ra,rn,rc⟩:=x;unfold EdW.oks EdW.oth at hZ;dsimp only at hZ;generalize hb1:decide (in_>=0)=b1 at hZ;generalize hb2:decide (in_<out)=b2 at hZ;generalize hb3:decide (out<=5184000)=b3 at hZ;generalize hq1:decide (row>=0)=q1 at hZ;generalize hq2:decide (row<4)=q2 at hZ;generalize hr1:inB fr 0 262144=r1 at hZ;generalize hr2:inB til 0 262144=r2 at hZ;obtain ⟨W1,hW1⟩:∃ W1,W1=w.alloc (.cells (EdW.cells ⟨op,id,other,in_,out,frame,row,fr,til,kind,color,it,un,name,text,⟨rn_,rt,rh,rl,rw_,ral,rb⟩,ra,rn,rc⟩) 48):=⟨_,rfl⟩;have HX:Hid (Ext w W1):=gH (by rw [hW1];exact (Ext.refl w).alloc _);have HB:Hid (Blk W1 w.heap.size 48 (EdW.cells ⟨op,id,other,in_,out,frame,row,fr,til,kind,color,it,un,name,text,⟨rn_,rt,rh,rl,rw_,ral,rb⟩,ra,rn,rc⟩)):=gH (by rw [hW1];exact Blk.new w _ _);unfold EdW.cells at hW1 HB ⊢
 have hop:op=11\/(¬ op=11/\(op == 11)=false):=by
  by_cases h:op=11
  . exact .inl h
  . exact .inr ⟨h,by simp [h]⟩
 rcases hop with rfl | ⟨hop,hop'⟩
 all_goals
  first
   | rw [if_pos rfl] at hZ
   | (rw [if_neg hop] at hZ
      clear hop)
  (have hc0:=fun o=>HB.out.cell o);go_enter Tryz.func104,Tryz.ntmps104;go_wp2_with fail;rw [← hW1];clear hW1;go_wp2_with fail;refine (qAn _ _ _ _).mono ?_;rintro e w2 ⟨rfl,rfl⟩;go_wp2_with fail
  try
   refine (qAn _ _ _ _).mono ?_;rintro e w2 ⟨rfl,rfl⟩;go_wp2_with fail
  clear hc0
  refine qPd (.pure 17 :: .pure 18 :: .pure 19 :: .pure 20 :: .pure 21 :: .pure 22 :: .pure 23 :: .pure 24 :: .pure 25 :: .pure 26 :: .pure 27 :: .pure 28 :: .pure 29 :: .pure 30 :: .pure 31 :: .pure 32 :: .pure 33 :: .pure 34 :: .pure 35 :: .pure 36 :: .pure 37 :: .pure 38 :: .pure 39 :: .pure 40 :: .pure 41 :: .pure 42 :: .pure 43 :: .pure 44 :: .pure 45 :: .pure 46 :: .pure 47 :: .pure 48 :: .pure 49 :: .pure 50 :: .pure 51 :: .pure 52 :: .pure 53 :: .pure 54 :: .pure 55 :: .pure 56 :: .pure 57 :: .pure 58 :: .pure 59 :: .pure 60 :: .pure 61 :: .pure 62 :: .pure 63 :: .pure 64 :: .made 65 :: .pure 66 :: .pure 67 :: []) ([] :: [0] :: [1] :: [2] :: [] :: [4] :: [] :: [6] :: [7] :: [8] :: [9,2] :: [10] :: [11,10] :: [12,10] :: [10] :: [14,10] :: [15,10] :: [13,16,10] :: [10,17] :: [18,10] :: [19] :: [20,19] :: [21,19] :: [22,19] :: [19,23] :: [24] :: [] :: [26] :: [27,19] :: [28] :: [] :: [30] :: [31] :: [32,28] :: [33] :: [34,33] :: [35,33] :: [33,36] :: [37] :: [] :: [39] :: [40,33] :: [41,41] :: [42] :: [43,42] :: [44,42,42] :: [42,45] :: [46] :: [3,5,25,29,38,47] :: [48] :: [] :: []) [] [48] (?_ :: ?_ :: ?_ :: ?_ :: ?_ :: ?_ :: ?_ :: ?_ :: ?_ :: ?_ :: ?_ :: (bif b1 then .pointer (some ⟨w.heap.size,3,none⟩) else undef) :: (bif b1 then .pointer (some ⟨w.heap.size,3,none⟩) else undef) :: (bif b1 then .int .i64 in_ else undef) :: (bif b1 then .pointer (some ⟨w.heap.size,3,none⟩) else undef) :: (bif b1 then .pointer (some ⟨w.heap.size,4,none⟩) else undef) :: (bif b1 then .int .i64 out else undef) :: (bif b1 then .bool b2 else undef) :: (.bool (b1 && b2)) :: (.bool (b1 && b2)) :: (bif (b1 && b2) then .pointer (some ⟨w.heap.size,3,none⟩) else undef) :: (bif (b1 && b2) then .pointer (some ⟨w.heap.size,4,none⟩) else undef) :: (bif (b1 && b2) then .int .i64 out else undef) :: (bif (b1 && b2) then .bool b3 else undef) :: (.bool (b1 && b2 && b3)) :: ?_ :: ?_ :: ?_ :: ?_ :: ?_ :: ?_ :: ?_ :: ?_ :: ?_ :: (bif q1 then .pointer (some ⟨w.heap.size,6,none⟩) else undef) :: (bif q1 then .int .i64 row else undef) :: (bif q1 then .bool q2 else undef) :: (.bool (q1 && q2)) :: ?_ :: ?_ :: ?_ :: ?_ :: ?_ :: (bif r1 then .pointer (some ⟨w.heap.size,8,none⟩) else undef) :: (bif r1 then .int .i64 til else undef) :: (bif r1 then .bool r2 else undef) :: (.bool (r1 && r2)) :: ?_ :: undef :: ?_ :: ?_ :: []) (fun _ g=>.slice (some ⟨g,0,none⟩) 6 6) (fun _=>.cells ?_ 283) (AlJ W1 _) (by kernel_rfl) (by kernel_rfl) (by kernel_rfl) (by kernel_rfl) (by kernel_rfl) (by kernel_rfl) (by kernel_rfl) (by kernel_rfl) (by kernel_rfl) (AlJ.start _ _) (fun i _ us gs w hJ _ _=>hJ.alloc i) ?_ ?_
  rotate_right 2
  . iterate 11
     refine qDx.pure (by rfl) (by rfl) (fun a w' us gs K hJ hF hl hk=>?_) ?_
     . have e:=hF.all
       repeat
        obtain ⟨f,e⟩:=e
        first
         | replace f:a.eval (.tmp _)=_:=f
         | (obtain ⟨g,hg,f⟩:=f
            replace f:a.eval (.tmp _)=_:=f)
        have f':=f;simp [Act.eval] at f'
       try clear e
       first
        | (refine qMi rfl rfl (by assumption) ?_;exact hk)
        | ((first
             | refine qEb rfl ?_
             | refine qHl rfl rfl (by assumption) ?_)
           (have hc:=fun o=>(HB.out.ext hJ.2.1).cell o);have h2:=hF.old 2 _ rfl rfl;have h5:=hF.old 5 _ rfl rfl;simp only [Act.eval] at h2 h5;have hk:=gH hk;clear hF hJ hl
           first
            | (go_simp;exact hk.out)
            | (refine qAv rfl (by assumption) rfl rfl Tryz.call187 (qAn _ _ _ w') ?_;exact hk.out)
            | (refine qAv rfl (by assumption) rfl rfl Tryz.call187 (qAn _ _ _ w') ?_;rw [hr1];exact hk.out)
            | (refine qAv rfl (by assumption) rfl rfl Tryz.call187 (qAn _ _ _ w') ?_;rw [hr2];exact hk.out))
    iterate 8
     refine qDx.pure (by rfl) (by rfl) (fun a w' us gs K hJ hF hl hk=>?_) ?_
     . have e:=hF.all
       repeat
        obtain ⟨f,e⟩:=e
        first
         | replace f:a.eval (.tmp _)=_:=f
         | (obtain ⟨g,hg,f⟩:=f
            replace f:a.eval (.tmp _)=_:=f)
        have f':=f;simp [Act.eval] at f'
       try clear e
       cases b1<;>first
        | (refine qMi rfl rfl (by assumption) ?_;exact hk)
        | ((first
             | refine qEb rfl ?_
             | refine qHl rfl rfl (by assumption) ?_)
           (have hc:=fun o=>(HB.out.ext hJ.2.1).cell o);have h2:=hF.old 2 _ rfl rfl;have h5:=hF.old 5 _ rfl rfl;simp only [Act.eval] at h2 h5;have hk:=gH hk;clear hF hJ hl
           first
            | (go_simp;exact hk.out)
            | (refine qAv rfl (by assumption) rfl rfl Tryz.call187 (qAn _ _ _ w') ?_;exact hk.out)
            | (refine qAv rfl (by assumption) rfl rfl Tryz.call187 (qAn _ _ _ w') ?_;rw [hr1];exact hk.out)
            | (refine qAv rfl (by assumption) rfl rfl Tryz.call187 (qAn _ _ _ w') ?_;rw [hr2];exact hk.out))
    refine qDx.pure (by rfl) (by rfl) (fun a w' us gs K hJ hF hl hk=>?_) ?_
    . have e:=hF.all
      repeat
       obtain ⟨f,e⟩:=e
       first
        | replace f:a.eval (.tmp _)=_:=f
        | (obtain ⟨g,hg,f⟩:=f
           replace f:a.eval (.tmp _)=_:=f)
       have f':=f;simp [Act.eval] at f'
      try clear e
      first
       | (refine qMi rfl rfl (by assumption) ?_;exact hk)
       | ((first
            | refine qEb rfl ?_
            | refine qHl rfl rfl (by assumption) ?_)
          (have hc:=fun o=>(HB.out.ext hJ.2.1).cell o);have h2:=hF.old 2 _ rfl rfl;have h5:=hF.old 5 _ rfl rfl;simp only [Act.eval] at h2 h5;have hk:=gH hk;clear hF hJ hl
          first
           | (go_simp;exact hk.out)
           | (refine qAv rfl (by assumption) rfl rfl Tryz.call187 (qAn _ _ _ w') ?_;exact hk.out)
           | (refine qAv rfl (by assumption) rfl rfl Tryz.call187 (qAn _ _ _ w') ?_;rw [hr1];exact hk.out)
           | (refine qAv rfl (by assumption) rfl rfl Tryz.call187 (qAn _ _ _ w') ?_;rw [hr2];exact hk.out))
    iterate 5
     refine qDx.pure (by rfl) (by rfl) (fun a w' us gs K hJ hF hl hk=>?_) ?_
     . have e:=hF.all
       repeat
        obtain ⟨f,e⟩:=e
        first
         | replace f:a.eval (.tmp _)=_:=f
         | (obtain ⟨g,hg,f⟩:=f
            replace f:a.eval (.tmp _)=_:=f)
        have f':=f;simp [Act.eval] at f'
       try clear e
       cases b1<;>cases b2<;>first
        | (refine qMi rfl rfl (by assumption) ?_;exact hk)
        | ((first
             | refine qEb rfl ?_
             | refine qHl rfl rfl (by assumption) ?_)
           (have hc:=fun o=>(HB.out.ext hJ.2.1).cell o);have h2:=hF.old 2 _ rfl rfl;have h5:=hF.old 5 _ rfl rfl;simp only [Act.eval] at h2 h5;have hk:=gH hk;clear hF hJ hl
           first
            | (go_simp;exact hk.out)
            | (refine qAv rfl (by assumption) rfl rfl Tryz.call187 (qAn _ _ _ w') ?_;exact hk.out)
            | (refine qAv rfl (by assumption) rfl rfl Tryz.call187 (qAn _ _ _ w') ?_;rw [hr1];exact hk.out)
            | (refine qAv rfl (by assumption) rfl rfl Tryz.call187 (qAn _ _ _ w') ?_;rw [hr2];exact hk.out))
    iterate 9
     refine qDx.pure (by rfl) (by rfl) (fun a w' us gs K hJ hF hl hk=>?_) ?_
     . have e:=hF.all
       repeat
        obtain ⟨f,e⟩:=e
        first
         | replace f:a.eval (.tmp _)=_:=f
         | (obtain ⟨g,hg,f⟩:=f
            replace f:a.eval (.tmp _)=_:=f)
        have f':=f;simp [Act.eval] at f'
       try clear e
       first
        | (refine qMi rfl rfl (by assumption) ?_;exact hk)
        | ((first
             | refine qEb rfl ?_
             | refine qHl rfl rfl (by assumption) ?_)
           (have hc:=fun o=>(HB.out.ext hJ.2.1).cell o);have h2:=hF.old 2 _ rfl rfl;have h5:=hF.old 5 _ rfl rfl;simp only [Act.eval] at h2 h5;have hk:=gH hk;clear hF hJ hl
           first
            | (go_simp;exact hk.out)
            | (refine qAv rfl (by assumption) rfl rfl Tryz.call187 (qAn _ _ _ w') ?_;exact hk.out)
            | (refine qAv rfl (by assumption) rfl rfl Tryz.call187 (qAn _ _ _ w') ?_;rw [hr1];exact hk.out)
            | (refine qAv rfl (by assumption) rfl rfl Tryz.call187 (qAn _ _ _ w') ?_;rw [hr2];exact hk.out))
    iterate 4
     refine qDx.pure (by rfl) (by rfl) (fun a w' us gs K hJ hF hl hk=>?_) ?_
     . have e:=hF.all
       repeat
        obtain ⟨f,e⟩:=e
        first
         | replace f:a.eval (.tmp _)=_:=f
         | (obtain ⟨g,hg,f⟩:=f
            replace f:a.eval (.tmp _)=_:=f)
        have f':=f;simp [Act.eval] at f'
       try clear e
       cases q1<;>first
        | (refine qMi rfl rfl (by assumption) ?_;exact hk)
        | ((first
             | refine qEb rfl ?_
             | refine qHl rfl rfl (by assumption) ?_)
           (have hc:=fun o=>(HB.out.ext hJ.2.1).cell o);have h2:=hF.old 2 _ rfl rfl;have h5:=hF.old 5 _ rfl rfl;simp only [Act.eval] at h2 h5;have hk:=gH hk;clear hF hJ hl
           first
            | (go_simp;exact hk.out)
            | (refine qAv rfl (by assumption) rfl rfl Tryz.call187 (qAn _ _ _ w') ?_;exact hk.out)
            | (refine qAv rfl (by assumption) rfl rfl Tryz.call187 (qAn _ _ _ w') ?_;rw [hr1];exact hk.out)
            | (refine qAv rfl (by assumption) rfl rfl Tryz.call187 (qAn _ _ _ w') ?_;rw [hr2];exact hk.out))
    iterate 5
     refine qDx.pure (by rfl) (by rfl) (fun a w' us gs K hJ hF hl hk=>?_) ?_
     . have e:=hF.all
       repeat
        obtain ⟨f,e⟩:=e
        first
         | replace f:a.eval (.tmp _)=_:=f
         | (obtain ⟨g,hg,f⟩:=f
            replace f:a.eval (.tmp _)=_:=f)
        have f':=f;simp [Act.eval] at f'
       try clear e
       first
        | (refine qMi rfl rfl (by assumption) ?_;exact hk)
        | ((first
             | refine qEb rfl ?_
             | refine qHl rfl rfl (by assumption) ?_)
           (have hc:=fun o=>(HB.out.ext hJ.2.1).cell o);have h2:=hF.old 2 _ rfl rfl;have h5:=hF.old 5 _ rfl rfl;simp only [Act.eval] at h2 h5;have hk:=gH hk;clear hF hJ hl
           first
            | (go_simp;exact hk.out)
            | (refine qAv rfl (by assumption) rfl rfl Tryz.call187 (qAn _ _ _ w') ?_;exact hk.out)
            | (refine qAv rfl (by assumption) rfl rfl Tryz.call187 (qAn _ _ _ w') ?_;rw [hr1];exact hk.out)
            | (refine qAv rfl (by assumption) rfl rfl Tryz.call187 (qAn _ _ _ w') ?_;rw [hr2];exact hk.out))
    iterate 4
     refine qDx.pure (by rfl) (by rfl) (fun a w' us gs K hJ hF hl hk=>?_) ?_
     . have e:=hF.all
       repeat
        obtain ⟨f,e⟩:=e
        first
         | replace f:a.eval (.tmp _)=_:=f
         | (obtain ⟨g,hg,f⟩:=f
            replace f:a.eval (.tmp _)=_:=f)
        have f':=f;simp [Act.eval] at f'
       try clear e
       cases r1<;>first
        | (refine qMi rfl rfl (by assumption) ?_;exact hk)
        | ((first
             | refine qEb rfl ?_
             | refine qHl rfl rfl (by assumption) ?_)
           (have hc:=fun o=>(HB.out.ext hJ.2.1).cell o);have h2:=hF.old 2 _ rfl rfl;have h5:=hF.old 5 _ rfl rfl;simp only [Act.eval] at h2 h5;have hk:=gH hk;clear hF hJ hl
           first
            | (go_simp;exact hk.out)
            | (refine qAv rfl (by assumption) rfl rfl Tryz.call187 (qAn _ _ _ w') ?_;exact hk.out)
            | (refine qAv rfl (by assumption) rfl rfl Tryz.call187 (qAn _ _ _ w') ?_;rw [hr1];exact hk.out)
            | (refine qAv rfl (by assumption) rfl rfl Tryz.call187 (qAn _ _ _ w') ?_;rw [hr2];exact hk.out))
    refine qDx.pure (by rfl) (by rfl) (fun a w' us gs K hJ hF hl hk=>?_) ?_
    . have e:=hF.all
      repeat
       obtain ⟨f,e⟩:=e
       first
        | replace f:a.eval (.tmp _)=_:=f
        | (obtain ⟨g,hg,f⟩:=f
           replace f:a.eval (.tmp _)=_:=f)
       have f':=f;simp [Act.eval] at f'
      try clear e
      first
       | (refine qMi rfl rfl (by assumption) ?_;exact hk)
       | ((first
            | refine qEb rfl ?_
            | refine qHl rfl rfl (by assumption) ?_)
          (have hc:=fun o=>(HB.out.ext hJ.2.1).cell o);have h2:=hF.old 2 _ rfl rfl;have h5:=hF.old 5 _ rfl rfl;simp only [Act.eval] at h2 h5;have hk:=gH hk;clear hF hJ hl
          first
           | (go_simp;exact hk.out)
           | (refine qAv rfl (by assumption) rfl rfl Tryz.call187 (qAn _ _ _ w') ?_;exact hk.out)
           | (refine qAv rfl (by assumption) rfl rfl Tryz.call187 (qAn _ _ _ w') ?_;rw [hr1];exact hk.out)
           | (refine qAv rfl (by assumption) rfl rfl Tryz.call187 (qAn _ _ _ w') ?_;rw [hr2];exact hk.out))
    refine qDx.alloc (by rfl) (by rfl) (fun a w' us gs K hF hk=>?_) ?_
    . have e:=hF.all
      repeat
       obtain ⟨f,e⟩:=e
       first
        | replace f:a.eval (.tmp _)=_:=f
        | (obtain ⟨g,hg,f⟩:=f
           replace f:a.eval (.tmp _)=_:=f)
       have f':=f;simp [Act.eval] at f'
      try clear e
      refine qEb rfl ?_;have hk:=gH hk;clear hF
      first
       | (go_simp;exact hk.out)
       | (refine qAv rfl (by assumption) rfl rfl Tryz.call187 (qAn _ _ _ w') ?_;exact hk.out)
       | (refine qAv rfl (by assumption) rfl rfl Tryz.call187 (qAn _ _ _ w') ?_;rw [hr1];exact hk.out)
       | (refine qAv rfl (by assumption) rfl rfl Tryz.call187 (qAn _ _ _ w') ?_;rw [hr2];exact hk.out)
    iterate 2
     refine qDx.pure (by rfl) (by rfl) (fun a w' us gs K hJ hF hl hk=>?_) ?_
     . have e:=hF.all
       repeat
        obtain ⟨f,e⟩:=e
        first
         | replace f:a.eval (.tmp _)=_:=f
         | (obtain ⟨g,hg,f⟩:=f
            replace f:a.eval (.tmp _)=_:=f)
        have f':=f;simp [Act.eval] at f'
       try clear e
       first
        | (refine qMi rfl rfl (by assumption) ?_;exact hk)
        | ((first
             | refine qEb rfl ?_
             | refine qHl rfl rfl (by assumption) ?_)
           (have hc:=fun o=>(HB.out.ext hJ.2.1).cell o);have h2:=hF.old 2 _ rfl rfl;have h5:=hF.old 5 _ rfl rfl;simp only [Act.eval] at h2 h5;have hk:=gH hk;clear hF hJ hl
           first
            | (go_simp;exact hk.out)
            | (refine qAv rfl (by assumption) rfl rfl Tryz.call187 (qAn _ _ _ w') ?_;exact hk.out)
            | (refine qAv rfl (by assumption) rfl rfl Tryz.call187 (qAn _ _ _ w') ?_;rw [hr1];exact hk.out)
            | (refine qAv rfl (by assumption) rfl rfl Tryz.call187 (qAn _ _ _ w') ?_;rw [hr2];exact hk.out))
    exact trivial
  . intro us gs w4 hl hgs hJ
    obtain ⟨rfl,hx4,hb4⟩:=hJ;obtain ⟨g48,hg48⟩:=Option.isSome_iff_exists.1 (hgs 48 rfl)
    first | (rename_i hK;refine hK _ _ ?_;clear hK) | (rename_i hK hK_1;refine hK _ _ ?_;clear hK) | (rename_i hK hK_1 hK_2;refine hK _ _ ?_;clear hK) | (rename_i hK hK_1 hK_2 hK_3;refine hK _ _ ?_;clear hK)
    simp only [qGk,hg48,Option.map_some,Option.getD_some,List.getD_cons_zero,List.getD_cons_succ,List.setIfInBounds_toArray,List.set_cons_zero,List.set_cons_succ];have HG:Hid (Blk w4 g48 283 (Z.flatMap fun p=>[Value.int .i64 p.1,.bool p.2]).toArray):=gH (by rw [hZ];exact (hb4 48 g48 hg48).2);(have hL:Z.length=6:=by rw [hZ];rfl);have HX4:=gH (HX.out.trans hx4);clear hb4 hgs hl hx4 hg48 hb1 hb2 hb3 hq1 hq2 hr1 hr2 HB;go_wp2_with fail
    go_loopw [67] (fun i wr=>zQa w4 uses Z i wr) (fun i _=>6-(intOf i).toNat)
    case atStart=>exact ⟨0,Nat.zero_le _,rfl,Ext.refl _,rfl⟩
    case round =>
     obtain ⟨k,hk,rfl,hx,ht⟩:=hrel;have HT:=gH ht;have HXk:=gH hx;clear ht hx;(have hk0:(0:Int)<=(k:Int):=by omega)
     by_cases hlt:k<6
     . obtain ⟨b,z,hp,c0,c1⟩:=zRf HG.out HXk.out hL hlt
       have HP:=gH hp;(have hk1:(k:Int)<6:=by omega);clear hp
       cases z
       . by_cases hb:¬ bits BinOp.and IntKind.i64 uses b=0
         . have HN:=gH (zOo (uses:=uses) HP.out (by simp [offB,hb]))
           go_wp2_with fail;go_ret;exact ⟨by rw [HS.out,HN.out];rfl,HX4.out.trans (HXk.out.alloc _)⟩
         . have hb:=Decidable.not_not.1 hb
           have HN:=gH (zAh HT.out HP.out (by simp [offB,hb]));go_wp2_with fail;exact ⟨⟨k+1,by omega,by go_num,HXk.out.alloc _,HN.out⟩,by simp [intOf];omega⟩
       . have HN:=gH (zAh HT.out HP.out (by simp [offB]))
         by_cases hb:bits BinOp.and IntKind.i64 uses b=0
         . go_wp2_with fail
           exact ⟨⟨k+1,by omega,by go_num,HXk.out.alloc _,HN.out⟩,by simp [intOf];omega⟩
         . go_wp2_with fail
           exact ⟨⟨k+1,by omega,by go_num,HXk.out.alloc _,HN.out⟩,by simp [intOf];omega⟩
     . obtain rfl:k=6:=by omega
       go_wp2_with fail;go_ret;exact ⟨by rw [HS.out,← List.take_of_length_le (Nat.le_of_eq hL),HT.out];rfl,HX4.out.trans HXk.out⟩
theorem zDn (id:Int) (A:Option Addr) (n c:Nat) (w:World):Calls Tryz.prog 103 #[.agg (edC 4 id 0 0 ⟨#[]⟩ ⟨#[]⟩ (.slice A n c)),.int .i64 2049] w fun e w'=>e = .returned (.bool true)/\Ext w w' :=
 (qWo ⟨4,id,0,0,0,0,0,0,0,0,0,false,false,⟨#[]⟩,⟨#[]⟩,⟨⟨#[]⟩,0,0,0,0,0,false⟩,A,n,c⟩ 2049 w).mono fun e w' h=>⟨h.1.trans (congrArg (fun b=>Ending.returned (.bool b)) (by kernel_rfl)),h.2⟩
theorem zDm (id fr til:Int) (nm tx:ByteArray) (w:World):Calls Tryz.prog 103 #[.agg (edC 17 id fr til nm tx (.slice none 0 0)),.int .i64 801] w fun e w'=>e = .returned (.bool true)/\Ext w w' :=
 (qWo ⟨17,id,0,0,0,0,0,fr,til,0,0,false,false,nm,tx,⟨⟨#[]⟩,0,0,0,0,0,false⟩,none,0,0⟩ 801 w).mono fun e w' h=>⟨h.1.trans (congrArg (fun b=>Ending.returned (.bool b)) (by kernel_rfl)),h.2⟩
theorem qYq (id:Int) (A:Option Addr) (n c:Nat) (w:World):Calls Tryz.prog 104 #[.agg (edC 4 id 0 0 ⟨#[]⟩ ⟨#[]⟩ (.slice A n c)),.int .i64 2049] w fun e w'=>e = .returned (.bool (inB id 1 1099511627776))/\Ext w w' :=
 (qQu ⟨4,id,0,0,0,0,0,0,0,0,0,false,false,⟨#[]⟩,⟨#[]⟩,⟨⟨#[]⟩,0,0,0,0,0,false⟩,A,n,c⟩ 2049 w).mono fun e w' h=>⟨h.1.trans (congrArg (fun b=>Ending.returned (.bool b)) ((show _ = !(!(inB id 1 1099511627776) || false) by kernel_rfl).trans (by simp))),h.2⟩
theorem qYp (id fr til:Int) (nm tx:ByteArray) (w:World):Calls Tryz.prog 104 #[.agg (edC 17 id fr til nm tx (.slice none 0 0)),.int .i64 801] w fun e w'=>e = .returned (.bool (inB id 1 1099511627776 && (inB fr 0 262144 && inB til 0 262144)))/\Ext w w' :=
 (qQu ⟨17,id,0,0,0,0,0,fr,til,0,0,false,false,nm,tx,⟨⟨#[]⟩,0,0,0,0,0,false⟩,none,0,0⟩ 801 w).mono fun e w' h=>⟨h.1.trans (congrArg (fun b=>Ending.returned (.bool b)) ((show _ = !(!(inB id 1 1099511627776) || (!(inB fr 0 262144 && inB til 0 262144) || false)) by kernel_rfl).trans (by simp))),h.2⟩
def zQq:List (ByteArray × Int):=[(⟨#[65,68,68]⟩,6980),(⟨#[82,69,77,79,86,69]⟩,1),(⟨#[84,73,77,69]⟩,5),(⟨#[82,79,87,83]⟩,2049),(⟨#[80,76,65,67,69]⟩,4353),(⟨#[75,73,78,68]⟩,65),(⟨#[83,80,69,65,75,69,82]⟩,4353),(⟨#[83,84,89,76,69]⟩,177),(⟨#[83,80,76,73,84]⟩,25),(⟨#[74,79,73,78]⟩,3),(⟨#[83,72,73,70,84]⟩,10),(⟨#[82,69,71,73,79,78]⟩,1024),(⟨#[77,79,86,69]⟩,1024),(⟨#[85,78,82,69,71,73,79,78]⟩,256),(⟨#[84,73,84,76,69]⟩,512),(⟨#[76,65,78,71]⟩,4352),(⟨#[78,79,84,69]⟩,801),(⟨#[68,79,78,69]⟩,1),(⟨#[85,78,78,79,84,69]⟩,1)]
def qFn:Array Value:=#[.string ⟨#[65,68,68]⟩,.int .i64 6980,.string ⟨#[82,69,77,79,86,69]⟩,.int .i64 1,.string ⟨#[84,73,77,69]⟩,.int .i64 5,.string ⟨#[82,79,87,83]⟩,.int .i64 2049,.string ⟨#[80,76,65,67,69]⟩,.int .i64 4353,.string ⟨#[75,73,78,68]⟩,.int .i64 65,.string ⟨#[83,80,69,65,75,69,82]⟩,.int .i64 4353,.string ⟨#[83,84,89,76,69]⟩,.int .i64 177,.string ⟨#[83,80,76,73,84]⟩,.int .i64 25,.string ⟨#[74,79,73,78]⟩,.int .i64 3,.string ⟨#[83,72,73,70,84]⟩,.int .i64 10,.string ⟨#[82,69,71,73,79,78]⟩,.int .i64 1024,.string ⟨#[77,79,86,69]⟩,.int .i64 1024,.string ⟨#[85,78,82,69,71,73,79,78]⟩,.int .i64 256,.string ⟨#[84,73,84,76,69]⟩,.int .i64 512,.string ⟨#[76,65,78,71]⟩,.int .i64 4352,.string ⟨#[78,79,84,69]⟩,.int .i64 801,.string ⟨#[68,79,78,69]⟩,.int .i64 1,.string ⟨#[85,78,78,79,84,69]⟩,.int .i64 1]
theorem qHw (w:World):Calls Tryz.prog 59 #[] w fun e w'=>∃ f,e = .returned (.slice (some ⟨f,0,none⟩) 19 19)/\w.heap.size<=f/\Blk w' f 133 qFn/\Ext w w':=by
 have HB:=gH (Blk.new w 133 qFn);have HX:=gH ((Ext.refl w).alloc (.cells qFn 133));unfold qFn at HB HX;go_enter Tryz.func59,Tryz.ntmps59;go_wp2_with fail;go_ret;exact ⟨_,rfl,Nat.le_refl _,HB.out,HX.out⟩
structure FmJ (k:Nat) (uses:Int) (W:World) (us:List Value) (gs:Nat->Option Nat) (w:World):Prop where
 ext:Ext W w
 va:∀ g,gs 7=some g->W.heap.size<=g/\Blk w g 3 (if us.length<=4 then #[.int .i64 0] else #[.int .i64 uses])
 fs:∀ u0,us[0]?=some u0->∃ f,u0 = .slice (some ⟨f,0,none⟩) 19 19/\Blk w f 133 qFn/\(∀ u,us[1]?=some u->u = .pointer (some ⟨f,k*2,none⟩))/\(∀ u,us[2]?=some u->u = .pointer (some ⟨f,k*2+1,none⟩))/\(∀ u,us[3]?=some u->u = .int .i64 uses)
section
variable {k:Nat} {uses:Int} {W w w2:World} {us:List Value} {gs:Nat->Option Nat} {u0 u1 u2 u3 v:Value}
theorem FmJ.start (W:World):FmJ k uses W [] (fun _=>none) W.drew:=⟨(Ext.refl W).drew,fun g h=>(by cases h),fun u h=>(by simp at h)⟩
theorem FmJ.alloc (h:FmJ k uses W us gs w) (hl:us.length<=4):FmJ k uses W us (upd gs 7 w.heap.size) (w.alloc (.cells #[.int .i64 0] 3)):=by
 refine ⟨h.ext.alloc _,fun g hg=>?_,fun u hu=>?_⟩
 . rw [qCv] at hg
   obtain rfl:w.heap.size=g:=Option.some.inj hg;rw [if_pos hl];exact ⟨h.ext.size,Blk.new w _ _⟩
 . obtain ⟨f,a,b,c⟩:=h.fs u hu
   exact ⟨f,a,b.alloc _,c⟩
theorem FmJ.call {f:Nat} (h:FmJ k uses W [] gs w) (hx:Ext w w2) (hB:Blk w2 f 133 qFn):FmJ k uses W ([]++[.slice (some ⟨f,0,none⟩) 19 19]) gs w2:=by
 refine ⟨h.ext.trans hx,fun g hg=>?_,fun u hu=>?_⟩
 . obtain ⟨h1,h2⟩:=h.va g hg
   exact ⟨h1,h2.ext hx⟩
 . simp at hu
   subst hu;exact ⟨f,rfl,hB,fun u h=>by simp at h,fun u h=>by simp at h,fun u h=>by simp at h⟩
theorem FmJ.idx {f:Nat} (h:FmJ k uses W [.slice (some ⟨f,0,none⟩) 19 19] gs w):FmJ k uses W ([.slice (some ⟨f,0,none⟩) 19 19]++[.pointer (some ⟨f,k*2,none⟩)]) gs w:=by
 refine ⟨h.ext,h.va,fun u hu=>?_⟩;simp at hu;subst hu;obtain ⟨f',a,b,-⟩:=h.fs _ rfl
 cases a
 exact ⟨f,rfl,b,fun u h=>by simp at h;exact h.symm,fun u h=>by simp at h,fun u h=>by simp at h⟩
theorem FmJ.fld {f:Nat} (h:FmJ k uses W [.slice (some ⟨f,0,none⟩) 19 19,u1] gs w):FmJ k uses W ([.slice (some ⟨f,0,none⟩) 19 19,u1]++[.pointer (some ⟨f,k*2+1,none⟩)]) gs w:=by
 refine ⟨h.ext,h.va,fun u hu=>?_⟩;simp at hu;subst hu;obtain ⟨f',a,b,c,-⟩:=h.fs _ rfl
 cases a
 exact ⟨f,rfl,b,c,fun u h=>by simp at h;exact h.symm,fun u h=>by simp at h⟩
theorem FmJ.ld {f:Nat} (h:FmJ k uses W [.slice (some ⟨f,0,none⟩) 19 19,u1,u2] gs w):FmJ k uses W ([.slice (some ⟨f,0,none⟩) 19 19,u1,u2]++[.int .i64 uses]) gs w:=by
 refine ⟨h.ext,h.va,fun u hu=>?_⟩;simp at hu;subst hu;obtain ⟨f',a,b,c,d,-⟩:=h.fs _ rfl
 cases a
 exact ⟨f,rfl,b,c,d,fun u h=>by simp at h;exact h.symm⟩
theorem FmJ.blk {g:Nat} (h:FmJ k uses W us gs w) (hg:gs 7=some g) (hl:us.length<=4):Blk w g 3 #[.int .i64 0]:=by
 have:=(h.va g hg).2
 rwa [if_pos hl] at this
theorem FmJ.store {g:Nat} (h:FmJ k uses W [u0,u1,u2,u3] gs w) (hg:gs 7=some g):FmJ k uses W ([u0,u1,u2,u3]++[v]) gs (putB w g 3 #[.int .i64 uses]):=by
 obtain ⟨h1,h2⟩:=h.va g hg;refine ⟨h.ext.put h1 _ _,fun g' hg'=>?_,fun u hu=>?_⟩
 . rw [hg] at hg'
   cases hg'
   rw [if_neg (by simp)];exact ⟨h1,h2.put _⟩
 . obtain ⟨f,a,b,c⟩:=h.fs u hu
   exact ⟨f,a,b.put_other (fun e=>qBc.ne h2.typed b.typed (by decide) e) _,c⟩
end
theorem qLa {P:Program} {o:Oper} {a:Act} {w:World} {K:Act->World->Prop} {Q:Exit->Act->World->Prop} {f:FuncId} {ts:Array TypeId} {R:Ending->World->Prop} (ho:o.op = .call { callee:=.value (.func f),args:=#[],argTypes:=ts }) (hcall:∀ args w,(callFunc f args).run P w = .ok (.enter f args) w)
 (hc:Calls P f #[] w R) (h:∀ en w',R en w'->∃ v,en = .returned v/\K (a.put o.dst v) w'):o.wp P a w K Q:=by
 have h9:Calls P f #[] w (fun
  | .returned u,w''=>K (a.put o.dst u) w''
  | .panicked chain,w''=>Q (.panic chain) a w''
  | .outgrown,_=>LetsOut Q):=hc.mono fun en w' hr=>by
  obtain ⟨v,rfl,hk⟩:=h en w' hr;exact hk
 unfold Oper.wp execOp;simp only [ho];have hev:a.eval (.func f) = .func (.func f) #[] #[]:=rfl;simp [resolve,invoke,hev,hcall,Sem.run_bind,Deferred.ofValue];exact h9
theorem qJw {P:Program} {o:Oper} {a:Act} {w:World} {K:Act->World->Prop} {Q:Exit->Act->World->Prop} {T:TypeId} {v:Int} (ho:o.op = .alloc T) (hz:∀ w:World,(zeroValue T).run P w = .ok (.int .i64 v) w) (h:K (a.put o.dst (.pointer (some ⟨w.heap.size,0,none⟩))) (w.alloc (.cells #[.int .i64 v] T))):o.wp P a w K Q:=by
 obtain ⟨dst,op,ty,pos,after,guard⟩:=o;simp only at ho;subst ho;go_simp;exact h
def tErr (tx:ByteArray):Int:=if vld tx=false then 10 else if tx.toList.isEmpty=true then 4 else if tx.size<=400 then 0 else 9
theorem zCf (id fr til:Int) (nm tx:ByteArray) (w:World) (hE:Env w) (hs:tx.size<=9223372036854775807):Calls Tryz.prog 108 #[.agg (edC 17 id fr til nm tx (.slice none 0 0))] w fun e w'=>e = .returned (.int .i64 (tErr tx))/\Ext w w':=by
 have hx:=(Ext.refl w).alloc (.cells (edC 17 id fr til nm tx (.slice none 0 0)) 48);have HX:=gH hx;have HB:=gH (Blk.new w 48 (edC 17 id fr til nm tx (.slice none 0 0)));have HV:=gH (qDj tx _ (hE.ext hx) hs);unfold edC at HX HB HV ⊢;clear hx hE;unfold tErr
 cases hv:vld tx
 . rw [hv] at HV
   clear hv;go_enter Tryz.func108,Tryz.ntmps108;go_wp2_with fail;refine HV.out.mono ?_;rintro e w1 ⟨rfl,hx1⟩;go_wp2_with fail;go_ret;exact ⟨rfl,HX.out.trans hx1⟩
 . rw [hv] at HV
   clear hv;go_enter Tryz.func108,Tryz.ntmps108;go_wp2_with fail;refine HV.out.mono ?_;rintro e w1 ⟨rfl,hx1⟩;have HX1:=gH (HX.out.trans hx1);(have hc:=fun o=>(HB.out.ext hx1).cell o);clear hx1
   cases hem:tx.toList.isEmpty
   . by_cases h4:tx.size<=400
     . have d1:decide (tx.size<=400)=true:=decide_eq_true h4
       have d2:decide ((tx.size:Int)<=400)=true:=decide_eq_true (by omega);have HEm:=gH hem;go_wp2_with fail;refine (qRa _ _ _).mono ?_;rintro e w2 ⟨rfl,rfl⟩;go_wp2_with fail;go_ret;exact ⟨by simp [h4],HX1.out⟩
     . have d1:decide (tx.size<=400)=false:=decide_eq_false h4
       have d2:decide ((tx.size:Int)<=400)=false:=decide_eq_false (by omega);go_wp2_with fail;refine (qRa _ _ _).mono ?_;rintro e w2 ⟨rfl,rfl⟩;go_wp2_with fail;go_ret;exact ⟨by simp [h4],HX1.out⟩
   . go_wp2_with fail
     go_ret;exact ⟨rfl,HX1.out⟩
def rwsE:List Row->Int
 | []=>0
 | r :: l=>if qCu r≠0 then qCu r else rwsE l
def qKs (l:List Row):Int:=if l.length<1\/4<l.length then 9 else rwsE l
def zQb (w:World) (n:Nat) (l:List Row) (i:Value) (wr:World):Prop:=∃ k:Nat,k<=n/\i = .int .i64 (k:Int)/\Ext w wr/\rwsE l=rwsE (l.drop k)
theorem zFs (A:Option Addr) (n c:Nat) (l:List Row) (w:World) (hE:Env w) (hl:qCb w A n l) (hb:∀ r∈l,qDn r) (hn:n<=1000000):Calls Tryz.prog 110 #[.slice A n c] w fun e w'=>e = .returned (.int .i64 (qKs l))/\Ext w w':=by
 have HL:=gH hl;have HLn:=gH hl.len;have HE:=gH hE;have HBd:=gH hb;clear hl hE hb
 by_cases h1:n<1
 . have d1:decide (n<1)=true:=decide_eq_true h1
   go_enter Tryz.func110,Tryz.ntmps110;go_wp2_with fail;go_ret;exact ⟨by unfold qKs;rw [if_pos (.inl (by rw [HLn.out];exact h1))];rfl,Ext.refl _⟩
 . have d1:decide (n<1)=false:=decide_eq_false h1
   by_cases h2:4<n
   . have d2:decide (4<n)=true:=decide_eq_true h2
     go_enter Tryz.func110,Tryz.ntmps110;go_wp2_with fail;go_ret;exact ⟨by unfold qKs;rw [if_pos (.inr (by rw [HLn.out];exact h2))];rfl,Ext.refl _⟩
   . have d2:decide (4<n)=false:=decide_eq_false h2
     have HR:Hid (qKs l=rwsE l):=gH (by unfold qKs;rw [if_neg (by rw [HLn.out];omega)]);go_enter Tryz.func110,Tryz.ntmps110;go_wp2_with fail
     go_loopw [16] (fun i wr=>zQb w n l i wr) (fun i _=>n-(intOf i).toNat)
     case atStart=>exact ⟨0,Nat.zero_le _,rfl,Ext.refl _,rfl⟩
     case round =>
      obtain ⟨k,hk,rfl,hx,hr⟩:=hrel;have HX:=gH hx;have HRk:=gH hr;clear hx hr
      by_cases hlt:k<n
      . obtain ⟨b,off,r,rfl,hrk,A',n',c',h1',h2',h3',h4'⟩:=(HL.out.ext HX.out).at_ hlt
        simp only [Nat.mul_one] at h1';have HRr:=gH (qDh l k r hrk);have hsm:=HBd.out r (List.mem_of_getElem? hrk);have HCk:=gH (fun w' (hx:Ext wr w')=>qIl A' n' c' r w' (HE.out.ext (HX.out.trans hx)) (h4'.ext hx) hsm.2 (by omega));clear hrk hsm h4';go_wp2_with fail;refine (HCk.out _ ((Ext.refl wr).alloc _)).mono ?_;rintro e w1 ⟨rfl,hx1⟩;have HX1:=gH (HX.out.trans (((Ext.refl wr).alloc _).trans hx1));clear hx1
        by_cases h0:qCu r=0
        . have q1:(qCu r != 0)=false:=by simp [h0]
          have HNx:Hid (rwsE l=rwsE (l.drop (k+1))):=gH (by rw [HRk.out,HRr.out,rwsE,if_neg (by simpa using h0)]);clear h0;go_wp2_with fail;exact ⟨⟨k+1,by omega,by go_num,HX1.out,HNx.out⟩,by simp only [intOf];omega⟩
        . have q1:(qCu r != 0)=true:=by simpa using h0
          have HNx:Hid (qKs l=qCu r):=gH (by rw [HR.out,HRk.out,HRr.out,rwsE,if_pos h0]);clear h0;go_wp2_with fail;go_ret;exact ⟨by rw [HNx.out];rfl,HX1.out⟩
      . obtain rfl:k=n:=by omega
        have HNx:Hid (qKs l=0):=gH (by rw [HR.out,HRk.out,List.drop_eq_nil_of_le (by rw [HLn.out];exact Nat.le_refl _)];rfl);go_wp2_with fail;go_ret;exact ⟨by rw [HNx.out];rfl,HX.out⟩
theorem qBq:(Tryz.prog.info? 48).map (·.size)=some 23:=by kernel_rfl
def qDd (id:Int) (l:List Row):Int:=if inB id 1 1099511627776=false then 2 else qKs l
def qCq (id fr til:Int) (nm tx:ByteArray):Int:=if (inB id 1 1099511627776 && (inB fr 0 262144 && inB til 0 262144))=false then 2 else if qCt nm=false then 5 else tErr tx
theorem qUs (g:Nat) (w:World) (hB:Blk w g 3 #[.int .i64 2049]):Calls Tryz.prog 102 #[.int .i64 64,.pointer (some ⟨g,0,none⟩)] w fun e w'=>e = .returned (.bool false)/\Ext w w':=by
 (have hc:=fun o=>hB.cell o);clear hB;go_enter Tryz.func102,Tryz.ntmps102;go_wp2_with fail;go_ret;exact ⟨rfl,Ext.refl _⟩
theorem qRv (g:Nat) (w:World) (hB:Blk w g 3 #[.int .i64 2049]):Calls Tryz.prog 102 #[.int .i64 128,.pointer (some ⟨g,0,none⟩)] w fun e w'=>e = .returned (.bool false)/\Ext w w':=by
 (have hc:=fun o=>hB.cell o);clear hB;go_enter Tryz.func102,Tryz.ntmps102;go_wp2_with fail;go_ret;exact ⟨rfl,Ext.refl _⟩
theorem qRw (g:Nat) (w:World) (hB:Blk w g 3 #[.int .i64 2049]):Calls Tryz.prog 102 #[.int .i64 256,.pointer (some ⟨g,0,none⟩)] w fun e w'=>e = .returned (.bool false)/\Ext w w':=by
 (have hc:=fun o=>hB.cell o);clear hB;go_enter Tryz.func102,Tryz.ntmps102;go_wp2_with fail;go_ret;exact ⟨rfl,Ext.refl _⟩
theorem qRx (g:Nat) (w:World) (hB:Blk w g 3 #[.int .i64 2049]):Calls Tryz.prog 102 #[.int .i64 512,.pointer (some ⟨g,0,none⟩)] w fun e w'=>e = .returned (.bool false)/\Ext w w':=by
 (have hc:=fun o=>hB.cell o);clear hB;go_enter Tryz.func102,Tryz.ntmps102;go_wp2_with fail;go_ret;exact ⟨rfl,Ext.refl _⟩
theorem qPg (g:Nat) (w:World) (hB:Blk w g 3 #[.int .i64 2049]):Calls Tryz.prog 102 #[.int .i64 1024,.pointer (some ⟨g,0,none⟩)] w fun e w'=>e = .returned (.bool false)/\Ext w w':=by
 (have hc:=fun o=>hB.cell o);clear hB;go_enter Tryz.func102,Tryz.ntmps102;go_wp2_with fail;go_ret;exact ⟨rfl,Ext.refl _⟩
theorem qPh (g:Nat) (w:World) (hB:Blk w g 3 #[.int .i64 2049]):Calls Tryz.prog 102 #[.int .i64 2048,.pointer (some ⟨g,0,none⟩)] w fun e w'=>e = .returned (.bool true)/\Ext w w':=by
 (have hc:=fun o=>hB.cell o);clear hB;go_enter Tryz.func102,Tryz.ntmps102;go_wp2_with fail;go_ret;exact ⟨rfl,Ext.refl _⟩
theorem qXk (g:Nat) (w:World) (hB:Blk w g 3 #[.int .i64 801]):Calls Tryz.prog 102 #[.int .i64 64,.pointer (some ⟨g,0,none⟩)] w fun e w'=>e = .returned (.bool false)/\Ext w w':=by
 (have hc:=fun o=>hB.cell o);clear hB;go_enter Tryz.func102,Tryz.ntmps102;go_wp2_with fail;go_ret;exact ⟨rfl,Ext.refl _⟩
theorem qUt (g:Nat) (w:World) (hB:Blk w g 3 #[.int .i64 801]):Calls Tryz.prog 102 #[.int .i64 128,.pointer (some ⟨g,0,none⟩)] w fun e w'=>e = .returned (.bool false)/\Ext w w':=by
 (have hc:=fun o=>hB.cell o);clear hB;go_enter Tryz.func102,Tryz.ntmps102;go_wp2_with fail;go_ret;exact ⟨rfl,Ext.refl _⟩
theorem qUu (g:Nat) (w:World) (hB:Blk w g 3 #[.int .i64 801]):Calls Tryz.prog 102 #[.int .i64 256,.pointer (some ⟨g,0,none⟩)] w fun e w'=>e = .returned (.bool true)/\Ext w w':=by
 (have hc:=fun o=>hB.cell o);clear hB;go_enter Tryz.func102,Tryz.ntmps102;go_wp2_with fail;go_ret;exact ⟨rfl,Ext.refl _⟩
theorem qUv (g:Nat) (w:World) (hB:Blk w g 3 #[.int .i64 801]):Calls Tryz.prog 102 #[.int .i64 512,.pointer (some ⟨g,0,none⟩)] w fun e w'=>e = .returned (.bool true)/\Ext w w':=by
 (have hc:=fun o=>hB.cell o);clear hB;go_enter Tryz.func102,Tryz.ntmps102;go_wp2_with fail;go_ret;exact ⟨rfl,Ext.refl _⟩
theorem qRy (g:Nat) (w:World) (hB:Blk w g 3 #[.int .i64 801]):Calls Tryz.prog 102 #[.int .i64 1024,.pointer (some ⟨g,0,none⟩)] w fun e w'=>e = .returned (.bool false)/\Ext w w':=by
 (have hc:=fun o=>hB.cell o);clear hB;go_enter Tryz.func102,Tryz.ntmps102;go_wp2_with fail;go_ret;exact ⟨rfl,Ext.refl _⟩
theorem qRz (g:Nat) (w:World) (hB:Blk w g 3 #[.int .i64 801]):Calls Tryz.prog 102 #[.int .i64 2048,.pointer (some ⟨g,0,none⟩)] w fun e w'=>e = .returned (.bool false)/\Ext w w':=by
 (have hc:=fun o=>hB.cell o);clear hB;go_enter Tryz.func102,Tryz.ntmps102;go_wp2_with fail;go_ret;exact ⟨rfl,Ext.refl _⟩
theorem qSa (g:Nat) (w:World) (hB:Blk w g 3 #[.int .i64 801]):Calls Tryz.prog 102 #[.int .i64 4096,.pointer (some ⟨g,0,none⟩)] w fun e w'=>e = .returned (.bool false)/\Ext w w':=by
 (have hc:=fun o=>hB.cell o);clear hB;go_enter Tryz.func102,Tryz.ntmps102;go_wp2_with fail;go_ret;exact ⟨rfl,Ext.refl _⟩
end
end Go.Proofs.YtneffpbodfjceaaGreatDoor