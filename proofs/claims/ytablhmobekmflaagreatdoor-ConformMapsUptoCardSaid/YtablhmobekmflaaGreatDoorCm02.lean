/- Texts laid together. -/
import Derived.Test.YtablhmobekmflaaGreatDoorCm01
import Derived.Lib.LaidU8T
import Derived.Deep.DeepHandedRow
import Derived.Lib.LaidTab
import Derived.Laws.RangeAny
import Derived.Lib.OthersKept
import Derived.Lib.Builder
import Derived.Lib.AppendStr
set_option linter.unusedVariables false
set_option linter.unusedSimpArgs false
set_option maxRecDepth 100000
namespace Go.Proofs.YtablhmobekmflaaGreatDoor
section
open Go.RowKit Go.ChangeShapes Go.WideShapes Go.ChangeAt
set_option maxRecDepth 100000
theorem qCz:Tryz.prog.cellsOf 9=1:=by kernel_rfl
theorem qEw:Tryz.prog.cellsOf 2=1:=by kernel_rfl
theorem cells_int:Tryz.prog.cellsOf 3=1:=by kernel_rfl
theorem qHe:Tryz.prog.cellsOf 4=1:=by kernel_rfl
theorem qMq:Tryz.prog.cellsOf 60=2:=by kernel_rfl
theorem Sl.all {α:Type} {C:World→Nat→Nat→α→Prop} {w:World} {size n:Nat} {A:Option Addr} {l:List α} {p:α→Prop} (h:Sl w size C A n l) (k:∀ b o x,C w b o x→p x):∀ x∈l,p x:=by
 intro x hx;obtain ⟨i,hi⟩:=List.getElem?_of_mem hx;(have:i<n:=by rw [← h.1];exact (List.getElem?_eq_some_iff.1 hi).1);obtain ⟨b,off,_,hc⟩:=h.2 (by omega);exact k _ _ _ (hc i x hi)
theorem open_span (W:World):qBr Tryz.prog W 60 (fun cs (a:Int × Int)=>cs=[.int .i64 a.1,.int .i64 a.2]∧(-9223372036854775808≤a.1∧a.1≤9223372036854775807)∧(-9223372036854775808≤a.2∧a.2≤9223372036854775807)):=by
 intro H enc fuel cs x h hw;obtain ⟨hl,hf⟩:=qBr.fields Tryz.underlying60 h hw;rw [qMq] at hl;obtain ⟨v0,v1,rfl⟩:=qEo hl;obtain ⟨a0,h0,s0⟩:=hf 0 _ rfl (qBr.int Tryz.underlying2);obtain ⟨a1,h1,s1⟩:=hf 1 _ rfl (qBr.int Tryz.underlying2);simp [qEw] at h0 h1;subst h0 h1;exact ⟨(a0,a1),rfl,bounds_i64 s0,bounds_i64 s1⟩
theorem agg_of_cells {v:Value} {W:World} {t:TypeId} {fs:Array Field} {b:Nat} (ht:Tryz.prog.underlying t=some (.struct fs)) (hv:Value.okWide Tryz.prog W .any b t v):∃ cs,v = .agg cs:=by
 unfold Value.okWide at hv;rw [ht] at hv
 cases v<;>first | exact ⟨_,rfl⟩ | simp at hv
theorem u8extra:U8Extra Tryz.prog Tryz.laysValid_ren:=⟨by kernel_rfl,by kernel_rfl,by kernel_rfl,by kernel_rfl,by kernel_rfl,by kernel_rfl,by kernel_rfl⟩
theorem first_same:Rows.laid_unicode_utf8_first=Lib.firstData:=by kernel_rfl
theorem accept_same:(Rows.laid_unicode_utf8_acceptRanges:DataW Unit)=Lib.acceptData:=by kernel_rfl
theorem laidOut:laidOutB Tryz.prog=true:=by kernel_rfl
theorem trodAll_ext {P:Program} (laidOut:laidOutB P=true) {H:Type} {enc:TypeId × Value→H} {W W':World} (hx:Ext W W') {sp:Nat→Bool}:∀ {ts:List TypeId} {vs:List Value} {ds:List (DataW H)} {ps:List MemPlace},DataW.TrodAll enc P W 0 (fun _=>true) true ts vs ds ps →
 (ts.all fun t=>P.readableRec t && decide (t<P.types.size))=true→(∀ x∈ps,x.block<W.heap.size)→(∀ x∈ps,sp x.block=true)→DataW.TrodAll enc P W' 0 sp true ts vs ds ps
 | [],_,_,_,h,_,_,_=>by
  obtain ⟨rfl,rfl,rfl⟩:=trodAll_nil h;exact rfl
 | t :: ts,_,_,_,h,ha,hlt,hsp=>by
  obtain ⟨v,vs1,d,ds1,a,b,rfl,rfl,rfl,h1,h2⟩:=trodAll_cons h;simp only [List.all_cons,Bool.and_eq_true,decide_eq_true_eq] at ha;refine ⟨a,b,WideElems.Trod_stays laidOut ha.1.1 ha.1.2 h1 (fun x hx'=>Below.same hx (hlt x (List.mem_append_left _ hx'))) (fun x hx'=>hsp x (List.mem_append_left _ hx')),trodAll_ext laidOut hx h2 ha.2 (fun x hx'=>hlt x (List.mem_append_right _ hx')) (fun x hx'=>hsp x (List.mem_append_right _ hx')),rfl⟩
theorem post_true {H:Type} {enc:TypeId × Value→H} {f:Func} {s:ChangeSpec} {fresh handsOn:Bool} {W W':World} {args:Array Value} {ds gs:List (DataW H)} {before:List MemPlace} (hW:DataW.Whole enc Tryz.prog f.params.toList s.vars false W args.toList ds gs before)
 (hv:s.vars=[]) (hr:f.resultTypes=#[4]) (hts:(f.params.toList.all fun t=>Tryz.prog.readableRec t && decide (t<Tryz.prog.types.size))=true) (hres:(s.fn H (ds++gs)).results=[.lit (.bool true)]) (hargs:(s.fn H (ds++gs)).args=ds) (hvars:(s.fn H (ds++gs)).vars=[])
 (hx:Ext W W'):s.post enc Tryz.prog f false fresh handsOn false W args (.bool true) W':=by
 have hlt:=hW.lt;obtain ⟨p,q,hA,hV,rfl,hfz,hnd⟩:=hW;rw [hv] at hV;obtain ⟨rfl,rfl⟩:=trodVars_none hV;(have hlt':∀ x∈p,x.block<W.heap.size:=fun x hx'=>hlt x (by simpa using hx'));have hA':DataW.TrodAll enc Tryz.prog W' 0 (fun b=>decide (b<W.heap.size)) true f.params.toList args.toList ds p:=trodAll_ext laidOut hx hA hts hlt' (fun x hx'=>by simpa using hlt' x hx');refine ⟨ds,[],p++[],[],p,[],⟨p,[],hA,by rw [hv];exact rfl,rfl,hfz,hnd⟩,?_,by rw [hargs];exact hA',by rw [hv,hvars];exact rfl,Below.frame hx _,fun h=>by cases h⟩;rw [hr,hres];exact trodAll_cons_mk (shut_bool Tryz.underlying4 _) trodAll_mk0
def layFirst:Obj→Obj
 | .cells _ t frozen=>.cells (Lib.firstTab.map fun z=>Value.int .u8 z).toArray t frozen
 | o=>o
def layAccept:Obj→Obj
 | .cells _ t frozen=>.cells ((List.range 16).flatMap fun i=>[Value.int .u8 (Lib.accLo i:Int),Value.int .u8 (Lib.accHi i:Int)]).toArray t frozen
 | o=>o
noncomputable def laidWorld (os:Os):World :=
 { World.holding Tryz.prog os ⟨#[],#[],[]⟩ with heap:=((World.holding Tryz.prog os ⟨#[],#[],[]⟩).heap.modify 0 layFirst).modify 1 layAccept }
theorem own:ownKnob Tryz.prog.godebug=none:=by kernel_rfl
end
section
theorem qIf (s:ByteArray) (pos:Nat) (h:pos<s.size):1≤(Utf8.decode s pos).2:=by
 by_cases ha:(s[pos]'h).toNat<128
 · rw [decode_ascii s pos h ha];exact Nat.le_refl _
 · exact (decode_high s pos h (by omega)).2
def qGw (s:ByteArray):Nat→Nat→List Int
 | 0,_=>[]
 | f+1,pos=>if pos<s.size then ((Utf8.decode s pos).1:Int) :: qGw s f (pos+(Utf8.decode s pos).2) else []
def qGv (s:ByteArray) (pos:Nat):List Int:=qGw s (s.size-pos) pos
theorem qMy (s:ByteArray):∀ (f g pos:Nat),s.size-pos≤f→s.size-pos≤g→qGw s f pos=qGw s g pos
 | 0,0,_,_,_=>rfl
 | 0,g+1,pos,h,_=>by simp only [qGw];rw [if_neg (by omega)]
 | f+1,0,pos,_,h=>by simp only [qGw];rw [if_neg (by omega)]
 | f+1,g+1,pos,hf,hg=>by
  simp only [qGw]
  by_cases h:pos<s.size
  · have hw:=qIf s pos h
    rw [if_pos h,if_pos h,qMy s f g _ (by omega) (by omega)]
  · rw [if_neg h,if_neg h]
theorem qFs (s:ByteArray) (pos:Nat) (h:pos<s.size):qGv s pos=((Utf8.decode s pos).1:Int) :: qGv s (pos+(Utf8.decode s pos).2):=by
 have hw:=qIf s pos h;obtain ⟨f,hf⟩:∃ f,s.size-pos=f+1:=⟨s.size-pos-1,by omega⟩;unfold qGv;rw [hf];simp only [qGw];rw [if_pos h,qMy s f (s.size-(pos+(Utf8.decode s pos).2)) _ (by omega) (Nat.le_refl _)]
theorem qIi (s:ByteArray) (pos:Nat) (h:¬ pos<s.size):qGv s pos=[]:=by
 unfold qGv;rw [Nat.sub_eq_zero_of_le (by omega)];rfl
def qJi (r:Int):List Int→Int→Int
 | [],_=>-1
 | x :: l,n=>if x=r then n else qJi r l (n+1)
end
section
open Go.RowKit
def PlaceRel (s:ByteArray) (r:Int) (w:World) (n:Value) (wr:World):Prop :=
 ∃ pos k:Nat,k≤pos∧n = .int .i64 k∧wr=w.iter s pos∧qJi r (qGv s 0) 0=qJi r (qGv s pos) k
set_option maxHeartbeats 400000 in
theorem place_any (s:ByteArray) (r:Int) (w:World) (hs:s.size≤9223372036854775807) :
 Calls Tryz.prog 207 #[.string s,.int .i32 r] w fun e w'=>e = .returned (.int .i64 (qJi r (qGv s 0) 0))∧Ext w w':=by
 go_enter Tryz.func207,Tryz.ntmps207;go_wp2
 go_loopw [5] (fun n wr=>PlaceRel s r w n wr) (fun _ wr=>s.size-wr.iterPos w.heap.size)
 case atStart=>exact ⟨0,0,Nat.le_refl _,rfl,rfl,rfl⟩
 case round =>
  obtain ⟨pos,k,hk,rfl,rfl,hp⟩:=hrel;have HP:=gH hp;clear hp
  by_cases hlt:pos<s.size
  · have hn:=run_next_any (P:=Tryz.prog) w s pos
    have hstep:=gH (qFs s pos hlt);have hw:=qIf s pos hlt;go_wp2
    · go_ret
      (have he:((Utf8.decode s pos).1:Int)=r:=by simpa using ‹((((Utf8.decode s pos).1:Int)) == r)=true›);exact ⟨qAa (by rw [HP.out,hstep.out,qJi,if_pos he]),(Ext.refl w).iter s _⟩
    · have he:¬ ((Utf8.decode s pos).1:Int)=r:=by simpa using ‹((((Utf8.decode s pos).1:Int)) == r)=false›
      refine ⟨⟨pos+(Utf8.decode s pos).2,k+1,by omega,by go_num,rfl,?_⟩,by simp;omega⟩;rw [HP.out,hstep.out,qJi,if_neg he];rfl
  · have hn:=run_next_end (P:=Tryz.prog) w s pos
    have hend:=gH (qIi s pos hlt);go_wp2;go_ret;exact ⟨qAa (by rw [HP.out,hend.out];rfl),(Ext.refl w).iter s _⟩
def qHo:ByteArray:=⟨#[32,33,34,35,36,37,38,39,40,41,42,43,44,45,46,47,48,49,50,51,52,53,54,55,56,57,58,59,60,61,62,63,64,65,66,67,68,69,70,71,72,73,74,75,76,77,78,79,80,81,82,83,84,85,86,87,88,89,90,91,92,93,94,95,96,97,98,99,100,101,102,103,104,105,106,107,108,109,110,111,112,113,114,115,116,117,118,119,120,121,122,123,124,125,126,194,161,194,162,194,163,194,164,194,165,194,166,194,167,194,169,194,171,194,174,194,176,194,183,194,187,194,189,194,191,195,128,195,129,195,130,195,131,195,132,195,133,195,134,195,135,195,136,195,137,195,138,195,139,195,140,195,141,195,142,195,143,195,145,195,146,195,147,195,148,195,149,195,150,195,152,195,153,195,154,195,155,195,156,195,159,195,160,195,161,195,162,195,163,195,164,195,165,195,166,195,167,195,168,195,169,195,170,195,171,195,172,195,173,195,174,195,175,195,177,195,178,195,179,195,180,195,181,195,182,195,184,195,185,195,186,195,187,195,188,197,146,197,147,226,128,148,226,128,152,226,128,153,226,128,156,226,128,157,226,128,162,226,128,166,226,132,162,226,153,170]⟩
def idx (r:Int):Int:=if 32≤r∧r≤126 then r-32 else qJi r (qGv qHo 0) 0
set_option maxHeartbeats 1000000 in
theorem Index_any (r:Int) (w:World):Calls Tryz.prog 145 #[.int .i32 r] w fun e w'=>e = .returned (.int .i64 (idx r))∧Ext w w':=by
 by_cases h1:32≤r
 · by_cases h2:r≤126
   · go_enter Tryz.func145,Tryz.ntmps145
     go_wp2_with fail;go_ret;exact ⟨qAa (by unfold idx;rw [if_pos ⟨h1,h2⟩]),Ext.refl _⟩
   · go_enter Tryz.func145,Tryz.ntmps145
     go_wp2_with fail;refine (place_any qHo r w (by decide)).mono ?_;rintro e w1 ⟨rfl,h1⟩;go_wp2_with fail;go_ret;exact ⟨qAa (by unfold idx;rw [if_neg (by omega)]),h1⟩
 · go_enter Tryz.func145,Tryz.ntmps145
   go_wp2_with fail;refine (place_any qHo r w (by decide)).mono ?_;rintro e w1 ⟨rfl,h1⟩;go_wp2_with fail;go_ret;exact ⟨qAa (by unfold idx;rw [if_neg (by omega)]),h1⟩
end
section
open Go.RowKit
def vld (s:ByteArray):Bool:=Lib.validD s.data.toList && (qGv s 0).all fun r=>decide (0≤idx r)
theorem Ext.iterAt {w w1:World} (h:Ext w w1) {k:Nat} (hk:w.heap.size≤k) (s:ByteArray) (p:Nat):Ext w (w1.iterAt k s p):=Lib.below_iterAt h hk s p
theorem Ext.obj {w w1:World} {k:Nat} {o:Obj} (h:Ext w w1) (hk:w.heap[k]?=some o):w1.heap[k]?=some o :=
 (h.block k (Array.getElem?_eq_some_iff.1 hk).1).trans hk
theorem qIg (s:ByteArray) (w:World) (hE:Env w) (hs:s.size≤9223372036854775807) :
 Calls Tryz.prog 144 #[.string s] w fun e w'=>e = .returned (.bool (Lib.validD s.data.toList))∧Ext w w' :=
 Any.utf8_ValidString Tryz.laysValid s w hs hE.1
def ValidRel (s:ByteArray) (w:World) (g:Nat) (wr:World):Prop :=
 ∃ pos:Nat,wr.heap[g]?=some (.stringIter s pos)∧Ext w wr∧((qGv s 0).all fun r=>decide (0≤idx r))=((qGv s pos).all fun r=>decide (0≤idx r))
set_option maxHeartbeats 400000 in
theorem qGd (s:ByteArray) (w:World) (hE:Env w) (hs:s.size≤9223372036854775807) :
 Calls Tryz.prog 89 #[.string s] w fun e w'=>e = .returned (.bool (vld s))∧Ext w w':=by
 cases hv:Lib.validD s.data.toList
 · have HV:=gH hv
   (have HF:Hid (vld s=false):=by unfold vld;rw [hv];rfl);go_enter Tryz.func89,Tryz.ntmps89;go_wp2_with fail;refine (qIg s w hE hs).mono ?_;rintro e w1 ⟨rfl,h1⟩;rw [HV.out];go_wp2_with fail;go_ret;exact ⟨by rw [HF.out];rfl,h1⟩
 · have HV:=gH hv
   (have HF:Hid (vld s=((qGv s 0).all fun r=>decide (0≤idx r))):=by unfold vld;rw [hv];rfl);clear hv;go_enter Tryz.func89,Tryz.ntmps89;go_wp2_with fail;refine (qIg s w hE hs).mono ?_;rintro e w1 ⟨rfl,h1⟩;rw [HV.out];go_wp2_with fail
   go_loopw [] (fun wr=>ValidRel s w w1.heap.size wr) (fun wr=>s.size-wr.iterPos w1.heap.size)
   case atStart=>exact ⟨0,w1.iter_heap s 0,h1.iter s 0,rfl⟩
   case round =>
    obtain ⟨pos,hk,hx,hp⟩:=hrel;have HP:=gH hp;have HK:=gH hk;clear hp
    by_cases hlt:pos<s.size
    · have hn:=fun ty=>Lib.run_next_any_at (P:=Tryz.prog) wr _ s pos ty hk hlt
      have hstep:=gH (qFs s pos hlt);have hw:=qIf s pos hlt;have hk2:=gH (Lib.iterAt_heap wr _ s pos (pos+(Utf8.decode s pos).2) hk);clear hk;go_wp2_with fail;refine (Index_any _ _).mono ?_;rintro e w2 ⟨rfl,h2⟩;have hx2:Ext w w2:=(hx.iterAt h1.size s _).trans h2;have hk3:=gH (h2.obj hk2.out)
      by_cases hi:idx ((Utf8.decode s pos).1:Int)<0
      · go_wp2_with fail
        go_ret;exact ⟨by rw [HF.out,HP.out,hstep.out,List.all_cons,decide_eq_false (by omega)];rfl,hx2⟩
      · go_wp2_with fail
        refine ⟨⟨_,hk3.out,hx2,?_⟩,?_⟩
        · rw [HP.out,hstep.out,List.all_cons,decide_eq_true (by omega),Bool.true_and]
        · rw [iterPos_of hk3.out,iterPos_of HK.out];omega
    · have hn:=fun ty=>Lib.run_next_end_at (P:=Tryz.prog) wr _ s pos ty hk hlt
      have hend:=gH (qIi s pos hlt);clear hk;go_wp2_with fail;go_ret;exact ⟨by rw [HF.out,HP.out,hend.out];rfl,hx⟩
def clen (s:ByteArray):Int:=if vld s then (Lib.runeCount s:Int) else -1
theorem RuneCount_any (s:ByteArray) (w:World) (hs:s.size<9223372036854775807) :
 Calls Tryz.prog 271 #[.string s] w fun e w'=>e = .returned (.int .i64 (Lib.runeCount s))∧Ext w w' :=
 (Tryz.utf8_RuneCountInString s w hs).mono fun _ _ ⟨he,pos,hw⟩=>⟨he,by rw [hw];exact (Ext.refl w).iter s pos⟩
set_option maxHeartbeats 400000 in
theorem CLen_any (s:ByteArray) (w:World) (hE:Env w) (hs:s.size<9223372036854775807) :
 Calls Tryz.prog 241 #[.string s] w fun e w'=>e = .returned (.int .i64 (clen s))∧Ext w w':=by
 cases hv:vld s
 · have HV:=gH hv
   clear hv;go_enter Tryz.func241,Tryz.ntmps241;go_wp2_with fail;refine (qGd s w hE (by omega)).mono ?_;rintro e w1 ⟨rfl,h1⟩;rw [HV.out];go_wp2_with fail;go_ret;exact ⟨qAa (by unfold clen;rw [HV.out];rfl),h1⟩
 · have HV:=gH hv
   clear hv;go_enter Tryz.func241,Tryz.ntmps241;go_wp2_with fail;refine (qGd s w hE (by omega)).mono ?_;rintro e w1 ⟨rfl,h1⟩;rw [HV.out];go_wp2_with fail;refine (RuneCount_any s w1 hs).mono ?_;rintro e w2 ⟨rfl,h2⟩;go_wp2_with fail;go_ret;exact ⟨qAa (by unfold clen;rw [HV.out];rfl),h1.trans h2⟩
end
section
open Go.RowKit
theorem info_byte:(Tryz.prog.info? 5).map (fun i=>(i.zero,i.size,i.bytes))=some (some (.int .u8 0),1,1):=by kernel_rfl
theorem qNl:(Tryz.prog.info? 122).map (·.size)=some 2:=by kernel_rfl
set_option maxHeartbeats 1000000 in
theorem qJg (b:Nat) (w:World) (h0:w.cell? ⟨b,0,none⟩=some (.pointer (some ⟨b,0,none⟩))) :
 Calls Tryz.prog 122 #[.pointer (some ⟨b,0,none⟩)] w fun e w'=>e = .returned (.tuple #[])∧w'=w:=by
 obtain ⟨j,hj,_⟩:=Option.map_eq_some_iff.1 qNl;go_enter Tryz.func122,Tryz.ntmps122;go_wp2;rw [Lib.run_neq_ptr_same w _ Tryz.underlying119 hj];go_wp2;go_end0;exact ⟨rfl,rfl⟩
set_option maxHeartbeats 1000000 in
theorem qIe (b:Nat) (w:World) (h0:w.cell? ⟨b,0,none⟩=some (.pointer none)) (hsh:w.shape? b=some (122,2)) (hfz:w.frozen? ⟨b,0,none⟩=false) :
 Calls Tryz.prog 122 #[.pointer (some ⟨b,0,none⟩)] w fun e w'=>e = .returned (.tuple #[])∧w'=w.setCell ⟨b,0,none⟩ (.pointer (some ⟨b,0,none⟩)):=by
 obtain ⟨j,hj,hjs⟩:=Option.map_eq_some_iff.1 qNl;go_enter Tryz.func122,Tryz.ntmps122;go_wp2;rw [Lib.run_to_unsafe w ⟨b,0,none⟩ Tryz.underlying119 Tryz.underlying240 hj (by rw [hjs];decide) hsh (Nat.zero_lt_succ 1)];simp only [Result.andThen];rw [Oper.upon_value];go_wp2;rw [run_callFunc_extern Tryz.func187 (by kernel_rfl) (by kernel_rfl) (by kernel_rfl) (e:=Extern.AbiNoEscape.same) (by kernel_rfl)];rw [Lib.run_noEscape];simp only [Result.andThen];rw [Oper.upon_value];go_wp2;rw [Lib.run_from_unsafe w ⟨b,0,none⟩ Tryz.underlying240 Tryz.underlying119 hj hsh (by kernel_rfl)];simp only [Result.andThen];rw [Oper.upon_value];go_wp2;go_end0;exact ⟨rfl,rfl⟩
theorem copyCheck_any (B b:Nat) (bs:List Value) (w:World) (h:Lib.IsBuilder 122 5 B b bs w) :
 Calls Tryz.prog 122 #[.pointer (some ⟨b,0,none⟩)] w fun e w'=>e = .returned (.tuple #[])∧(Lib.BuilderAt 122 5 B b (.pointer (some ⟨b,0,none⟩)) bs w'∧Below B w w'):=by
 rcases h with h | h
 · refine (qIe b w h.cell0 h.shape h.frozen0).mono ?_
   rintro e w' ⟨rfl,rfl⟩;exact ⟨rfl,h.used _,(Below.refl B w).setCell (p:=⟨b,0,none⟩) h.1 _⟩
 · refine (qJg b w h.cell0).mono ?_
   rintro e w' ⟨rfl,rfl⟩;exact ⟨rfl,h,Below.refl B _⟩
set_option maxHeartbeats 2000000 in
theorem qOu (B b:Nat) (bs:List Value) (s:ByteArray) (w:World) (h:Lib.IsBuilder 122 5 B b bs w) (hlen:bs.length+s.size≤140737488355328) (hBw:B≤w.heap.size) :
 Calls Tryz.prog 61 #[.pointer (some ⟨b,0,none⟩),.string s] w fun e w'=>e = .returned (.tuple #[.int .i64 s.size,.nilIface])∧(Lib.BuilderAt 122 5 B b (.pointer (some ⟨b,0,none⟩)) (bs++Lib.strCells s) w'∧Below B w w'):=by
 obtain ⟨i0,hi,hz0,hz1,hz2⟩:=info_parts info_byte;go_enter Tryz.func61,Tryz.ntmps61;go_wp2_with fail;refine (copyCheck_any B b bs _ h).mono ?_;rintro e w1 ⟨rfl,h1,hb1⟩;obtain ⟨hB,v,hbk,hown,hne⟩:=h1;(have c0:w1.cell? ⟨b,0,none⟩=some (.pointer (some ⟨b,0,none⟩)):=by rw [Lib.cell_of_heap hbk];rfl);(have c1:w1.cell? ⟨b,1,none⟩=some v:=by rw [Lib.cell_of_heap hbk];rfl);go_wp2_with (at_builtin;refine Lib.wpList_append_own_string _ rfl _ _ 120 9 rfl B 5 i0 Tryz.underlying120 Tryz.underlying9 hi hz0 hz1 hz2 _ _ _ rfl hown s rfl ?c3 ?c4 ?c5 ?_)
 case c3=>unfold maxLen;omega
 case c4=>omega
 case c5=>have:=hb1.size;omega
 intro v' w2 hown' hgrow _;have hlt:b<w1.heap.size:=(Array.getElem?_eq_some_iff.1 hbk).1
 have hb2:w2.heap[b]?=some (.cells #[.pointer (some ⟨b,0,none⟩),v] 122 (0,0)):=by
  rw [hgrow.block b hlt (fun e=>hne e.symm)];exact hbk
 (have d0:w2.cell? ⟨b,0,none⟩=some (.pointer (some ⟨b,0,none⟩)):=by rw [Lib.cell_of_heap hb2];rfl);(have d1:w2.cell? ⟨b,1,none⟩=some v:=by rw [Lib.cell_of_heap hb2];rfl);have f1:w2.frozen? ⟨b,1,none⟩=false:=Lib.frozen_of_heap hb2 1
 obtain ⟨ao,n',cap,rfl⟩:∃ ao n' cap,v' = .slice ao n' cap:=by
  rcases hown'.2 with ⟨hv,_⟩ | ⟨g,cap,cur,hv,_⟩
  · exact ⟨_,_,_,hv⟩
  · exact ⟨_,_,_,hv⟩
 go_wp2;go_ret2;refine ⟨rfl,?_,?_⟩
 · exact Lib.BuilderAt.put (T:=122) (e:=5) hB hb2 (bs':=bs++Lib.strCells s) (by simpa [Lib.strCells_length] using hown') (by decide)
 · exact (hb1.grown hgrow (by have:=hb1.size;omega) (fun k hk=>(hown.lt k hk).1)).setCell (p:=⟨b,1,none⟩) hB _
end
section
open Go.RowKit
def nbI (c:Int):Bool:=decide ((65≤c∧c≤90)∨(48≤c∧c≤57)∨c=95∨c=45)
def qBm (s:ByteArray):Bool:=decide (1≤s.size∧s.size≤16) && (s.data.toList.take 1).all (fun c=>decide (65≤(c.toNat:Int)∧(c.toNat:Int)≤90)) && s.data.toList.all (fun c=>nbI c.toNat)
theorem qIp (s:ByteArray) (k:Nat) (h:k<s.size):s.data.toList.take (k+1)=s.data.toList.take k++[s[k]]:=by
 rw [List.take_succ_eq_append_getElem (by simpa using h)];rfl
theorem qHx {s:ByteArray} (h:¬ (1≤s.size∧s.size≤16)):qBm s=false:=by unfold qBm;rw [decide_eq_false h];rfl
theorem qIu {s:ByteArray} (h:0<s.size) (hc:¬ ((65:Int)≤(s[0].toNat:Int)∧(s[0].toNat:Int)≤90)):qBm s=false:=by
 unfold qBm;have e:=qIp s 0 h;simp only [Nat.zero_add,List.take_zero,List.nil_append] at e;rw [e,List.all_cons,decide_eq_false hc];simp
theorem nameB_at {s:ByteArray} (k:Nat) (h:k<s.size) (hc:nbI (s[k].toNat:Int)=false):qBm s=false:=by
 unfold qBm
 have:(s.data.toList.all fun c=>nbI c.toNat)=false:=by
  rw [List.all_eq_false];exact ⟨s[k],by simp [ByteArray.getElem_eq_getElem_data],by rw [hc];simp⟩
 rw [this,Bool.and_false]
theorem nameB_yes {s:ByteArray} (h:1≤s.size∧s.size≤16) (h0:0<s.size) (hc:(65:Int)≤(s[0].toNat:Int)∧(s[0].toNat:Int)≤90) (ha:(s.data.toList.take s.size).all (fun c=>nbI c.toNat)=true):qBm s=true:=by
 unfold qBm;have e:=qIp s 0 h0;simp only [Nat.zero_add,List.take_zero,List.nil_append] at e;rw [List.take_of_length_le (by simp)] at ha;rw [e,List.all_cons,decide_eq_true hc,decide_eq_true h,ha];rfl
def NameRel (s:ByteArray) (i:Value):Prop:=∃ k:Nat,k≤s.size∧i = .int .i64 k∧(s.data.toList.take k).all (fun c=>nbI c.toNat)=true
set_option maxHeartbeats 1000000 in
theorem qDr (s:ByteArray) (w:World) (hs:s.size≤9223372036854775807) :
 Calls Tryz.prog 48 #[.string s] w fun e w'=>e = .returned (.bool (qBm s))∧w=w':=by
 by_cases h:1≤s.size
 · by_cases h':s.size≤16
   · have h1:(1:Int)≤(s.size:Int):=by omega
     (have h2:(s.size:Int)≤16:=by omega);(have h0:0<s.size:=by omega);have HS:=gH (And.intro h h')
     by_cases hc1:(65:Int)≤(s[0].toNat:Int)
     · by_cases hc2:(s[0].toNat:Int)≤90
       · go_enter Tryz.func48,Tryz.ntmps48
         go_wp2;go_loop [25] (fun i=>NameRel s i) (fun i=>s.size-(intOf i).toNat)
         case atStart=>exact ⟨0,Nat.zero_le _,rfl,rfl⟩
         case round =>
          obtain ⟨k,hk,rfl,hall⟩:=hrel;have HA:=gH hall;clear hall
          by_cases hlt:k<s.size
          · by_cases hb:nbI (s[k].toNat:Int)=true
            · have HA':Hid ((s.data.toList.take (k+1)).all (fun c=>nbI c.toNat)=true):=by
               show (s.data.toList.take (k+1)).all (fun c=>nbI c.toNat)=true
               rw [qIp s k hlt,List.all_append,HA.out];simp [hb]
              have hb':((65:Int)≤(s[k].toNat:Int)∧(s[k].toNat:Int)≤90)∨((48:Int)≤(s[k].toNat:Int)∧(s[k].toNat:Int)≤57)∨(s[k].toNat:Int)=95∨(s[k].toNat:Int)=45:=of_decide_eq_true hb;clear hb;go_wp2
              all_goals first
               | exact ⟨⟨k+1,by omega,by go_num,HA'.out⟩,by simp [intOf];omega⟩
               | (exfalso;simp at *;omega)
            · have HB:=gH (nameB_at k hlt (by simpa using hb))
              (have hb':¬ (((65:Int)≤(s[k].toNat:Int)∧(s[k].toNat:Int)≤90)∨((48:Int)≤(s[k].toNat:Int)∧(s[k].toNat:Int)≤57)∨(s[k].toNat:Int)=95∨(s[k].toNat:Int)=45):=fun x=>hb (decide_eq_true x));clear hb;go_wp2
              all_goals first
               | (go_ret;exact ⟨by rw [HB.out];rfl,rfl⟩)
               | (exfalso;simp at *;omega)
          · have ek:k=s.size:=by omega
            subst ek;go_wp2;go_ret;exact ⟨by rw [nameB_yes HS.out h0 ⟨hc1,hc2⟩ HA.out];rfl,rfl⟩
       · have HF:=gH (qIu h0 (by omega))
         go_enter Tryz.func48,Tryz.ntmps48;go_wp2;go_ret;exact ⟨by rw [HF.out];rfl,rfl⟩
     · have HF:=gH (qIu h0 (by omega))
       go_enter Tryz.func48,Tryz.ntmps48;go_wp2;go_ret;exact ⟨by rw [HF.out];rfl,rfl⟩
   · have HF:=gH (qHx (s:=s) (by omega))
     (have h1:(16:Int)<(s.size:Int):=by omega);go_enter Tryz.func48,Tryz.ntmps48;go_wp2;go_ret;exact ⟨by rw [HF.out];rfl,rfl⟩
 · have HF:=gH (qHx (s:=s) (by omega))
   (have h1:(s.size:Int)<1:=by omega);go_enter Tryz.func48,Tryz.ntmps48;go_wp2;go_ret;exact ⟨by rw [HF.out];rfl,rfl⟩
end
section
open Go.RowKit
structure Reg where
 name:ByteArray
 top:Int
 height:Int
 left:Int
 width:Int
 align:Int
 bottom:Bool
 deriving DecidableEq
def Reg.val (r:Reg):Value:=.agg #[.string r.name,.int .i64 r.top,.int .i64 r.height,.int .i64 r.left,.int .i64 r.width,.int .u8 r.align,.bool r.bottom]
def Reg.zero:Reg:=⟨ByteArray.empty,0,0,0,0,0,false⟩
def Reg.default:Reg:=⟨ByteArray.empty,11,4,0,32,2,true⟩
theorem qHs (n lo hi:Int) (w:World) (h:lo≤n∧n≤hi):Calls Tryz.prog 190 #[.int .i64 n,.int .i64 lo,.int .i64 hi] w fun e w'=>e = .returned (.bool true)∧w=w':=by
 obtain ⟨h1,h2⟩:=h;go_enter Tryz.func190,Tryz.ntmps190;go_wp2;go_ret;exact ⟨by simp [h2],rfl⟩
theorem qKd (n lo hi:Int) (w:World) (h:¬ (lo≤n∧n≤hi)):Calls Tryz.prog 190 #[.int .i64 n,.int .i64 lo,.int .i64 hi] w fun e w'=>e = .returned (.bool false)∧w=w':=by
 by_cases h1:lo≤n
 · have h2:¬ n≤hi:=fun x=>h ⟨h1,x⟩
   clear h;go_enter Tryz.func190,Tryz.ntmps190;go_wp2;go_ret;exact ⟨rfl,rfl⟩
 · clear h
   go_enter Tryz.func190,Tryz.ntmps190;go_wp2;go_ret;exact ⟨rfl,rfl⟩
set_option maxHeartbeats 400000 in
theorem qKb (w:World):Calls Tryz.prog 191 #[] w fun e w'=>e = .returned Reg.default.val∧Ext w w':=by
 go_enter Tryz.func191,Tryz.ntmps191;go_wp2;exact bodyPost_ret (v:=Reg.default.val) (by simp [results,Tryz.results191,go_sem,Reg.val,Reg.default];rfl) rfl ⟨rfl,(Ext.refl w).alloc _⟩
def Reg.inGrid (r:Reg):Prop:=(0≤r.top∧r.top≤14)∧(1≤r.height∧r.height≤15-r.top)∧(0≤r.left∧r.left≤31)∧(1≤r.width∧r.width≤32-r.left)
instance (r:Reg):Decidable r.inGrid:=by unfold Reg.inGrid;infer_instance
def Reg.check (r:Reg):Int:=if qBm r.name=false then 5 else if ¬ r.inGrid then 2 else if r.align<1∨3<r.align then 3 else 0
set_option maxHeartbeats 1000000 in
theorem RCheck_any (r:Reg) (w:World) (hs:r.name.size≤9223372036854775807):Calls Tryz.prog 126 #[r.val] w fun e w'=>e = .returned (.int .i64 r.check)∧Ext w w':=by
 obtain ⟨nm,top,hgt,lft,wid,al,bot⟩:=r;unfold Reg.val;dsimp only
 cases hn:qBm nm
 · have HN:=gH hn
   (have HF:Hid (Reg.check ⟨nm,top,hgt,lft,wid,al,bot⟩=5):=by show Reg.check _=5;unfold Reg.check;rw [if_pos hn]);clear hn;go_enter Tryz.func126,Tryz.ntmps126;go_wp2_with fail;refine (qDr nm _ hs).mono ?_;rintro e w1 ⟨rfl,rfl⟩;rw [HN.out];go_wp2_with fail;go_ret;exact ⟨qAa HF.out.symm,(Ext.refl w).alloc _⟩
 · have HN:=gH hn
   have HC:Hid (Reg.check ⟨nm,top,hgt,lft,wid,al,bot⟩=if ¬ Reg.inGrid ⟨nm,top,hgt,lft,wid,al,bot⟩ then 2 else if al<1∨3<al then 3 else 0):=by
    show Reg.check _=_
    unfold Reg.check;rw [if_neg (by rw [hn];simp)]
   have HI:Hid (Reg.inGrid ⟨nm,top,hgt,lft,wid,al,bot⟩↔((0≤top∧top≤14)∧(1≤hgt∧hgt≤15-top)∧(0≤lft∧lft≤31)∧(1≤wid∧wid≤32-lft))):=Iff.rfl;clear hn
   by_cases h1:0≤top∧top≤14
   · by_cases h2:1≤hgt∧hgt≤15-top
     · by_cases h3:0≤lft∧lft≤31
       · by_cases h4:1≤wid∧wid≤32-lft
         · by_cases h5:al<1
           · go_enter Tryz.func126,Tryz.ntmps126
             go_wp2_with fail;refine (qDr nm _ hs).mono ?_;rintro e w1 ⟨rfl,rfl⟩;rw [HN.out];go_wp2_with (first | (go_at_call 190;refine (qHs _ _ _ _ (by omega)).mono ?_;rintro e w' ⟨rfl,rfl⟩) | (go_at_call 190;refine (qKd _ _ _ _ (by omega)).mono ?_;rintro e w' ⟨rfl,rfl⟩));go_ret;exact ⟨qAa (by rw [HC.out,if_neg (by rw [HI.out];omega),if_pos (by omega)]),(Ext.refl w).alloc _⟩
           · by_cases h6:3<al
             · go_enter Tryz.func126,Tryz.ntmps126
               go_wp2_with fail;refine (qDr nm _ hs).mono ?_;rintro e w1 ⟨rfl,rfl⟩;rw [HN.out];go_wp2_with (first | (go_at_call 190;refine (qHs _ _ _ _ (by omega)).mono ?_;rintro e w' ⟨rfl,rfl⟩) | (go_at_call 190;refine (qKd _ _ _ _ (by omega)).mono ?_;rintro e w' ⟨rfl,rfl⟩));go_ret;exact ⟨qAa (by rw [HC.out,if_neg (by rw [HI.out];omega),if_pos (by omega)]),(Ext.refl w).alloc _⟩
             · go_enter Tryz.func126,Tryz.ntmps126
               go_wp2_with fail;refine (qDr nm _ hs).mono ?_;rintro e w1 ⟨rfl,rfl⟩;rw [HN.out];go_wp2_with (first | (go_at_call 190;refine (qHs _ _ _ _ (by omega)).mono ?_;rintro e w' ⟨rfl,rfl⟩) | (go_at_call 190;refine (qKd _ _ _ _ (by omega)).mono ?_;rintro e w' ⟨rfl,rfl⟩));go_ret;exact ⟨qAa (by rw [HC.out,if_neg (by rw [HI.out];omega),if_neg (by omega)]),(Ext.refl w).alloc _⟩
         · go_enter Tryz.func126,Tryz.ntmps126
           go_wp2_with fail;refine (qDr nm _ hs).mono ?_;rintro e w1 ⟨rfl,rfl⟩;rw [HN.out];go_wp2_with (first | (go_at_call 190;refine (qHs _ _ _ _ (by omega)).mono ?_;rintro e w' ⟨rfl,rfl⟩) | (go_at_call 190;refine (qKd _ _ _ _ (by omega)).mono ?_;rintro e w' ⟨rfl,rfl⟩));go_ret;exact ⟨qAa (by rw [HC.out,if_pos (by rw [HI.out];omega)]),(Ext.refl w).alloc _⟩
       · go_enter Tryz.func126,Tryz.ntmps126
         go_wp2_with fail;refine (qDr nm _ hs).mono ?_;rintro e w1 ⟨rfl,rfl⟩;rw [HN.out];go_wp2_with (first | (go_at_call 190;refine (qHs _ _ _ _ (by omega)).mono ?_;rintro e w' ⟨rfl,rfl⟩) | (go_at_call 190;refine (qKd _ _ _ _ (by omega)).mono ?_;rintro e w' ⟨rfl,rfl⟩));go_ret;exact ⟨qAa (by rw [HC.out,if_pos (by rw [HI.out];omega)]),(Ext.refl w).alloc _⟩
     · go_enter Tryz.func126,Tryz.ntmps126
       go_wp2_with fail;refine (qDr nm _ hs).mono ?_;rintro e w1 ⟨rfl,rfl⟩;rw [HN.out];go_wp2_with (first | (go_at_call 190;refine (qHs _ _ _ _ (by omega)).mono ?_;rintro e w' ⟨rfl,rfl⟩) | (go_at_call 190;refine (qKd _ _ _ _ (by omega)).mono ?_;rintro e w' ⟨rfl,rfl⟩));go_ret;exact ⟨qAa (by rw [HC.out,if_pos (by rw [HI.out];omega)]),(Ext.refl w).alloc _⟩
   · go_enter Tryz.func126,Tryz.ntmps126
     go_wp2_with fail;refine (qDr nm _ hs).mono ?_;rintro e w1 ⟨rfl,rfl⟩;rw [HN.out];go_wp2_with (first | (go_at_call 190;refine (qHs _ _ _ _ (by omega)).mono ?_;rintro e w' ⟨rfl,rfl⟩) | (go_at_call 190;refine (qKd _ _ _ _ (by omega)).mono ?_;rintro e w' ⟨rfl,rfl⟩));go_ret;exact ⟨qAa (by rw [HC.out,if_pos (by rw [HI.out];omega)]),(Ext.refl w).alloc _⟩
end
section
open Go.RowKit
theorem toList_inj (a b:ByteArray):(a.toList=b.toList)=(a=b):=by
 rw [ByteArray.toList_eq,ByteArray.toList_eq];obtain ⟨⟨x⟩⟩:=a;obtain ⟨⟨y⟩⟩:=b;simp
theorem eql_reg (a b:Reg) (w:World):(binOp .eql 105 a.val b.val).run Tryz.prog w = .ok (.bool (decide (a=b))) w:=by
 obtain ⟨nm,top,hgt,lft,wid,al,bot⟩:=a;obtain ⟨nm',top',hgt',lft',wid',al',bot'⟩:=b;unfold Reg.val;dsimp only;go_simp;simp only [toList_inj]
 repeat' split
 all_goals simp_all
theorem qJy (a:Reg) (w:World):(binOp .eql 105 a.val a.val).run Tryz.prog w = .ok (.bool true) w:=by rw [eql_reg,decide_eq_true rfl]
theorem qLw {a b:Reg} (h:¬ a=b) (w:World):(binOp .eql 105 a.val b.val).run Tryz.prog w = .ok (.bool false) w:=by rw [eql_reg,decide_eq_false h]
end
section
open Go.RowKit
theorem SValid_any (c:Int) (i u:Bool) (w:World):Calls Tryz.prog 238 #[.agg #[.int .u8 c,.bool i,.bool u]] w fun e w'=>e = .returned (.bool (decide (c≤6)))∧Ext w w':=by
 go_enter Tryz.func238,Tryz.ntmps238;go_wp2;go_ret;exact ⟨rfl,(Ext.refl w).alloc _⟩
def Run.plainStyle (a b:Run):Prop:=a.color=b.color∧a.italic=b.italic∧a.under=b.under
instance (a b:Run):Decidable (Run.plainStyle a b):=by unfold Run.plainStyle;infer_instance
def qDk (a b:Run):Bool:=decide (Run.plainStyle a b) && decide (a.ruby.toList=[]) && decide (b.ruby.toList=[])
theorem qOn (c c':Int) (i i' u u':Bool) (w:World):(binOp .eql 169 (.agg #[.int .u8 c,.bool i,.bool u]) (.agg #[.int .u8 c',.bool i',.bool u'])).run Tryz.prog w = .ok (.bool (decide (c=c'∧i=i'∧u=u'))) w:=by
 go_simp
 repeat' split
 all_goals simp_all
set_option maxHeartbeats 1000000 in
theorem alike_any (a b:Run) (w:World):Calls Tryz.prog 239 #[a.val,b.val] w fun e w'=>e = .returned (.bool (qDk a b))∧Ext w w':=by
 obtain ⟨t1,c1,i1,u1,r1⟩:=a;obtain ⟨t2,c2,i2,u2,r2⟩:=b;unfold Run.val;dsimp only;have hx:Ext w ((w.alloc (.cells #[.string t1,.int .u8 c1,.bool i1,.bool u1,.string r1] 171)).alloc (.cells #[.string t2,.int .u8 c2,.bool i2,.bool u2,.string r2] 171)):=((Ext.refl w).alloc _).alloc _;have HX:=gH hx;clear hx
 by_cases hs:c1=c2∧i1=i2∧u1=u2
 · have hq:∀ w,(binOp .eql 169 (.agg #[.int .u8 c1,.bool i1,.bool u1]) (.agg #[.int .u8 c2,.bool i2,.bool u2])).run Tryz.prog w = .ok (.bool true) w:=fun w=>by rw [qOn,decide_eq_true hs]
   have HS:=gH hs;clear hs
   cases h1:r1.toList.isEmpty
   · have HF:Hid (qDk ⟨t1,c1,i1,u1,r1⟩ ⟨t2,c2,i2,u2,r2⟩=false):=by show qDk _ _=false;unfold qDk;cases hr:r1.toList<;>simp_all
     go_enter Tryz.func239,Tryz.ntmps239;go_wp2;go_ret;exact ⟨by rw [HF.out];rfl,HX.out⟩
   · cases h2:r2.toList.isEmpty
     · have HF:Hid (qDk ⟨t1,c1,i1,u1,r1⟩ ⟨t2,c2,i2,u2,r2⟩=false):=by show qDk _ _=false;unfold qDk;cases hr:r2.toList<;>simp_all
       go_enter Tryz.func239,Tryz.ntmps239;go_wp2;go_ret;exact ⟨by rw [HF.out];rfl,HX.out⟩
     · have HF:Hid (qDk ⟨t1,c1,i1,u1,r1⟩ ⟨t2,c2,i2,u2,r2⟩=true):=by
        show qDk _ _=true
        unfold qDk Run.plainStyle;have:=HS.out
        simp_all
       go_enter Tryz.func239,Tryz.ntmps239;go_wp2;go_ret;exact ⟨by rw [HF.out];rfl,HX.out⟩
 · have hq:∀ w,(binOp .eql 169 (.agg #[.int .u8 c1,.bool i1,.bool u1]) (.agg #[.int .u8 c2,.bool i2,.bool u2])).run Tryz.prog w = .ok (.bool false) w:=fun w=>by rw [qOn,decide_eq_false hs]
   (have HF:Hid (qDk ⟨t1,c1,i1,u1,r1⟩ ⟨t2,c2,i2,u2,r2⟩=false):=by show qDk _ _=false;unfold qDk Run.plainStyle;rw [decide_eq_false hs];rfl);clear hs;go_enter Tryz.func239,Tryz.ntmps239;go_wp2;go_ret;exact ⟨by rw [HF.out];rfl,HX.out⟩
def qAk (l:Row):Nat:=(l.map fun r=>r.text.size).sum
def qAq:Row→Int
 | []=>0
 | r :: l=>if clen r.text<0 then -1 else if qAq l<0 then -1 else clen r.text+qAq l
theorem rowBytes_cons (r:Run) (l:Row):qAk (r :: l)=r.text.size+qAk l:=by simp [qAk]
theorem qFk (l:Row) (k:Nat) (r:Run) (h:l[k]?=some r):qAk (l.take (k+1))=qAk (l.take k)+r.text.size:=by
 have hkl:=(List.getElem?_eq_some_iff.1 h).1;rw [List.take_succ_eq_append_getElem hkl,(List.getElem?_eq_some_iff.1 h).2];simp [qAk]
theorem qEb (l:Row) (k:Nat):qAk (l.take k)≤qAk l:=by
 have h:qAk l=qAk (l.take k)+qAk (l.drop k):=by
  have e:=List.take_append_drop k l;(have:qAk (l.take k++l.drop k)=qAk (l.take k)+qAk (l.drop k):=by simp only [qAk,List.map_append,List.sum_append]);rw [← this,e]
 omega
theorem clen_le (s:ByteArray):clen s≤s.size:=by
 unfold clen
 split
 · have:=Lib.runeCount_le s;omega
 · omega
theorem clen_ge (s:ByteArray):-1≤clen s:=by
 unfold clen
 split<;>omega
def LenRel (w:World) (n:Nat) (l:Row) (v i:Value) (wr:World):Prop :=
 ∃ (k:Nat) (s:Int),k≤n∧i = .int .i64 k∧v = .int .i64 s∧0≤s∧s≤qAk (l.take k)∧Ext w wr∧qAq l=if qAq (l.drop k)<0 then -1 else s+qAq (l.drop k)
theorem qLk:∀ l:Row,-1≤qAq l
 | []=>by simp [qAq]
 | r :: l=>by
  have:=qLk l;have:=clen_ge r.text;unfold qAq
  split
  · omega
  · split<;>omega
theorem qPd (s:Int) (r:Run) (l:Row) (h:¬ clen r.text<0):(if qAq (r :: l)<0 then -1 else s+qAq (r :: l))=if qAq l<0 then -1 else s+clen r.text+qAq l:=by
 rw [qAq,if_neg h]
 by_cases h9:qAq l<0
 · simp [h9]
 · rw [if_neg h9,if_neg h9,if_neg (by omega)]
   omega
set_option maxHeartbeats 1000000 in
theorem SLen_any (A:Option Addr) (n c:Nat) (l:Row) (w:World) (hE:Env w) (hl:qCt w A n l) (hb:qAk l≤4611686018427387904) (hn:n≤4611686018427387904) :
 Calls Tryz.prog 196 #[.agg #[.slice A n c]] w fun e w'=>e = .returned (.int .i64 (qAq l))∧Ext w w':=by
 have HL:=gH hl;have HLn:=gH hl.len;clear hl;have HEn:=gH hE;clear hE;go_enter Tryz.func196,Tryz.ntmps196;go_wp2_with fail
 go_loopw [3,10] (fun v i wr=>LenRel w n l v i wr) (fun _ i _=>n-(intOf i).toNat)
 case atStart =>
  refine ⟨0,0,Nat.zero_le _,rfl,rfl,by omega,by simp,(Ext.refl w).alloc _,?_⟩;have:=qLk l;simp only [List.drop_zero]
  split<;>omega
 case round =>
  obtain ⟨k,s,hk,rfl,rfl,hs0,hs1,hx,hp⟩:=hrel;have HP:=gH hp;clear hp
  by_cases hlt:k<n
  · obtain ⟨b,off,r,rfl,hr,hC⟩:=(HL.out.ext hx).at_ hlt
    obtain ⟨c0,c1,c2,c3,c4⟩:=hC;have HD:=gH (qDe l k r hr);have hbt:=qFk l k r hr;have hble:=qEb l (k+1);(have hsz:(r.text.size:Int)≤4611686018427387904:=by omega);(have hs2:s+r.text.size≤4611686018427387904:=by omega);(have hs3:Hid (s+(r.text.size:Int)≤(qAk (l.take (k+1)):Int)):=by show s+(r.text.size:Int)≤_;omega);clear hbt hble hr;have hcl:=clen_le r.text;have hcg:=clen_ge r.text;(have hcl2:s+clen r.text≤4611686018427387904:=by omega);go_wp2_with fail;refine (CLen_any r.text _ (HEn.out.ext (hx.alloc _)) (by omega)).mono ?_;rintro e w2 ⟨rfl,hx2⟩
    by_cases hneg:clen r.text<0
    · go_wp2_with fail
      go_ret;refine ⟨qAa ?_,(hx.alloc _).trans hx2⟩;rw [HP.out,HD.out,qAq,if_pos (by omega)]
    · go_wp2_with fail
      refine ⟨⟨k+1,s+clen r.text,by omega,by go_num,rfl,by omega,?_,(hx.alloc _).trans hx2,?_⟩,by simp [intOf];omega⟩
      · have:=hs3.out;omega
      · rw [HP.out,HD.out]
        exact qPd s r (l.drop (k+1)) (by omega)
  · have HD:Hid (l.drop k=[]):=List.drop_eq_nil_of_le (by rw [HLn.out];omega)
    go_wp2_with fail;go_ret;exact ⟨qAa (by rw [HP.out,HD.out];simp [qAq]),hx⟩
end
section
open Go.RowKit
def qDt (l:Row):List UInt8:=l.flatMap fun r=>r.text.data.toList
theorem qFu (l:Row):(qDt l).length=qAk l:=by
 unfold qDt qAk
 induction l with
 | nil=>rfl
 | cons r l ih=>simp [List.flatMap_cons,ih]
def PlainRel (w:World) (bx:Array Value) (n:Nat) (l:Row) (i:Value) (wr:World):Prop :=
 ∃ k:Nat,k≤n∧i = .int .i64 k∧Ext (w.alloc (.cells bx 174)) wr∧Lib.IsBuilder 122 5 (w.heap.size+1) (w.heap.size+1) (Lib.byteCells (qDt (l.take k))) wr
theorem qIb (a b:List UInt8):Lib.byteCells (a++b)=Lib.byteCells a++Lib.byteCells b:=by simp [Lib.byteCells]
theorem strCells_eq (s:ByteArray):Lib.strCells s=Lib.byteCells s.data.toList:=by
 rfl
theorem qNo (l:Row) (k:Nat) (r:Run) (h:l[k]?=some r):qDt (l.take (k+1))=qDt (l.take k)++r.text.data.toList:=by
 have hkl:=(List.getElem?_eq_some_iff.1 h).1;rw [List.take_succ_eq_append_getElem hkl,(List.getElem?_eq_some_iff.1 h).2];simp [qDt]
theorem isBuilder_alloc {T e:TypeId} {B b:Nat} {bs:List Value} {w:World} (h:Lib.IsBuilder T e B b bs w) (o:Obj):Lib.IsBuilder T e B b bs (w.alloc o):=by
 have key:∀ p,Lib.BuilderAt T e B b p bs w→Lib.BuilderAt T e B b p bs (w.alloc o):=fun p ⟨hB,v,hb,hown,hne⟩ =>
  ⟨hB,v,(Below.heap_alloc w o b (Array.getElem?_eq_some_iff.1 hb).1).trans hb,hown.alloc o,hne⟩
 exact h.elim (fun x=>.inl (key _ x)) (fun x=>.inr (key _ x))
set_option maxHeartbeats 1000000 in
theorem Plain_any (A:Option Addr) (n c:Nat) (l:Row) (w:World) (hl:qCt w A n l) (hb:qAk l≤140737488355328) (hn:n≤4611686018427387904) :
 Calls Tryz.prog 194 #[.agg #[.slice A n c]] w fun e w'=>e = .returned (.string ⟨(qDt l).toArray⟩)∧Ext w w':=by
 have HL:=gH hl;have HLn:=gH hl.len;clear hl;go_enter Tryz.func194,Tryz.ntmps194;go_wp2_with fail
 go_loopw [9] (fun i wr=>PlainRel w #[.slice A n c] n l i wr) (fun i _=>n-(intOf i).toNat)
 case atStart =>
  refine ⟨0,Nat.zero_le _,rfl,(Ext.refl _).alloc _,.inl ⟨Nat.le_refl _,.slice none 0 0,?_,⟨rfl,.inl ⟨rfl,rfl⟩⟩,by simp [Value.ownBlock]⟩⟩;exact Blk.new' (w:=w.alloc _) (by simp)
 case round =>
  obtain ⟨k,hk,rfl,hx,hbd⟩:=hrel;have hxw:Ext w wr:=((Ext.refl w).alloc _).trans hx;have HB:=gH hbd;clear hbd;have hsz:=hx.size;simp only [World.size_alloc] at hsz
  by_cases hlt:k<n
  · obtain ⟨b,off,r,rfl,hr,hC⟩:=(HL.out.ext hxw).at_ hlt
    obtain ⟨c0,c1,c2,c3,c4⟩:=hC;have HT:=gH (qNo l k r hr);have hbt:=qFk l k r hr;have hble:=qEb l (k+1)
    have hlen:Hid ((Lib.byteCells (qDt (l.take k))).length+r.text.size≤140737488355328):=by
     show (Lib.byteCells (qDt (l.take k))).length+r.text.size≤_
     rw [Lib.byteCells_length,qFu];omega
    clear hbt hble hr;go_wp2_with fail;refine (qOu (w.heap.size+1) _ _ _ _ (isBuilder_alloc HB.out _) hlen.out (by simp;omega)).mono ?_;rintro e w2 ⟨rfl,hb2,hx2⟩;go_wp2_with fail;refine ⟨⟨k+1,by omega,by go_num,?_,?_⟩,by simp [intOf];omega⟩
    · exact (hx.alloc _).below hx2 (by simp)
    · rw [HT.out,qIb]
      exact .inr hb2
  · have HT:Hid (l.take k=l):=List.take_of_length_le (by rw [HLn.out];omega)
    go_wp2_with fail;refine (Tryz.Builder_String_any (w.heap.size+1) _ _ _ HB.out (by omega)).mono ?_;rintro e w2 ⟨rfl,hx2⟩;go_wp2_with fail;go_ret;exact ⟨by rw [HT.out];rfl,hxw.below hx2 (by omega)⟩
end
end Go.Proofs.YtablhmobekmflaaGreatDoor