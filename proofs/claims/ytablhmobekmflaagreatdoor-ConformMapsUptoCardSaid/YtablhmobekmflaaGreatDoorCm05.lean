/- Texts laid together. -/
import Derived.Test.YtablhmobekmflaaGreatDoorCm03
import Derived.Test.YtablhmobekmflaaGreatDoorCm01
import Derived.Test.YtablhmobekmflaaGreatDoorCm04
import Derived.Test.YtablhmobekmflaaGreatDoorCm02
import Derived.Maps.Own
import Derived.Maps.OwnOps
import Derived.Maps.OwnSet
import Derived.Maps.Views
import Derived.Orders
set_option linter.unusedVariables false
set_option linter.unusedSimpArgs false
set_option maxRecDepth 100000
namespace Go.Proofs.YtablhmobekmflaaGreatDoor
section
open Go.RowKit
def orI (a b:Int):Int:=if a≠0 then a else b
set_option maxHeartbeats 400000 in
theorem Or_any (a b:Int) (g c:Nat) (w:World) (h0:w.cell? ⟨g,0,none⟩=some (.int .i64 a)) (h1:w.cell? ⟨g,1,none⟩=some (.int .i64 b)) :
 Calls Tryz.prog 133 #[.slice (some ⟨g,0,none⟩) 2 c] w fun e w'=>e = .returned (.int .i64 (orI a b))∧w=w':=by
 go_enter Tryz.func133,Tryz.ntmps133;go_wp2;(refine wp_loop_rounds 3 ?_;rw [rounds_succ])
 by_cases ha:(a != 0)=true
 · go_wp2
   go_ret;exact ⟨qAa (by unfold orI;simp at ha;simp [ha]),rfl⟩
 · have ha':(a != 0)=false:=by simpa using ha
   go_wp2;rw [rounds_succ]
   by_cases hb:(b != 0)=true
   · go_wp2
     go_ret;exact ⟨qAa (by unfold orI;simp at ha';simp [ha']),rfl⟩
   · have hb':(b != 0)=false:=by simpa using hb
     go_wp2;rw [rounds_succ];go_wp2;go_ret;exact ⟨qAa (by unfold orI;simp at ha' hb';simp [ha',hb']),rfl⟩
def qEl (x y:Ev):Bool:=decide (x.inn<y.inn∨x.inn=y.inn∧x.id<y.id)
theorem less_eq (x y:Ev):decide (orI (cmpI x.inn y.inn) (cmpI x.id y.id)<0)=qEl x y:=by
 unfold qEl orI cmpI
 congr 1
 apply propext
 repeat' split
 all_goals omega
set_option maxHeartbeats 2000000 in
theorem Less_any (x y:Ev) (A:Option Addr) (n c:Nat) (B:Option Addr) (m d:Nat) (w:World) :
 Calls Tryz.prog 72 #[.agg (x.cells A n c),.agg (y.cells B m d)] w fun e w'=>e = .returned (.bool (qEl x y))∧Ext w w':=by
 have hx:=((Ext.refl w).alloc (.cells (x.cells A n c) 64)).alloc (.cells (y.cells B m d) 64);have HX:=gH hx;clear hx;unfold Ev.cells at HX ⊢;go_enter Tryz.func72,Tryz.ntmps72;go_wp2_with fail;go_region_held3 (fun w'=>w'.cell? ⟨w.heap.size,0,none⟩=some (.int .i64 x.id)∧w'.cell? ⟨w.heap.size,1,none⟩=some (.int .i64 x.inn)∧w'.cell? ⟨w.heap.size+1,0,none⟩=some (.int .i64 y.id)∧w'.cell? ⟨w.heap.size+1,1,none⟩=some (.int .i64 y.inn)) (go_keep) (first | (go_at_call 134;refine (Compare_any _ _ _).mono ?_;rintro e w1 ⟨rfl,rfl⟩) | (go_at_call 133;refine (Or_any (cmpI x.inn y.inn) (cmpI x.id y.id) _ _ _ (by exact (Blk.drew (Blk.new' (by simp))).cell 0) (by exact (Blk.drew (Blk.new' (by simp))).cell 1)).mono ?_;rintro e w1 ⟨rfl,rfl⟩));go_wp2_with fail;go_ret;exact ⟨qAg (less_eq x y),(HX.out.drew).alloc _⟩
set_option maxHeartbeats 2000000 in
theorem RLess_any (x y:Ev) (A:Option Addr) (n c:Nat) (B:Option Addr) (m d:Nat) (w:World) :
 Calls Tryz.prog 110 #[.agg (x.cells A n c),.agg (y.cells B m d)] w fun e w'=>e = .returned (.bool (qEl x y))∧Ext w w':=by
 have hx:=((Ext.refl w).alloc (.cells (x.cells A n c) 64)).alloc (.cells (y.cells B m d) 64);have HX:=gH hx;clear hx;unfold Ev.cells at HX ⊢
 by_cases h1:x.inn<y.inn
 · have HF:Hid (qEl x y=true):=by show _=_;unfold qEl;exact decide_eq_true (.inl h1)
   go_enter Tryz.func110,Tryz.ntmps110;go_wp2_with fail;go_ret;exact ⟨qAg HF.out.symm,HX.out⟩
 · by_cases h2:x.inn=y.inn
   · have HF:Hid (qEl x y=decide (x.id<y.id)):=by
      show _=_
      unfold qEl
      congr 1
      apply propext;omega
     (have h2':(x.inn == y.inn)=true:=by simpa using h2);clear h2;go_enter Tryz.func110,Tryz.ntmps110;go_wp2_with fail;go_ret;exact ⟨qAg HF.out.symm,HX.out⟩
   · have HF:Hid (qEl x y=false):=by show _=_;unfold qEl;exact decide_eq_false (by omega)
     (have h2':(x.inn == y.inn)=false:=by simpa using h2);clear h2;go_enter Tryz.func110,Tryz.ntmps110;go_wp2_with fail;go_ret;exact ⟨qAg HF.out.symm,HX.out⟩
end
section
open Go.RowKit
def qJh (r:Int):Int:=if r=1 then 5005 else if r=2 then 5000 else if r=3 then 4800 else if r=4 then 4004 else if r=5 then 4000 else if r=6 then 2400 else if r=7 then 2002 else 0
def rNom (r:Int):Int:=if r=1 then 24 else if r=2 then 24 else if r=3 then 25 else if r=4 then 30 else if r=5 then 30 else if r=6 then 50 else if r=7 then 60 else 0
def qFw (r:Int):Bool:=decide (r=4∨r=7)
def rName (r:Int):ByteArray:=if r=1 then ⟨#[50,51,46,57,55,54]⟩ else if r=2 then ⟨#[50,52]⟩ else if r=3 then ⟨#[50,53]⟩ else if r=4 then ⟨#[50,57,46,57,55]⟩ else if r=5 then ⟨#[51,48]⟩ else if r=6 then ⟨#[53,48]⟩ else if r=7 then ⟨#[53,57,46,57,52]⟩ else ⟨#[]⟩
def rOk (r:Int):Bool:=decide (1≤r∧r≤7)
def qIl (r:Int):Value:=.agg #[.string (rName r),.int .i64 (qJh r),.int .i64 (rNom r),.bool (qFw r)]
theorem rate_cases {r:Int} (h0:0≤r):(r=0∨r=1∨r=2∨r=3∨r=4∨r=5∨r=6∨r=7)∨8≤r:=by omega
theorem rateVal_big {r:Int} (h:8≤r):qIl r = .agg #[.string ⟨#[]⟩,.int .i64 0,.int .i64 0,.bool false]:=by
 unfold qIl rName qJh rNom qFw;simp only [show ¬ r=1 by omega,show ¬ r=2 by omega,show ¬ r=3 by omega,show ¬ r=4 by omega,show ¬ r=5 by omega,show ¬ r=6 by omega,show ¬ r=7 by omega,if_false,or_self];rfl
def rateTab:Array Value:=#[.string ⟨#[]⟩,.int .i64 0,.int .i64 0,.bool false,.string ⟨#[50,51,46,57,55,54]⟩,.int .i64 5005,.int .i64 24,.bool false,.string ⟨#[50,52]⟩,.int .i64 5000,.int .i64 24,.bool false,
 .string ⟨#[50,53]⟩,.int .i64 4800,.int .i64 25,.bool false,.string ⟨#[50,57,46,57,55]⟩,.int .i64 4004,.int .i64 30,.bool true,.string ⟨#[51,48]⟩,.int .i64 4000,.int .i64 30,.bool false,
 .string ⟨#[53,48]⟩,.int .i64 2400,.int .i64 50,.bool false,.string ⟨#[53,57,46,57,52]⟩,.int .i64 2002,.int .i64 60,.bool true]
def rateZero:Array Value:=#[.string ⟨#[]⟩,.int .i64 0,.int .i64 0,.bool false]
theorem size_tab:(Tryz.prog.info? 259).map (·.size)=some 32:=by kernel_rfl
theorem qIm:(Tryz.prog.info? 214).map (·.size)=some 4:=by kernel_rfl
theorem tab_at (r:Int) (h0:0≤r) (h7:r≤7):∀ j v,[Value.string (rName r),.int .i64 (qJh r),.int .i64 (rNom r),.bool (qFw r)][j]?=some v→rateTab[r.toNat*4+j]?=some v:=by
 have:r=0∨r=1∨r=2∨r=3∨r=4∨r=5∨r=6∨r=7:=by omega
 rcases this with rfl | rfl | rfl | rfl | rfl | rfl | rfl | rfl
 all_goals
  intro j v
  match j with
  | 0=>exact id
  | 1=>exact id
  | 2=>exact id
  | 3=>exact id
  | j+4=>intro h;simp at h
set_option maxHeartbeats 2000000 in
theorem of_any (r:Int) (w:World) (h0:0≤r) (h1:r≤255):Calls Tryz.prog 146 #[.int .u8 r] w fun e w'=>e = .returned (qIl r)∧Ext w w':=by
 have HT:=gH (tab_at r h0);have HB:=gH (@rateVal_big r);go_enter Tryz.func146,Tryz.ntmps146;go_upto_region 1 with fail
 go_cut [3] (fun s3 wr=>s3=Value.pointer (some ⟨w.heap.size+1,0,none⟩)∧Ext w wr∧Blk wr w.heap.size 214 rateZero∧Blk wr (w.heap.size+1) 259 rateTab)
 case first =>
  go_wp2_with (refine qAi rfl 259 (.tmp 3) (.tmp 12) rfl (w.heap.size+1) 259 _ _ (by exact rfl) (by exact rfl) (by exact Blk.new' (by simp)) (by exact rfl) (by exact size_tab) (by simp [Value.oneCell']) ?_);go_meet
  case rel=>exact ⟨rfl,Ext.put (((Ext.refl w).alloc _).alloc _) (by omega) _ _,((Blk.new w _ _).alloc _).put_other (by omega) _,(Blk.new' (by simp)).put _⟩
 case rest =>
 obtain ⟨rfl,hx2,hB0,hB1⟩:=hcut;have HX:=gH hx2;have HB0:=gH hB0;have HB1:=gH hB1;clear hx2 hB0 hB1
 by_cases h8:8≤r
 · go_wp2_with (refine qAi rfl 214 (.tmp 2) (.tmp 16) rfl w.heap.size 214 _ _ (by exact rfl) (by exact rfl) (by exact HB0.out) (by exact rfl) (by exact qIm) (by simp [Value.oneCell']) ?_)
   refine bodyPost_ret (v:=qIl r) ?_ rfl ⟨rfl,?_⟩
   · rw [HB.out h8]
     exact qGa (P:=Tryz.prog) Tryz.results146 (g:=w.heap.size) rfl (by exact HB0.out.put _) Tryz.underlying214 rfl qIm
   · exact HX.out.put (Nat.le_refl _) _ _
 · have h7:r≤7:=by omega
   have HT7:=gH (HT.out h7);(have hr8:r<8:=by omega);clear HT h8;go_wp2_with (first | (refine wpList_load_mid rfl 214 (.tmp 18) rfl (w.heap.size+1) (r.toNat*4) (by first | exact rfl | (simp;done)) [.string (rName r),.int .i64 (qJh r),.int .i64 (rNom r),.bool (qFw r)] _ (fun j v hv=>by rw [HB1.out.cell];exact HT7.out j v hv) Tryz.underlying214 rfl (by exact qIm) ?_) | (refine qAi rfl 214 (.tmp 2) (.tmp 19) rfl w.heap.size 214 _ _ (by exact rfl) (by exact rfl) (by exact HB0.out) (by exact rfl) (by exact qIm) (by simp [Value.oneCell']) ?_));refine bodyPost_ret (v:=qIl r) ?_ rfl ⟨rfl,?_⟩
   · exact qGa (P:=Tryz.prog) Tryz.results146 (g:=w.heap.size) rfl (by exact HB0.out.put _) Tryz.underlying214 rfl qIm
   · exact HX.out.put (Nat.le_refl _) _ _
end
section
open Go.RowKit
theorem rNom_bd (r:Int):0≤rNom r∧rNom r≤60:=by unfold rNom;repeat' split<;>omega
theorem rOk_ticks (r:Int) (h0:0≤r):decide (0<qJh r)=rOk r:=by
 rcases rate_cases h0 with (rfl | rfl | rfl | rfl | rfl | rfl | rfl | rfl) | h8
 all_goals first | rfl | skip
 unfold rOk qJh;simp only [show ¬ r=1 by omega,show ¬ r=2 by omega,show ¬ r=3 by omega,show ¬ r=4 by omega,show ¬ r=5 by omega,show ¬ r=6 by omega,show ¬ r=7 by omega,if_false];rw [decide_eq_false (by omega),decide_eq_false (by omega)]
def qMm (r:Int) (d:Bool):Int:=if d then (if r=7 then 4 else 2) else 0
def qAr (r:Int) (d:Bool):Bool:=rOk r && (!d || qFw r)
def qEv (r:Int) (d:Bool):Int:=if qAr r d=true then 86400*rNom r-1296*qMm r d else 0
def qHr (r:Int) (d:Bool):Int:=if rOk r=true then (if d && !qFw r then 13 else 0) else 3
theorem qKe (r:Int) (d:Bool):0≤qMm r d∧qMm r d≤4:=by unfold qMm;repeat' split<;>omega
theorem rateErr_zero (r:Int) (d:Bool):(qHr r d != 0) = !qAr r d:=by
 unfold qHr qAr
 cases rOk r<;>cases d<;>cases qFw r<;>rfl
set_option maxHeartbeats 400000 in
theorem qEd (r:Int) (w:World) (h0:0≤r) (h1:r≤255):Calls Tryz.prog 90 #[.int .u8 r] w fun e w'=>e = .returned (.bool (rOk r))∧Ext w w':=by
 have HO:=gH (rOk_ticks r h0);(have hfd:∀ w:World,(Instr.field 214 (.agg #[.string (rName r),.int .i64 (qJh r),.int .i64 (rNom r),.bool (qFw r)]) 1).run Tryz.prog w = .ok (.int .i64 (qJh r)) w:=fun _=>by kernel_rfl);go_enter Tryz.func90,Tryz.ntmps90;go_wp2_with fail;refine (of_any r _ h0 h1).mono ?_;rintro e w1 ⟨rfl,hx⟩;unfold qIl;go_wp2_with fail;go_ret;exact ⟨qAg HO.out,hx⟩
set_option maxHeartbeats 400000 in
theorem qKa (r:Int) (w:World) (h0:0≤r) (h1:r≤255):Calls Tryz.prog 91 #[.int .u8 r] w fun e w'=>e = .returned (.bool (qFw r))∧Ext w w':=by
 (have hfd:∀ w:World,(Instr.field 214 (.agg #[.string (rName r),.int .i64 (qJh r),.int .i64 (rNom r),.bool (qFw r)]) 3).run Tryz.prog w = .ok (.bool (qFw r)) w:=fun _=>by kernel_rfl);go_enter Tryz.func91,Tryz.ntmps91;go_wp2_with fail;refine (of_any r _ h0 h1).mono ?_;rintro e w1 ⟨rfl,hx⟩;unfold qIl;go_wp2_with fail;go_ret;exact ⟨rfl,hx⟩
set_option maxHeartbeats 400000 in
theorem Nominal_any (r:Int) (w:World) (h0:0≤r) (h1:r≤255):Calls Tryz.prog 148 #[.int .u8 r] w fun e w'=>e = .returned (.int .i64 (rNom r))∧Ext w w':=by
 (have hfd:∀ w:World,(Instr.field 214 (.agg #[.string (rName r),.int .i64 (qJh r),.int .i64 (rNom r),.bool (qFw r)]) 2).run Tryz.prog w = .ok (.int .i64 (rNom r)) w:=fun _=>by kernel_rfl);go_enter Tryz.func148,Tryz.ntmps148;go_wp2_with fail;refine (of_any r _ h0 h1).mono ?_;rintro e w1 ⟨rfl,hx⟩;unfold qIl;go_wp2_with fail;go_ret;exact ⟨rfl,hx⟩
set_option maxHeartbeats 400000 in
theorem qLn (r:Int) (d:Bool) (w:World) (h0:0≤r) (h1:r≤255):Calls Tryz.prog 147 #[.int .u8 r,.bool d] w fun e w'=>e = .returned (.int .i64 (qHr r d))∧Ext w w':=by
 cases ho:rOk r
 · have HF:Hid (qHr r d=3):=by show _=_;unfold qHr;rw [ho];rfl
   have HO:=gH ho;clear ho;go_enter Tryz.func147,Tryz.ntmps147;go_wp2_with fail;refine (qEd r _ h0 h1).mono ?_;rintro e w1 ⟨rfl,hx⟩;rw [HO.out];go_wp2_with fail;go_ret;exact ⟨qAa HF.out.symm,hx⟩
 · have HO:=gH ho
   (have HF:Hid (qHr r d=(if d && !qFw r then 13 else 0)):=by show _=_;unfold qHr;rw [ho];rfl);clear ho
   cases d
   · go_enter Tryz.func147,Tryz.ntmps147
     go_wp2_with fail;refine (qEd r _ h0 h1).mono ?_;rintro e w1 ⟨rfl,hx⟩;rw [HO.out];go_wp2_with fail;go_ret;exact ⟨qAa HF.out.symm,hx⟩
   · go_enter Tryz.func147,Tryz.ntmps147
     go_wp2_with fail;refine (qEd r _ h0 h1).mono ?_;rintro e w1 ⟨rfl,hx⟩;rw [HO.out];go_wp2_with fail;refine (qKa r _ h0 h1).mono ?_;rintro e w2 ⟨rfl,hx2⟩
     cases hd:qFw r
     · have HD:=gH hd
       clear hd;go_wp2_with fail;go_ret;exact ⟨qAa (by rw [HF.out,HD.out];rfl),hx.trans hx2⟩
     · have HD:=gH hd
       clear hd;go_wp2_with fail;go_ret;exact ⟨qAa (by rw [HF.out,HD.out];rfl),hx.trans hx2⟩
theorem dropped_any (r:Int) (d:Bool) (w:World):Calls Tryz.prog 149 #[.int .u8 r,.bool d] w fun e w'=>e = .returned (.int .i64 (qMm r d))∧w=w':=by
 cases d
 · go_enter Tryz.func149,Tryz.ntmps149
   go_wp2;go_ret;exact ⟨rfl,rfl⟩
 · by_cases h:r=7
   · subst h
     go_enter Tryz.func149,Tryz.ntmps149;go_wp2;go_ret;exact ⟨rfl,rfl⟩
   · have h':(r == 7)=false:=by simpa using h
     (have HF:Hid (qMm r true=2):=by show _=_;unfold qMm;rw [if_pos rfl,if_neg h]);go_enter Tryz.func149,Tryz.ntmps149;go_wp2;go_ret;exact ⟨qAa HF.out.symm,rfl⟩
set_option maxHeartbeats 1000000 in
theorem Day_any (r:Int) (d:Bool) (w:World) (h0:0≤r) (h1:r≤255):Calls Tryz.prog 92 #[.int .u8 r,.bool d] w fun e w'=>e = .returned (.int .i64 (qEv r d))∧Ext w w':=by
 have HE:=gH (rateErr_zero r d)
 cases ho:qAr r d
 · have HF:Hid (qEv r d=0):=by show _=_;unfold qEv;rw [ho];rfl
   have HO:=gH ho;clear ho;go_enter Tryz.func92,Tryz.ntmps92;go_wp2_with fail;refine (qLn r d _ h0 h1).mono ?_;rintro e w1 ⟨rfl,hx⟩;(have hne:(qHr r d != 0)=true:=by rw [HE.out,HO.out];rfl);go_wp2_with fail;go_ret;exact ⟨qAa HF.out.symm,hx⟩
 · have HF:Hid (qEv r d=86400*rNom r-1296*qMm r d):=by show _=_;unfold qEv;rw [ho];rfl
   have HO:=gH ho;clear ho;have hn:=rNom_bd r;have hd:=qKe r d;go_enter Tryz.func92,Tryz.ntmps92;go_wp2_with fail;refine (qLn r d _ h0 h1).mono ?_;rintro e w1 ⟨rfl,hx⟩;(have hne:(qHr r d != 0)=false:=by rw [HE.out,HO.out];rfl);go_wp2_with fail;refine (Nominal_any r _ h0 h1).mono ?_;rintro e w2 ⟨rfl,hx2⟩;go_wp2_with fail;refine (dropped_any r d _).mono ?_;rintro e w3 ⟨rfl,rfl⟩;go_wp2_with fail;go_ret;exact ⟨qAa HF.out.symm,hx.trans hx2⟩
theorem qKq (r:Int) (d:Bool):qEv r d≤5184000:=by
 unfold qEv;have:=rNom_bd r;have:=qKe r d
 split<;>omega
theorem dayOf_ge (r:Int) (d:Bool):0≤qEv r d:=by
 unfold qEv qAr rOk;have:=qKe r d
 split
 · rename_i h
   simp only [Bool.and_eq_true,decide_eq_true_eq] at h
   have:24≤rNom r:=by
    have:r=1∨r=2∨r=3∨r=4∨r=5∨r=6∨r=7:=by omega
    rcases this with rfl | rfl | rfl | rfl | rfl | rfl | rfl<;>decide
   omega
 · omega
theorem dayOf_pos (r:Int) (d:Bool):(qEv r d == 0) = !qAr r d:=by
 unfold qEv
 cases h:qAr r d
 · rfl
 · have:=qKe r d
   unfold qAr rOk at h;simp only [Bool.and_eq_true,decide_eq_true_eq] at h
   have:24≤rNom r:=by
    have:r=1∨r=2∨r=3∨r=4∨r=5∨r=6∨r=7:=by omega
    rcases this with rfl | rfl | rfl | rfl | rfl | rfl | rfl<;>decide
   simp;omega
end
section
open Go.RowKit
structure Com where
 id:Int
 ev:Int
 fr:Int
 til:Int
 author:ByteArray
 text:ByteArray
 done:Bool
 lost:Bool
 deriving DecidableEq
def Com.vals (c:Com):List Value:=[.int .i64 c.id,.int .i64 c.ev,.int .i64 c.fr,.int .i64 c.til,.string c.author,.string c.text,.bool c.done,.bool c.lost]
structure Doc where
 title:ByteArray
 lang:ByteArray
 rate:Int
 drop:Bool
 last:Int
 regs:List Reg
 evs:List Ev
 coms:List Com
structure DocH where
 ra:Option Addr
 rn:Nat
 rc:Nat
 ea:Option Addr
 en:Nat
 ec:Nat
 ca:Option Addr
 cn:Nat
 cc:Nat
def Doc.cells (d:Doc) (h:DocH):Array Value:=#[.string d.title,.string d.lang,.int .u8 d.rate,.bool d.drop,.int .i64 d.last,.slice h.ra h.rn h.rc,.slice h.ea h.en h.ec,.slice h.ca h.cn h.cc]
def EvC (w:World) (b o:Nat) (e:Ev):Prop:=∃ A n c,(∀ j u,(e.cells A n c).toList[j]?=some u→w.cell? ⟨b,o+j,none⟩=some u)∧EvAt w e A n c
theorem EvC.stays:Stays EvC:=fun _ _ _ _ _ k ⟨A,n,c,h1,h2⟩=>⟨A,n,c,fun j u hu=>k.cell (h1 j u hu),h2.ext k⟩
def qKw (w:World) (A:Option Addr) (n:Nat) (l:List Ev):Prop:=Sl w 7 EvC A n l
theorem qKw.ext {w w1:World} {A:Option Addr} {n:Nat} {l:List Ev} (h:qKw w A n l) (k:Ext w w1):qKw w1 A n l:=Sl.ext EvC.stays h k
def qJk (w:World) (A:Option Addr) (n:Nat) (l:List Com):Prop:=Sl w 8 (Cells Com.vals) A n l
theorem qJk.ext {w w1:World} {A:Option Addr} {n:Nat} {l:List Com} (h:qJk w A n l) (k:Ext w w1):qJk w1 A n l:=Sl.ext (Cells.stays _) h k
structure qHy (w:World) (d:Doc) (h:DocH):Prop where
 regs:qDs w h.ra h.rn d.regs
 evs:qKw w h.ea h.en d.evs
 coms:qJk w h.ca h.cn d.coms
theorem qHy.ext {w w1:World} {d:Doc} {h:DocH} (k:qHy w d h) (hx:Ext w w1):qHy w1 d h:=⟨k.regs.ext hx,k.evs.ext hx,k.coms.ext hx⟩
theorem qKw.at_ev {w:World} {A:Option Addr} {n:Nat} {l:List Ev} (h:qKw w A n l) {i:Nat} (hi:i<n):∃ b off e A' n' c',A=some ⟨b,off,none⟩∧l[i]?=some e∧EvAt w e A' n' c' ∧
 (w.cell? ⟨b,off+i*7,none⟩=some (.int .i64 e.id)∧w.cell? ⟨b,off+i*7+1,none⟩=some (.int .i64 e.inn)∧w.cell? ⟨b,off+i*7+2,none⟩=some (.int .i64 e.out)∧w.cell? ⟨b,off+i*7+3,none⟩=some (.string e.region) ∧
  w.cell? ⟨b,off+i*7+4,none⟩=some (.int .u8 e.kind)∧w.cell? ⟨b,off+i*7+5,none⟩=some (.string e.speaker)∧w.cell? ⟨b,off+i*7+6,none⟩=some (.slice A' n' c')):=by
 obtain ⟨b,off,e,hA,he,A',n',c',hc,hat⟩:=h.at_ hi;exact ⟨b,off,e,A',n',c',hA,he,hat,by simpa using hc 0 _ rfl,hc 1 _ rfl,hc 2 _ rfl,hc 3 _ rfl,hc 4 _ rfl,hc 5 _ rfl,hc 6 _ rfl⟩
theorem qJk.at8 {w:World} {A:Option Addr} {n:Nat} {l:List Com} (h:qJk w A n l) {i:Nat} (hi:i<n):∃ b off c,A=some ⟨b,off,none⟩∧l[i]?=some c ∧
 (w.cell? ⟨b,off+i*8,none⟩=some (.int .i64 c.id)∧w.cell? ⟨b,off+i*8+1,none⟩=some (.int .i64 c.ev)∧w.cell? ⟨b,off+i*8+2,none⟩=some (.int .i64 c.fr)∧w.cell? ⟨b,off+i*8+3,none⟩=some (.int .i64 c.til) ∧
  w.cell? ⟨b,off+i*8+4,none⟩=some (.string c.author)∧w.cell? ⟨b,off+i*8+5,none⟩=some (.string c.text)∧w.cell? ⟨b,off+i*8+6,none⟩=some (.bool c.done)∧w.cell? ⟨b,off+i*8+7,none⟩=some (.bool c.lost)):=by
 obtain ⟨b,off,c,hA,hc,hC⟩:=h.at_ hi;exact ⟨b,off,c,hA,hc,by simpa using hC 0 _ rfl,hC 1 _ rfl,hC 2 _ rfl,hC 3 _ rfl,hC 4 _ rfl,hC 5 _ rfl,hC 6 _ rfl,hC 7 _ rfl⟩
def Doc.headErr (d:Doc):Int :=
 if vld d.title=false then 10 else if 400<d.title.size then 9 else if d.lang.toList.isEmpty=false∧qBm d.lang=false then 5 else if qAr d.rate d.drop=false then 13 else if d.last<0∨1099511627776<d.last then 2 else 0
def qEi:Option ByteArray→List Reg→Int
 | _,[]=>0
 | p,r :: l=>if r.check≠0 then r.check else if p=some r.name then 7 else if (p.map fun q=>Op.bytesLess r.name.toList q.toList)=some true then 8 else qEi (some r.name) l
def qDh (l:List Reg):Int:=if 16<l.length then 9 else qEi none l
def qBu (l:List Ev) (id:Int):Option Nat:=l.findIdx? fun e=>e.id == id
def qCe (regs:List Reg) (last:Int):List Ev→List Ev→Int
 | _,[]=>0
 | pre,x :: l=>if x.err regs≠0 then x.err regs else if last<x.id then 2 else if (pre.getLast?.map fun p=>qEl p x)=some false then 8 else if (qBu pre x.id).isSome=true then 7 else qCe regs last (pre++[x]) l
def Com.anchorErr (c:Com) (last:Int) (evs:List Ev):Int :=
 if c.ev<1∨last<c.ev then 2 else if c.lost=true then (if c.fr≠0∨c.til≠0 then 2 else 0) else
  match qBu evs c.ev with
  | none=>6
  | some k=>if c.fr<0∨c.til≤c.fr∨(evs[k]?.map fun e=>decide (e.len<c.til))=some true then 2 else 0
def qCu (last:Int) (evs:List Ev):Option Int→List Com→Int
 | _,[]=>0
 | p,c :: l=>if c.id<1∨last<c.id then 2 else if (p.map fun q=>decide (c.id≤q))=some true then 8 else if (qBu evs c.id).isSome=true then 7 else
  if c.anchorErr last evs≠0 then c.anchorErr last evs else if qBm c.author=false then 5 else if vld c.text=false then 10 else if c.text.toList.isEmpty=true then 4 else if 400<c.text.size then 9 else qCu last evs (some c.id) l
def Doc.err (d:Doc):Int :=
 if d.headErr≠0 then d.headErr else if qDh d.regs≠0 then qDh d.regs else if 400<d.evs.length then 9 else if qCe d.regs d.last [] d.evs≠0 then qCe d.regs d.last [] d.evs else
  if 64<d.coms.length then 9 else qCu d.last d.evs none d.coms
end
section
open Go.RowKit Go.Maps
theorem qIn:Keyed Tryz.prog 2:=int_keyed Tryz.underlying2
def IW (a:Int):Prop:=-9223372036854775808≤a∧a≤9223372036854775807
theorem IW.wf {a:Int} (h:IW a):(Lit.int .i64 a).wf=true:=by
 obtain ⟨h1,h2⟩:=h
 first | exact WalkArith.wf_i64 ⟨h1,h2⟩ | exact WalkArith.wf_i64 h1 h2 | exact WalkArith.wf_i64 (by omega) | (simp [Lit.wf,IntKind.min,IntKind.max,IntKind.bits,IntKind.signed];omega)
theorem IW.key {a:Int} (h:IW a):keyOf Tryz.prog 2 (.int .i64 a)=some (.int .i64 a):=keyOf_int_mk Tryz.underlying2 h.wf
theorem IW.isKey {a:Int} (h:IW a):WideAt.IsKeyLit (.int .i64 a):=qIn.key h.key
theorem qLu (l:List Ev) (x:Ev) (id:Int):qBu (l++[x]) id=match qBu l id with | some k=>some k | none=>if x.id=id then some l.length else none:=by
 unfold qBu;rw [List.findIdx?_append]
 cases h:l.findIdx? (fun e=>e.id == id) with
 | some k=>simp
 | none =>
  by_cases hx:x.id=id
  · simp [hx,List.findIdx?_cons]
  · simp [hx,List.findIdx?_cons]
def MapE (w:World) (T:TypeId) (B:Nat) (l:List Ev):Prop:=∃ (n:Nat) (D:DataW Unit),w.ownsMap Tryz.prog 2 (plainElem Tryz.prog T) B n D∧n≤l.length∧IsMap D ∧
 (∀ id,IW id→Maps.has D (.int .i64 id)=(qBu l id).isSome)∧∀ id k,IW id→qBu l id=some k→D.atKey (.int .i64 id) (.lit (.int .i64 0)) = .lit (.int .i64 k)
theorem MapE.made (w:World) (T:TypeId):MapE (w.alloc (.map #[] 0)) T w.heap.size [] :=
 ⟨0,.map [],World.ownsMap_made w _ _ _,Nat.le_refl _,isMap_empty,fun _ _=>rfl,fun _ _ _ h=>by simp [qBu] at h⟩
theorem MapE.ext {w w1:World} {T:TypeId} {B:Nat} {l:List Ev} (h:MapE w T B l) (k:Ext w w1):MapE w1 T B l:=by
 obtain ⟨n,D,⟨es,cl,h1,h2⟩,h3⟩:=h;exact ⟨n,D,⟨es,cl,(k.block B (Array.getElem?_eq_some_iff.1 h1).1).trans h1,h2⟩,h3⟩
theorem MapE.lt {w:World} {T:TypeId} {B:Nat} {l:List Ev} (h:MapE w T B l):B<w.heap.size:=by
 obtain ⟨n,D,h1,_⟩:=h;exact h1.lt
theorem MapE.put {w w1:World} {T:TypeId} {B n:Nat} {l:List Ev} {D:DataW Unit} {x:Ev} (hn:n≤l.length) (hm:IsMap D) (hh:∀ id,IW id→Maps.has D (.int .i64 id)=(qBu l id).isSome)
 (ha:∀ id k,IW id→qBu l id=some k→D.atKey (.int .i64 id) (.lit (.int .i64 0)) = .lit (.int .i64 k)) (hx:IW x.id) (hno:qBu l x.id=none)
 (h:w1.ownsMap Tryz.prog 2 (plainElem Tryz.prog T) B (n+1) (D.put (.int .i64 x.id) (.lit (.int .i64 l.length)))):MapE w1 T B (l++[x]):=by
 refine ⟨n+1,_,h,by simp;omega,hm.put _ _,fun id hid=>?_,fun id k hid hk=>?_⟩
 · rw [qLu]
   by_cases he:id=x.id
   · subst he
     rw [has_put_same hm hx.isKey,hno];simp
   · rw [has_put_other (by simpa using he),hh id hid]
     cases qBu l id with
     | some k=>rfl
     | none=>simp [Ne.symm he]
 · rw [qLu] at hk
   by_cases he:id=x.id
   · subst he
     rw [hno] at hk;simp at hk;subst hk;exact atKey_put_same hm hx.isKey _ _
   · rw [atKey_put_other (by simpa using he)]
     refine ha id k hid ?_
     cases hf:qBu l id with
     | some j=>rw [hf] at hk;simpa using hk
     | none=>rw [hf] at hk;simp [Ne.symm he] at hk
end
section
open Go.RowKit
theorem count_set (l:Array Bool) (i:Nat) (h:l.getD i true=false):((l.setIfInBounds i true).toList.count false)+1=l.toList.count false:=by
 have hi:i<l.size:=by
  rcases Nat.lt_or_ge i l.size with h' | h'
  · exact h'
  · simp [Array.getElem?_eq_none h'] at h
 (have hv:l[i]=false:=by simpa [hi] using h);rw [Array.toList_setIfInBounds];obtain ⟨l⟩:=l;simp only at hi hv ⊢;(have hi':i<l.length:=by simpa using hi);(have hv':l[i]=false:=by simpa using hv);rw [List.set_eq_take_append_cons_drop,if_pos hi']
 conv=>rhs;rw [← List.take_append_drop i l,List.drop_eq_getElem_cons hi',hv']
 simp [List.count_append];omega
theorem all_listed {md:Region.Mode} {ops:Array Oper} {l:Array Bool} (hord:∀ (i:Nat) (o:Oper),ops[i]?=some o→∀ e∈o.after,Region.binds md e=true→e.on<i) (hs:l.size=ops.size) (hr:Region.ready md ops l=[]):∀ i,i<ops.size→l.getD i false=true:=by
 intro i
 induction i using Nat.strongRecOn with
 | _ i ih =>
  intro hi
  cases hl:l.getD i false with
  | true=>rfl
  | false =>
   exfalso;(have hil:i<l.size:=by omega);have hm:i∈Region.ready md ops l:=mem_ready.2 ⟨by simpa [hil] using hl,ops[i],by simp [hi],fun e he hb=>ih e.on (hord i _ (by simp [hi]) e he hb) (by have:=hord i ops[i] (by simp [hi]) e he hb;omega)⟩;rw [hr] at hm
   cases hm
theorem qIj {P:Program} {md:Region.Mode} {ops:Array Oper} {Q:Exit→Act→World→Prop} (Inv:Array Bool→Act→World→Prop)
 (hsize:∀ l a w,Inv l a w→l.size=ops.size)
 (hstep:∀ l a w,Inv l a w→∀ i o,ops[i]?=some o→l.getD i true=false→(∀ e∈o.after,Region.binds md e=true→l.getD e.on false=true) →
  ∀ K:Act→World→Prop,(∀ a w,Inv (l.setIfInBounds i true) a w→K a w)→if Region.wanted o (yielded ops a.tmps)=true then Oper.wp P o a w K Q else K (a.put o.dst undef) w)
 (hord:∀ (i:Nat) (o:Oper),ops[i]?=some o→∀ e∈o.after,Region.binds md e=true→e.on<i)
 (hdone:∀ l a w,Inv l a w→(∀ i,i<ops.size→l.getD i false=true)→Q .normal a w) :
 ∀ (fuel:Nat) (l:Array Bool) (a:Act) (w:World),l.toList.count false≤fuel→Inv l a w→wpAny P md ops Q fuel l a w
 | 0,l,a,w,hc,hI=>by
  have hr:Region.ready md ops l=[]:=by
   apply List.eq_nil_iff_forall_not_mem.2;intro i hi;obtain ⟨h0,_⟩:=mem_ready.1 hi;have:=count_set l i h0;omega
  exact ⟨hr,hdone l a w hI (all_listed hord (hsize l a w hI) hr)⟩
 | fuel+1,l,a,w,hc,hI=>by
  refine ⟨fun hr=>hdone l a w hI (all_listed hord (hsize l a w hI) hr),fun i hi=>?_⟩;obtain ⟨h0,o,ho,hall⟩:=mem_ready.1 hi;have hs:=count_set l i h0;have h1:=hstep l a w hI i o ho h0 hall (wpAny P md ops Q fuel (l.setIfInBounds i true)) (fun a' w' hI'=>qIj Inv hsize hstep hord hdone fuel _ a' w' (by omega) hI');unfold wpOp;simp only [ho]
  split
  · rename_i hw;rw [if_pos hw] at h1;exact .inl h1
  · rename_i hw;rw [if_neg hw] at h1;exact h1
theorem qHv {l:Array Bool} {i:Nat} (h:i<l.size):(l.setIfInBounds i true).getD i false=true:=by simp [h]
theorem qAm {l:Array Bool} {i j:Nat} (h:i≠j):(l.setIfInBounds i true).getD j false=l.getD j false:=getD_set_ne false h
theorem qMu {l:Array Bool} {i:Nat} (h:l.getD i true=false):l.getD i false=false:=by
 rcases Nat.lt_or_ge i l.size with h' | h'
 · simpa [h'] using h
 · simp [Array.getElem?_eq_none h'] at h
theorem qDz {P:Program} {o:Oper} {a:Act} {w:World} {K:Act→World→Prop} {Q:Exit→Act→World→Prop} {f:FuncId} {x:Operand} {ts:Array TypeId} {v:Value} (ho:o.op = .call { callee:=.value (.func f),args:=#[x],argTypes:=ts }) (hx:a.eval x=v)
 (hent:∀ args w,(callFunc f args).run P w = .ok (.enter f args) w) {R:Ending→World→Prop} (hc:Calls P f #[v] w R) (h:∀ en w',R en w'→∃ u,en = .returned u∧K (a.put o.dst u) w'):o.wp P a w K Q:=by
 have h2:Calls P f #[v] w (fun
  | .returned u,w''=>K (a.put o.dst u) w''
  | .panicked chain,w''=>Q (.panic chain) a w''
  | .outgrown,_=>LetsOut Q):=hc.mono fun en w' hr=>by
  obtain ⟨u,rfl,hk⟩:=h en w' hr;exact hk
 unfold Oper.wp execOp;simp only [ho];have hev:a.eval (.func f) = .func (.func f) #[] #[]:=rfl;simp [resolve,invoke,hev,hx,hent,Sem.run_bind,Deferred.ofValue];exact h2
theorem qKf {P:Program} {o:Oper} {a:Act} {w:World} {K:Act→World→Prop} {Q:Exit→Act→World→Prop} (ty:TypeId) (x y:Operand) (ho:o.op = .store ty x y) (g:Nat) (t:TypeId) (cs cs':Array Value) (hx:a.eval x = .pointer (some ⟨g,0,none⟩)) (hy:a.eval y = .agg cs')
 (hi:(P.info? ty).map (·.size)=some cs'.size) (h1:cs'.all (·.oneCell')=true) (hB:Blk w g t cs) (hl:cs.size=cs'.size) (h:K (a.put o.dst undef) (putB w g t cs')):o.wp P a w K Q:=by
 refine wp_store_mid ty x y ho g 0 cs' hx hy (fun j hj=>?_) hi h1 (by rw [qNb hB cs' hl];exact h);rw [hB.cell,hB.frozen];exact ⟨by simp;omega,rfl⟩
theorem edge {es:Array Edge} {k:Nat} (h:es.toList.any (fun d=>Region.binds .any d && d.on == k)=true):∃ d∈es,Region.binds .any d=true∧d.on=k:=by
 obtain ⟨d,hd,h'⟩:=List.any_eq_true.1 h;simp only [Bool.and_eq_true,beq_iff_eq] at h';exact ⟨d,by simpa using hd,h'⟩
def ordB:Nat→List Oper→Bool
 | _,[]=>true
 | i,o :: l=>o.after.all (fun d=>!Region.binds .any d || decide (d.on<i)) && ordB (i+1) l
theorem ordB_at:∀ (l:List Oper) (k:Nat),ordB k l=true→∀ i o,l[i]?=some o→∀ d∈o.after,Region.binds .any d=true→d.on<k+i
 | [],_,_,i,o,h=>by simp at h
 | o' :: l,k,hb,0,o,h=>by
  simp only [ordB,Bool.and_eq_true] at hb;simp at h;subst h;intro d hd hbd;have:=(Array.all_eq_true'.1 hb.1) d hd;simpa [hbd] using this
 | o' :: l,k,hb,i+1,o,h=>by
  simp only [ordB,Bool.and_eq_true] at hb;intro d hd hbd;have:=ordB_at l (k+1) hb.2 i o (by simpa using h) d hd hbd;omega
theorem hordB {ops:Array Oper} (h:ordB 0 ops.toList=true):∀ (i:Nat) (o:Oper),ops[i]?=some o→∀ d∈o.after,Region.binds .any d=true→d.on<i:=fun i o ho d hd hbd=>by
 have:=ordB_at ops.toList 0 h i o (by simpa using ho) d hd hbd;omega
theorem qCd {P:Program} {op:Oper} {a:Act} {w:World} {K:Act→World→Prop} {Q:Exit→Act→World→Prop} (ty:TypeId) (x:Operand) (ho:op.op = .load ty x) (g:Nat) (t:TypeId) (cs:Array Value) (d:TypeDesc) (hx:a.eval x = .pointer (some ⟨g,0,none⟩))
 (hB:Blk w g t cs) (hu:P.underlying ty=some d) (hd:d.isRow=true) (hi:(P.info? ty).map (·.size)=some cs.size) (h:K (a.put op.dst (.agg cs)) w):op.wp P a w K Q:=by
 refine wp_load_mid ty x ho g 0 hx cs.toList d (fun j v hv=>?_) hu hd (by simpa using hi) (by simpa using h);rw [hB.cell];simpa using hv
end
section
open Go.RowKit
def qJx (ops:Array Oper) (j:Nat):Nat:=((ops[j]?).bind (·.dst)).getD 0
def dstOK (ops:Array Oper) (n:Nat):Bool:=ops.toList.all (fun o=>(o.dst.map (fun s=>decide (s<n))).getD false) && decide ((ops.toList.map (fun o=>o.dst.getD 0)).Nodup)
def DetInv (ops:Array Oper) (a0:Act) (W:World) (vals:Nat→Value) (l:Array Bool) (a:Act) (w:World):Prop :=
 l.size=ops.size∧Ext W w∧a.defers=a0.defers∧a.tmps.size=a0.tmps.size∧(∀ s,(∀ j,j<ops.size→qJx ops j≠s)→a.tmps[s]?=a0.tmps[s]?) ∧
  (∀ j,j<ops.size→l.getD j false=true→a.tmps[qJx ops j]?=some (vals j))
theorem qKp {ops:Array Oper} {n j:Nat} {o:Oper} (h:dstOK ops n=true) (ho:ops[j]?=some o):o.dst=some (qJx ops j)∧qJx ops j<n:=by
 simp only [dstOK,Bool.and_eq_true,List.all_eq_true] at h;(have hm:o∈ops.toList:=by simpa using Array.mem_of_getElem? ho);have:=h.1 o hm;unfold qJx;rw [ho]
 cases hd:o.dst with
 | none=>rw [hd] at this;simp at this
 | some s=>rw [hd] at this;simp at this;simp [hd,this]
theorem dstOK_inj {ops:Array Oper} {n i j:Nat} (h:dstOK ops n=true) (hi:i<ops.size) (hj:j<ops.size) (he:qJx ops i=qJx ops j):i=j:=by
 simp only [dstOK,Bool.and_eq_true,decide_eq_true_eq] at h;have hn:=h.2
 have key:∀ k (hk:k<ops.size),(ops.toList.map (fun o=>o.dst.getD 0))[k]?=some (qJx ops k):=fun k hk=>by
  (have ho:ops[k]?=some ops[k]:=by simp [hk]);have:=(qKp (by simp only [dstOK,Bool.and_eq_true,decide_eq_true_eq];exact h) ho).1;rw [List.getElem?_map];simp [hk,this]
 (have hl:(ops.toList.map (fun o=>o.dst.getD 0)).length=ops.size:=by simp);refine (List.getElem?_inj (by rw [hl];exact hi) hn).1 ?_;rw [key i hi,key j hj,he]
theorem wp_region_det {P:Program} {ops:Array Oper} {Q:Exit→Act→World→Prop} {id:Nat} {a0:Act} {W:World} (vals:Nat→Value) (hm:P.follows .mixedOrders=true) (hdst:dstOK ops a0.tmps.size=true) (hord:ordB 0 ops.toList=true)
 (hstep:∀ i o,ops[i]?=some o→∀ (a:Act) (w:World) (K:Act→World→Prop),Ext W w→(∀ s,(∀ j,j<ops.size→qJx ops j≠s)→a.tmps.getD s undef=a0.tmps.getD s undef) →
  (∀ j,(∃ d∈o.after,Region.binds .any d=true∧d.on=j)→j<ops.size→a.tmps[qJx ops j]?=some (vals j))→(∀ w',Ext w w'→K (a.put o.dst (vals i)) w') →
  if Region.wanted o (yielded ops a.tmps)=true then Oper.wp P o a w K Q else K (a.put o.dst undef) w)
 (hQ:∀ a w,Ext W w→a.defers=a0.defers→a.tmps.size=a0.tmps.size→(∀ s,(∀ j,j<ops.size→qJx ops j≠s)→a.tmps[s]?=a0.tmps[s]?)→(∀ j,j<ops.size→a.tmps[qJx ops j]?=some (vals j))→Q .normal a w) :
 (Code.region id ops true).wp P Q a0 W:=by
 refine wp_region_any hm ?_;refine qIj (DetInv ops a0 W vals) (fun l a w h=>h.1) ?_ (hordB hord) ?_ _ _ _ _ (by simp) ?_
 · intro l a w hI i o ho hl hall K hK
   obtain ⟨hs,hx,hdf,hsz,hnot,hval⟩:=hI;have hi:i<ops.size:=(Array.getElem?_eq_some_iff.1 ho).1;refine hstep i o ho a w K hx (fun s hsn=>?_) (fun j hj hjl=>?_) (fun w' hx'=>?_)
   · have:=hnot s hsn
     simp [this]
   · obtain ⟨d,hd,hb,rfl⟩:=hj
     exact hval _ hjl (hall d hd hb)
   · apply hK
     obtain ⟨hd1,hd2⟩:=qKp hdst ho;rw [hd1];refine ⟨by simpa using hs,hx.trans hx',hdf,by simpa [Act.put] using hsz,fun s hsn=>?_,fun j hj hjl=>?_⟩
     · simp only [Act.put]
       rw [Array.getElem?_setIfInBounds_ne (hsn i hi)];exact hnot s hsn
     · simp only [Act.put]
       by_cases hij:i=j
       · subst hij
         simp [hsz,hd2]
       · rw [Array.getElem?_setIfInBounds_ne (fun h=>hij (dstOK_inj hdst hi hj h))]
         rw [qAm hij] at hjl;exact hval j hj hjl
 · rintro l a w ⟨hs,hx,hdf,hsz,hnot,hval⟩ hall
   exact hQ a w hx hdf hsz hnot (fun j hj=>hval j hj (hall j hj))
 · exact ⟨by simp,(Ext.refl W).drew,rfl,rfl,fun _ _=>rfl,fun j hj h=>by simp [Array.getElem?_replicate,hj] at h⟩
theorem qAb {a:Act} {s:Nat} {v:Value} (h:a.tmps[s]?=some v):a.eval (.tmp s)=v:=by simp [Act.eval,h]
theorem want_of {ops:Array Oper} {o:Oper} {a:Act} {k s:Nat} {b b':Bool} (hg:o.guard=some (k,b)) (hk:(ops[k]?).bind (·.dst)=some s) (hv:a.tmps[s]?=some (.bool b')):Region.wanted o (yielded ops a.tmps)=(b' == b):=by
 unfold Region.wanted yielded;rw [hg];simp only [hk,Option.bind_some,hv]
 cases b<;>cases b'<;>rfl
theorem qAd {o:Oper} {y:Nat→Option Bool} {A B:Prop} (hg:o.guard=none) (h:A):if Region.wanted o y=true then A else B:=by
 rw [if_pos (by simp [Region.wanted,hg])];exact h
theorem qAe {ops:Array Oper} {o:Oper} {a:Act} {k s:Nat} {b b':Bool} {A B:Prop} (hg:o.guard=some (k,b)) (hk:(ops[k]?).bind (·.dst)=some s) (hv:a.tmps[s]?=some (.bool b')) (he:(b' == b)=true) (h:A):if Region.wanted o (yielded ops a.tmps)=true then A else B:=by
 rw [if_pos (by rw [want_of hg hk hv];exact he)];exact h
theorem want_no {ops:Array Oper} {o:Oper} {a:Act} {k s:Nat} {b b':Bool} {A B:Prop} (hg:o.guard=some (k,b)) (hk:(ops[k]?).bind (·.dst)=some s) (hv:a.tmps[s]?=some (.bool b')) (he:(b' == b)=false) (h:B):if Region.wanted o (yielded ops a.tmps)=true then A else B:=by
 rw [if_neg (by rw [want_of hg hk hv,he];simp)];exact h
section
variable {P:Program} {o:Oper} {a:Act} {w:World} {K:Act→World→Prop} {Q:Exit→Act→World→Prop}
theorem qAv (x:Operand) (v:Value) (ho:o.op = .move x) (hx:a.eval x=v) (h:K (a.put o.dst v) w):o.wp P a w K Q:=by
 unfold Oper.wp execOp;simp [ho,hx,Sem.run_pure];exact h
theorem qCi (x:Operand) (v:Value) (ho:o.op = .assign x) (hx:a.eval x=v) (h:K (a.put o.dst v) w):o.wp P a w K Q:=by
 unfold Oper.wp execOp;simp [ho,hx,Sem.run_pure];exact h
theorem qDg (c x y:Operand) (b:Bool) (v:Value) (ho:o.op = .pick c x y) (hc:a.eval c = .bool b) (hx:(if b then a.eval x else a.eval y)=v) (h:K (a.put o.dst v) w):o.wp P a w K Q:=by
 unfold Oper.wp execOp;simp [ho,hc,asBool,Sem.run_pure,Sem.run_bind];rw [hx];exact h
theorem qDc {f:FuncId} {x y:Operand} {ts:Array TypeId} {v u:Value} (ho:o.op = .call { callee:=.value (.func f),args:=#[x,y],argTypes:=ts }) (hx:a.eval x=v) (hy:a.eval y=u)
 (hent:∀ args w,(callFunc f args).run P w = .ok (.enter f args) w) {r:Value} (hc:Calls P f #[v,u] w fun en w'=>en = .returned r∧Ext w w') (h:∀ w',Ext w w'→K (a.put o.dst r) w'):o.wp P a w K Q:=by
 have h2:Calls P f #[v,u] w (fun
  | .returned u,w''=>K (a.put o.dst u) w''
  | .panicked chain,w''=>Q (.panic chain) a w''
  | .outgrown,_=>LetsOut Q):=hc.mono fun en w' hr=>by
  obtain ⟨rfl,hk⟩:=hr;exact h w' hk
 unfold Oper.wp execOp;simp only [ho];have hev:a.eval (.func f) = .func (.func f) #[] #[]:=rfl;simp [resolve,invoke,hev,hx,hy,hent,Sem.run_bind,Deferred.ofValue];exact h2
end
theorem qLo {a0:Array Value}:∀ (L:List (Nat × Value)) (a a0:Array Value),a.size=a0.size→(∀ p∈L,a[p.1]?=some p.2)→(∀ s,s ∉ L.map (·.1)→a[s]?=a0[s]?)→a=L.foldl (fun t p=>t.setIfInBounds p.1 p.2) a0
 | [],a,a0,_,_,hn=>Array.ext_getElem? fun i=>hn i (by simp)
 | p :: L,a,a0,hz,hv,hn=>by
  rw [List.foldl_cons];refine qLo (a0:=a0) L a _ (by simpa using hz) (fun q hq=>hv q (List.mem_cons_of_mem _ hq)) (fun s hs=>?_);have hp:=hv p (List.mem_cons_self ..)
  by_cases he:p.1=s
  · subst he
    (have hlt:p.1<a0.size:=by rw [← hz];exact (Array.getElem?_eq_some_iff.1 hp).1);rw [hp];simp [hlt]
  · rw [Array.getElem?_setIfInBounds_ne he]
    exact hn s (by simp only [List.map_cons,List.mem_cons,not_or];exact ⟨fun h=>he h.symm,hs⟩)
theorem dstAt_of {ops:Array Oper} {j s:Nat} (h:(ops[j]?).bind (·.dst)=some s):qJx ops j=s∧j<ops.size:=by
 unfold qJx;rw [h];refine ⟨rfl,?_⟩
 cases ho:ops[j]? with
 | none=>rw [ho] at h;cases h
 | some o=>exact (Array.getElem?_eq_some_iff.1 ho).1
theorem qAt {P:Program} {ops:Array Oper} {Q:Exit→Act→World→Prop} {id:Nat} {a0:Act} {W:World} (vals:List Value) (L:List (Nat × Value)) (hm:P.follows .mixedOrders=true) (hdst:dstOK ops a0.tmps.size=true) (hord:ordB 0 ops.toList=true)
 (hL:(ops.toList.map (fun o=>o.dst.getD 0)).zip vals=L) (hlen:vals.length=ops.size)
 (hstep:∀ (i:Nat) (o:Oper),ops[i]?=some o→∀ (a:Act) (w:World) (K:Act→World→Prop),Ext W w→(∀ s:Nat,ops.toList.all (fun o=>o.dst != some s)=true→a.eval (.tmp s)=a0.eval (.tmp s)) →
  (∀ (j s:Nat) (v:Value),o.after.toList.any (fun d=>Region.binds .any d && d.on == j)=true→(ops[j]?).bind (·.dst)=some s→vals[j]?=some v→a.tmps[s]?=some v)→(∀ v,vals[i]?=some v→∀ w',Ext w w'→K (a.put o.dst v) w') →
  if Region.wanted o (yielded ops a.tmps)=true then Oper.wp P o a w K Q else K (a.put o.dst undef) w)
 (hQ:∀ w,Ext W w→Q .normal { a0 with tmps:=L.foldl (fun t p=>t.setIfInBounds p.1 p.2) a0.tmps } w) :
 (Code.region id ops true).wp P Q a0 W:=by
 (have hget:∀ j,j<ops.size→vals[j]?=some (vals.getD j undef):=fun j hj=>by simp [hlen,hj]);refine wp_region_det (fun j=>vals.getD j undef) hm hdst hord (fun i o ho a w K hx hn hd hk=>?_) (fun a w hx hdf hsz hnot hval=>?_)
 · refine hstep i o ho a w K hx (fun s hs=>?_) (fun j s v hj hb hv=>?_) (fun v hv w' hx'=>?_)
   · refine hn s fun j hj he=>?_
     have h1:=(qKp hdst (show ops[j]?=some ops[j] by simp [hj])).1;have h2:=List.all_eq_true.1 hs ops[j] (by simp);rw [h1,he] at h2;simp at h2
   · obtain ⟨h1,h2⟩:=dstAt_of hb
     have h3:=hd j (edge hj) h2;rw [h1] at h3;rw [h3];have h4:=hget j h2;rw [hv] at h4;exact congrArg some (Option.some.inj h4).symm
   · have h4:=hget i (Array.getElem?_eq_some_iff.1 ho).1
     rw [hv] at h4;have:=hk w' hx';rw [← Option.some.inj h4] at this;exact this
 · have hmem:∀ p∈L,∃ j,j<ops.size∧p=(qJx ops j,vals.getD j undef):=fun p hp=>by
    rw [← hL] at hp;obtain ⟨j,hj⟩:=List.getElem?_of_mem hp;rw [List.getElem?_zip_eq_some] at hj;obtain ⟨h1,h2⟩:=hj;(have hjl:j<ops.size:=by rw [← hlen];exact (List.getElem?_eq_some_iff.1 h2).1);refine ⟨j,hjl,?_⟩;(have ho:ops[j]?=some ops[j]:=by simp [hjl]);have hd:=(qKp hdst ho).1;rw [List.getElem?_map] at h1;simp [hjl,hd] at h1;have h4:=hget j hjl;rw [h2] at h4;obtain ⟨p1,p2⟩:=p;simp only at h1 h4;rw [← h1,Option.some.inj h4]
   have hfr:=qLo (a0:=a0.tmps) L a.tmps a0.tmps hsz (fun p hp=>by
    obtain ⟨j,hj,rfl⟩:=hmem p hp
    exact hval j hj) (fun s hs=>hnot s fun j hj he=>hs (by
     rw [← hL,List.map_fst_zip (by simp [hlen])];(have ho:ops[j]?=some ops[j]:=by simp [hj]);have hd:=(qKp hdst ho).1;rw [List.mem_map]
     exact ⟨ops[j],by simp,by rw [hd,he];rfl⟩))
   have:a={ a0 with tmps:=L.foldl (fun t p=>t.setIfInBounds p.1 p.2) a0.tmps }:=by
    obtain ⟨at_,ad⟩:=a;simp only at hfr hdf;rw [hfr,hdf]
   rw [this];exact hQ w hx
end
end Go.Proofs.YtablhmobekmflaaGreatDoor