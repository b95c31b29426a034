/- Texts laid together. -/
import Derived.Test.YtablhmobekmflaaGreatDoorCm06
import Derived.Test.YtablhmobekmflaaGreatDoorCm02
import Derived.Test.YtablhmobekmflaaGreatDoorCm09
import Derived.Lib.SlicesCompact
import Derived.Lib.RowBridge
import Derived.Sort.KeysCollected
import Derived.Test.YtablhmobekmflaaGreatDoorCm01
import Derived.Sort.OwnSorted
import Derived.Sort.EveryDepth
import Derived.Lib.OwnBridge
import Derived.Test.YtablhmobekmflaaGreatDoorCm05
set_option linter.unusedVariables false
set_option linter.unusedSimpArgs false
set_option maxRecDepth 100000
namespace Go.Proofs.YtablhmobekmflaaGreatDoor
section
open Go.RowKit
theorem qKz (n:Int) (w:World) (h:0≤n) (h9:n≤9223372036854775807):Calls Tryz.prog 164 #[.int .i64 n] w fun e w'=>e = .returned (.int .u64 n)∧w=w':=by
 go_enter Tryz.func164,Tryz.ntmps164;go_wp2;go_ret;exact ⟨rfl,rfl⟩
theorem known_any (m:Int) (w:World) (h1:1≤m) (h3:m≤3):Calls Tryz.prog 163 #[.int .u8 m] w fun e w'=>e = .returned (.bool true)∧w=w':=by
 go_enter Tryz.func163,Tryz.ntmps163;go_wp2;go_ret;exact ⟨rfl,rfl⟩
def qKu (r d m:Int):Bool:=if r=0 then false else if m=1 then false else if m=3 then true else decide (d-r≤r)
set_option maxHeartbeats 1000000 in
theorem away_any (r d m:Int) (w:World) (hr:0≤r) (hd:r<d) (h9:d≤9223372036854775807) (h1:1≤m) (h3:m≤3):Calls Tryz.prog 165 #[.bool false,.int .u64 r,.int .u64 d,.int .u8 m] w fun e w'=>e = .returned (.bool (qKu r d m))∧w=w':=by
 by_cases h0:r=0
 · subst h0
   go_enter Tryz.func165,Tryz.ntmps165;go_wp2;go_ret;exact ⟨rfl,rfl⟩
 · have e0:(r == 0)=false:=by simpa using h0
   have hm:m=1∨m=2∨m=3:=by omega
   rcases hm with rfl | rfl | rfl
   · have HF:Hid (qKu r d 1=false):=by show _=_;unfold qKu;rw [if_neg h0];rfl
     go_enter Tryz.func165,Tryz.ntmps165;go_wp2;go_ret;exact ⟨qAg HF.out.symm,rfl⟩
   · have HF:Hid (qKu r d 2=decide (d-r≤r)):=by show _=_;unfold qKu;rw [if_neg h0];rfl
     by_cases hg:d-r<r
     · go_enter Tryz.func165,Tryz.ntmps165
       go_wp2;go_ret;exact ⟨qAg (by rw [HF.out,decide_eq_true (by omega)]),rfl⟩
     · by_cases hq:r=d-r
       · have hq':(r == d-r)=true:=by simpa using hq
         have HQ:=gH hq;clear hq;go_enter Tryz.func165,Tryz.ntmps165;go_wp2;go_ret;exact ⟨qAg (by rw [HF.out,decide_eq_true (by have:=HQ.out;omega)]),rfl⟩
       · have hq':(r == d-r)=false:=by simpa using hq
         go_enter Tryz.func165,Tryz.ntmps165;go_wp2;go_ret;exact ⟨qAg (by rw [HF.out,decide_eq_false (by omega)]),rfl⟩
   · have HF:Hid (qKu r d 3=true):=by show _=_;unfold qKu;rw [if_neg h0];rfl
     go_enter Tryz.func165,Tryz.ntmps165;go_wp2;go_ret;exact ⟨qAg HF.out.symm,rfl⟩
theorem quo_u64 {n d:Int} {w:World} (hn:0≤n) (hd:1≤d) (hn9:n≤9223372036854775807) (hd9:d≤9223372036854775807):(do eqGuard .quo 192 (.tmp 24) (.tmp 26) (.int .u64 n) (.int .u64 d);binOp .quo 192 (.int .u64 n) (.int .u64 d):Sem Value).run Tryz.prog w = .ok (.int .u64 (n / d)) w:=by
 have h1:0≤n / d:=Int.ediv_nonneg hn (by omega);have h2:n / d≤n:=Int.ediv_le_self _ hn;(have hd0:(d == 0)=false:=by simp;omega);have e:n.tdiv d=n / d:=Int.tdiv_eq_ediv_of_nonneg hn;(have hz:¬ d=0:=by omega);go_simp;simp [IntKind.wrap,IntKind.bits,IntKind.signed];omega
theorem rem_u64 {n d:Int} {w:World} (hn:0≤n) (hd:1≤d) (hn9:n≤9223372036854775807) (hd9:d≤9223372036854775807):(do eqGuard .rem 192 (.tmp 29) (.tmp 31) (.int .u64 n) (.int .u64 d);binOp .rem 192 (.int .u64 n) (.int .u64 d):Sem Value).run Tryz.prog w = .ok (.int .u64 (n % d)) w:=by
 have h1:0≤n % d:=Int.emod_nonneg _ (by omega);have h2:n % d<d:=Int.emod_lt_of_pos _ (by omega);have e:n.tmod d=n % d:=Int.tmod_eq_emod_of_nonneg hn;(have hz:¬ d=0:=by omega);go_simp
def quoI (n d m:Int):Int:=if qKu (n % d) d m=true then n / d+1 else n / d
set_option maxHeartbeats 2000000 in
theorem qGq (n d m:Int) (w:World) (hn0:0≤n) (hn9:n≤4611686018427387904) (hd1:1≤d) (hd9:d≤9223372036854775807) (h1:1≤m) (h3:m≤3) :
 Calls Tryz.prog 101 #[.int .i64 n,.int .i64 d,.int .u8 m] w fun e w'=>e = .returned (.tuple #[.int .i64 (quoI n d m),.int .i64 0])∧Ext w w':=by
 have hq0:0≤n / d:=Int.ediv_nonneg hn0 (by omega);have hq1:n / d≤n:=Int.ediv_le_self _ hn0;have hr0:0≤n % d:=Int.emod_nonneg _ (by omega);have hr1:n % d<d:=Int.emod_lt_of_pos _ (by omega);(have hd0:(d == 0)=false:=by simp;omega);(have hnl:decide (n<0)=false:=by simp;omega);(have hdl:decide (d<0)=false:=by simp;omega);go_enter Tryz.func101,Tryz.ntmps101;go_wp2_with fail;refine (known_any m _ h1 h3).mono ?_;rintro e w1 ⟨rfl,rfl⟩;go_wp2_with fail
--@gen quo
 refine qAt [.int .i64 (n),.int .u64 (n),.int .i64 (d),.int .u64 (d),.int .u64 (n / d),.int .i64 (n),.int .u64 (n),.int .i64 (d),.int .u64 (d),.int .u64 (n % d),.int .u64 (n / d),.int .u64 (n % d)] [(23,.int .i64 (n)),(24,.int .u64 (n)),(25,.int .i64 (d)),(26,.int .u64 (d)),(27,.int .u64 (n / d)),(28,.int .i64 (n)),(29,.int .u64 (n)),(30,.int .i64 (d)),(31,.int .u64 (d)),(32,.int .u64 (n % d)),(9,.int .u64 (n / d)),(10,.int .u64 (n % d))] (by kernel_rfl) (by kernel_rfl) (by kernel_rfl) rfl rfl ?_ ?_
 · intro i o ho a w' K' hx hn hd hk
   match i,ho with
   | 0,ho =>
    simp only [gA,gB,gC,gD] at ho;subst ho;refine qAd rfl ?_;exact qAv _ _ rfl ((hn 0 rfl).trans (show _ = .int .i64 (n) from rfl)) (hk _ rfl w' (Ext.refl _))
   | 1,ho =>
    simp only [gA,gB,gC,gD] at ho;subst ho;refine qAd rfl ?_;exact qEk rfl (qAb (hd 0 23 (.int .i64 (n)) rfl rfl rfl)) Tryz.call164 ((qKz n w' hn0 (by omega)).mono fun _ _ h=>⟨h.1,h.2 ▸ Ext.refl _⟩) (hk _ rfl)
   | 2,ho =>
    simp only [gA,gB,gC,gD] at ho;subst ho;refine qAd rfl ?_;exact qAv _ _ rfl ((hn 1 rfl).trans (show _ = .int .i64 (d) from rfl)) (hk _ rfl w' (Ext.refl _))
   | 3,ho =>
    simp only [gA,gB,gC,gD] at ho;subst ho;refine qAd rfl ?_;exact qEk rfl (qAb (hd 2 25 (.int .i64 (d)) rfl rfl rfl)) Tryz.call164 ((qKz d w' (by omega) hd9).mono fun _ _ h=>⟨h.1,h.2 ▸ Ext.refl _⟩) (hk _ rfl)
   | 4,ho =>
    simp only [gA,gB,gC,gD] at ho;subst ho;refine qAd rfl ?_;exact qCh rfl (qAb (hd 1 24 (.int .u64 (n)) rfl rfl rfl)) (qAb (hd 3 26 (.int .u64 (d)) rfl rfl rfl)) (by exact quo_u64 hn0 hd1 (by omega) hd9) (hk _ rfl w' (Ext.refl _))
   | 5,ho =>
    simp only [gA,gB,gC,gD] at ho;subst ho;refine qAd rfl ?_;exact qAv _ _ rfl ((hn 0 rfl).trans (show _ = .int .i64 (n) from rfl)) (hk _ rfl w' (Ext.refl _))
   | 6,ho =>
    simp only [gA,gB,gC,gD] at ho;subst ho;refine qAd rfl ?_;exact qEk rfl (qAb (hd 5 28 (.int .i64 (n)) rfl rfl rfl)) Tryz.call164 ((qKz n w' hn0 (by omega)).mono fun _ _ h=>⟨h.1,h.2 ▸ Ext.refl _⟩) (hk _ rfl)
   | 7,ho =>
    simp only [gA,gB,gC,gD] at ho;subst ho;refine qAd rfl ?_;exact qAv _ _ rfl ((hn 1 rfl).trans (show _ = .int .i64 (d) from rfl)) (hk _ rfl w' (Ext.refl _))
   | 8,ho =>
    simp only [gA,gB,gC,gD] at ho;subst ho;refine qAd rfl ?_;exact qEk rfl (qAb (hd 7 30 (.int .i64 (d)) rfl rfl rfl)) Tryz.call164 ((qKz d w' (by omega) hd9).mono fun _ _ h=>⟨h.1,h.2 ▸ Ext.refl _⟩) (hk _ rfl)
   | 9,ho =>
    simp only [gA,gB,gC,gD] at ho;subst ho;refine qAd rfl ?_;exact qCh rfl (qAb (hd 6 29 (.int .u64 (n)) rfl rfl rfl)) (qAb (hd 8 31 (.int .u64 (d)) rfl rfl rfl)) (by exact rem_u64 hn0 hd1 (by omega) hd9) (hk _ rfl w' (Ext.refl _))
   | 10,ho =>
    simp only [gA,gB,gC,gD] at ho;subst ho;refine qAd rfl ?_;exact qCi _ _ rfl (qAb (hd 4 27 (.int .u64 (n / d)) rfl rfl rfl)) (hk _ rfl w' (Ext.refl _))
   | 11,ho =>
    simp only [gA,gB,gC,gD] at ho;subst ho;refine qAd rfl ?_;exact qCi _ _ rfl (qAb (hd 9 32 (.int .u64 (n % d)) rfl rfl rfl)) (hk _ rfl w' (Ext.refl _))
   | i+12,ho=>simp at ho
--@gend quo
 intro w1 hx;simp only [Act.put,List.foldl_cons,List.foldl_nil,List.setIfInBounds_toArray,List.set_cons_zero,List.set_cons_succ];(have HQ:Hid (∀ b,qKu (n % d) d m=b→quoI n d m=if b=true then n / d+1 else n / d):=fun b hb=>by unfold quoI;rw [hb]);go_wp2_with fail;refine (qKz d _ (by omega) hd9).mono ?_;rintro e w2 ⟨rfl,rfl⟩;go_wp2_with fail;refine (away_any (n % d) d m _ hr0 hr1 hd9 h1 h3).mono ?_;rintro e w2 ⟨rfl,rfl⟩
 cases hb:qKu (n % d) d m
 · have HB:=gH hb
   clear hb;go_wp2_with fail;go_ret2;exact ⟨by rw [HQ.out _ HB.out];rfl,hx⟩
 · have HB:=gH hb
   clear hb;go_wp2_with fail;go_ret2;exact ⟨by rw [HQ.out _ HB.out];rfl,hx⟩
end
section
open Go.RowKit
theorem digit_any (c:Int) (w:World):Calls Tryz.prog 106 #[.int .u8 c] w fun e w'=>e = .returned (.bool (decide (48≤c∧c≤57)))∧w=w':=by
 by_cases h1:48≤c
 · by_cases h2:c≤57
   · go_enter Tryz.func106,Tryz.ntmps106
     go_wp2;go_ret;exact ⟨qAg (by rw [decide_eq_true ⟨h1,h2⟩]),rfl⟩
   · go_enter Tryz.func106,Tryz.ntmps106
     go_wp2;go_ret;exact ⟨qAg (by rw [decide_eq_false (by omega)]),rfl⟩
 · go_enter Tryz.func106,Tryz.ntmps106
   go_wp2;go_ret;exact ⟨qAg (by simp;omega),rfl⟩
def NameRelR (s:ByteArray) (i:Value) (w wr:World):Prop:=∃ k:Nat,k≤s.size∧i = .int .i64 k∧(s.data.toList.take k).all (fun c=>nbI c.toNat)=true∧(0<k→∀ h:0<s.size,(65:Int)≤(s[0].toNat:Int)∧(s[0].toNat:Int)≤90)∧w=wr
theorem nb_step {s:ByteArray} {k:Nat} (hlt:k<s.size) (h:(s.data.toList.take k).all (fun c=>nbI c.toNat)=true) (hb:nbI (s[k].toNat:Int)=true):(s.data.toList.take (k+1)).all (fun c=>nbI c.toNat)=true:=by
 rw [qIp s k hlt,List.all_append,h];simp [hb]
theorem nb_let {c:Int} (h1:65≤c) (h2:c≤90):nbI c=true:=decide_eq_true (.inl ⟨h1,h2⟩)
theorem nb_dig {c:Int} (h1:48≤c) (h2:c≤57):nbI c=true:=decide_eq_true (.inr (.inl ⟨h1,h2⟩))
set_option maxHeartbeats 4000000 in
theorem qBt (s:ByteArray) (w:World) (hs:s.size≤9223372036854775807) :
 Calls Tryz.prog 50 #[.string s] w fun e w'=>e = .returned (.bool (qBm s))∧Ext w w':=by
 by_cases h:1≤s.size
 · by_cases h':s.size≤16
   · have h1:(1:Int)≤(s.size:Int):=by omega
     (have h2:(s.size:Int)≤16:=by omega);(have h0:0<s.size:=by omega);have HS:=gH (And.intro h h');go_enter Tryz.func50,Tryz.ntmps50;go_wp2
     go_loopw [3] (fun i wr=>NameRelR s i w wr) (fun i _=>s.size-(intOf i).toNat)
     case atStart=>exact ⟨0,Nat.zero_le _,rfl,rfl,fun h=>absurd h (by omega),rfl⟩
     case round =>
      obtain ⟨k,hk,rfl,hall,hhd,rfl⟩:=hrel;have HA:=gH hall;have HH:=gH hhd;clear hall hhd
      by_cases hlt:k<s.size
      · have hki:(k:Int)<(s.size:Int):=by omega
        by_cases hl1:(65:Int)≤(s[k].toNat:Int)
        · by_cases hl2:(s[k].toNat:Int)≤90
          · have HB:=gH (nb_step hlt HA.out (nb_let hl1 hl2))
            have HH2:Hid (∀ h:0<s.size,(65:Int)≤(s[0].toNat:Int)∧(s[0].toNat:Int)≤90):=fun h=>by
             rcases Nat.eq_zero_or_pos k with h0 | h0
             · subst h0;exact ⟨hl1,hl2⟩
             · exact HH.out h0 h
            go_wp2;exact ⟨⟨k+1,by omega,by go_num,HB.out,fun _=>HH2.out,rfl⟩,by simp [intOf];omega⟩
          · by_cases hk0:k=0
            · subst hk0
              have HF:=gH (qIu h0 (by omega));go_wp2_with fail;go_ret;exact ⟨by rw [HF.out];rfl,Ext.refl _⟩
            · have hk0':((k:Int) == 0)=false:=by simp;omega
              (have hd:¬ ((48:Int)≤(s[k].toNat:Int)∧(s[k].toNat:Int)≤57):=by omega);go_wp2_with fail;refine (digit_any _ _).mono ?_;rintro e w1 ⟨rfl,rfl⟩;rw [decide_eq_false hd]
              by_cases h95:(s[k].toNat:Int)=95
              · have HB:=gH (nb_step hlt HA.out (by unfold nbI;rw [h95];decide))
                go_wp2_with fail;exact ⟨⟨k+1,by omega,by go_num,HB.out,fun _=>HH.out (by omega),rfl⟩,by simp [intOf];omega⟩
              · by_cases h45:(s[k].toNat:Int)=45
                · exfalso;omega
                · have e95:((s[k].toNat:Int) != 95)=true:=by simpa using h95
                  (have e45:((s[k].toNat:Int) != 45)=true:=by simpa using h45);have HF:=gH (nameB_at k hlt (by unfold nbI;rw [decide_eq_false (by omega)]));go_wp2_with fail;go_ret;exact ⟨by rw [HF.out];rfl,Ext.refl _⟩
        · by_cases hk0:k=0
          · subst hk0
            have HF:=gH (qIu h0 (by omega));go_wp2_with fail;go_ret;exact ⟨by rw [HF.out];rfl,Ext.refl _⟩
          · have hk0':((k:Int) == 0)=false:=by simp;omega
            go_wp2_with fail;refine (digit_any _ _).mono ?_;rintro e w1 ⟨rfl,rfl⟩
            by_cases hd:(48:Int)≤(s[k].toNat:Int)∧(s[k].toNat:Int)≤57
            · rw [decide_eq_true hd]
              have HB:=gH (nb_step hlt HA.out (nb_dig hd.1 hd.2));go_wp2_with fail;exact ⟨⟨k+1,by omega,by go_num,HB.out,fun _=>HH.out (by omega),rfl⟩,by simp [intOf];omega⟩
            · rw [decide_eq_false hd]
              by_cases h45:(s[k].toNat:Int)=45
              · have HB:=gH (nb_step hlt HA.out (by unfold nbI;rw [h45];decide))
                (have e95:((s[k].toNat:Int) != 95)=true:=by rw [h45];rfl);(have e45:((s[k].toNat:Int) != 45)=false:=by rw [h45];rfl);clear h45;go_wp2_with fail;exact ⟨⟨k+1,by omega,by go_num,HB.out,fun _=>HH.out (by omega),rfl⟩,by simp [intOf];omega⟩
              · have e95:((s[k].toNat:Int) != 95)=true:=by simp;omega
                (have e45:((s[k].toNat:Int) != 45)=true:=by simpa using h45);have HF:=gH (nameB_at k hlt (by unfold nbI;rw [decide_eq_false (by omega)]));go_wp2_with fail;go_ret;exact ⟨by rw [HF.out];rfl,Ext.refl _⟩
      · have ek:k=s.size:=by omega
        subst ek;go_wp2;go_ret;exact ⟨by rw [nameB_yes HS.out h0 (HH.out h0 h0) HA.out];rfl,Ext.refl _⟩
   · have HF:=gH (qHx (s:=s) (by omega))
     (have h1:(16:Int)<(s.size:Int):=by omega);go_enter Tryz.func50,Tryz.ntmps50;go_wp2;go_ret;exact ⟨by rw [HF.out];rfl,Ext.refl _⟩
 · have HF:=gH (qHx (s:=s) (by omega))
   (have h1:(s.size:Int)<1:=by omega);go_enter Tryz.func50,Tryz.ntmps50;go_wp2;go_ret;exact ⟨by rw [HF.out];rfl,Ext.refl _⟩
end
section
open Go.RowKit
structure Cut where
 num:Int
 reel:ByteArray
 src:Int
 inn:Int
 out:Int
 n:Int
 d:Int
 deriving DecidableEq
def Cut.vals (c:Cut):List Value:=[.int .i64 c.num,.string c.reel,.int .i64 c.src,.int .i64 c.inn,.int .i64 c.out,.int .i64 c.n,.int .i64 c.d]
def Cut.cells (c:Cut):Array Value:=#[.int .i64 c.num,.string c.reel,.int .i64 c.src,.int .i64 c.inn,.int .i64 c.out,.int .i64 c.n,.int .i64 c.d]
def I64 (x:Int):Prop:=-9223372036854775808≤x∧x≤9223372036854775807
def Cut.Fits (c:Cut):Prop:=I64 c.num∧I64 c.src∧I64 c.inn∧I64 c.out∧I64 c.n∧I64 c.d∧c.reel.size≤140737488351232
def qGb (c:Cut):Bool:=qEn c.n c.d && decide (0≤c.n∧c.n≤8∧c.d≤8)
def qFr (c:Cut) (t:Int):Int:=c.src+(t-c.inn)*c.n / c.d
def Cut.Sane (c:Cut):Prop:=0≤c.inn∧c.inn<c.out∧c.out≤5184000∧0≤c.n∧c.n≤8∧1≤c.d∧c.d≤8∧0≤c.src∧c.src≤5184000
def qCc (c:Cut) (day:Int):Int :=
 if qBm c.reel=false then 5 else if c.out≤c.inn then 1 else if c.inn<0∨day≤c.out then 2 else if qGb c=false then 3 else if c.src<0∨day≤c.src∨day≤qFr c (c.out-1) then 2 else 0
theorem qJw {c:Cut} (h:qGb c=true):0≤c.n∧c.n≤8∧1≤c.d∧c.d≤8:=by
 unfold qGb qEn at h;simp only [Bool.and_eq_true,decide_eq_true_eq] at h;have:=qHq h.1.1;omega
theorem qMc (n d:Int):quoI n d 1=n / d:=by
 (have h:qKu (n % d) d 1=false:=by unfold qKu;split<;>rfl);unfold quoI;rw [h];rfl
theorem qLv {a n:Int} (h0:0≤a) (h1:a≤5184000) (h2:0≤n) (h3:n≤8):0≤a*n∧a*n≤41472000:=by
 refine ⟨Int.mul_nonneg h0 h2,?_⟩;have h4:a*n≤5184000*8:=Int.mul_le_mul h1 h3 h2 (by omega);omega
theorem div_bd {x d:Int} (h0:0≤x) (h1:x≤41472000) (h2:1≤d):0≤x / d∧x / d≤41472000 :=
 ⟨Int.ediv_nonneg h0 (by omega),Int.le_trans (Int.ediv_le_self _ h0) h1⟩
set_option maxHeartbeats 1000000 in
theorem source_any (c:Cut) (t:Int) (w:World) (hc:c.Sane) (h1:c.inn≤t) (h2:t<c.out) :
 Calls Tryz.prog 45 #[.agg c.cells,.int .i64 t] w fun e w'=>e = .returned (.int .i64 (qFr c t))∧Ext w w':=by
 obtain ⟨num,rl,src,inn,out,n,d⟩:=c;obtain ⟨a1,a2,a3,a4,a5,a6,a7,a8,a9⟩:=hc;dsimp only at *;have hm:=qLv (a:=t-inn) (n:=n) (by omega) (by omega) a4 a5;have hq:=div_bd hm.1 hm.2 a6;have HF:Hid (qFr ⟨num,rl,src,inn,out,n,d⟩ t=src+(t-inn) * n / d):=rfl;have HX:=gH ((Ext.refl w).alloc (.cells #[.int .i64 num,.string rl,.int .i64 src,.int .i64 inn,.int .i64 out,.int .i64 n,.int .i64 d] 91));unfold Cut.cells;dsimp only;go_enter Tryz.func45,Tryz.ntmps45;go_wp2_with fail;refine (qGq ((t-inn) * n) d 1 _ hm.1 (by omega) a6 (by omega) (by omega) (by omega)).mono ?_;rintro e w1 ⟨rfl,hx⟩;rw [qMc];have hB:=Blk.ext (Blk.new w 91 #[.int .i64 num,.string rl,.int .i64 src,.int .i64 inn,.int .i64 out,.int .i64 n,.int .i64 d]) hx;(have hcell:=fun o=>hB.cell o);have HB:=gH hB;clear hB;go_wp2_with fail;go_ret;exact ⟨qAa HF.out.symm,HX.out.trans hx⟩
set_option maxHeartbeats 1000000 in
theorem last_any (c:Cut) (w:World) (hc:c.Sane) :
 Calls Tryz.prog 151 #[.agg c.cells] w fun e w'=>e = .returned (.int .i64 (qFr c (c.out-1)))∧Ext w w':=by
 obtain ⟨num,rl,src,inn,out,n,d⟩:=c;obtain ⟨a1,a2,a3,a4,a5,a6,a7,a8,a9⟩:=hc;dsimp only at *;have hm:=qLv (a:=out-1-inn) (n:=n) (by omega) (by omega) a4 a5;have hq:=div_bd hm.1 hm.2 a6;have HF:Hid (qFr ⟨num,rl,src,inn,out,n,d⟩ (out-1)=src+(out-1-inn) * n / d):=rfl;have HX:=gH ((Ext.refl w).alloc (.cells #[.int .i64 num,.string rl,.int .i64 src,.int .i64 inn,.int .i64 out,.int .i64 n,.int .i64 d] 91));unfold Cut.cells;dsimp only;go_enter Tryz.func151,Tryz.ntmps151;go_wp2_with fail;refine (qGq ((out-1-inn) * n) d 1 _ hm.1 (by omega) a6 (by omega) (by omega) (by omega)).mono ?_;rintro e w1 ⟨rfl,hx⟩;rw [qMc];have hB:=Blk.ext (Blk.new w 91 #[.int .i64 num,.string rl,.int .i64 src,.int .i64 inn,.int .i64 out,.int .i64 n,.int .i64 d]) hx;(have hcell:=fun o=>hB.cell o);have HB:=gH hB;clear hB;go_wp2_with fail;go_ret;exact ⟨qAa HF.out.symm,HX.out.trans hx⟩
set_option maxHeartbeats 1000000 in
theorem Played_any (c:Cut) (t:Int) (w:World) (hc:c.Sane) (h1:c.inn≤t) (h2:t<c.out) :
 Calls Tryz.prog 46 #[.agg c.cells,.int .i64 t] w fun e w'=>e = .returned (.int .i64 (qFr c t))∧Ext w w':=by
 obtain ⟨num,rl,src,inn,out,n,d⟩:=c;obtain ⟨a1,a2,a3,a4,a5,a6,a7,a8,a9⟩:=hc;dsimp only at *;have hm:=qLv (a:=t-inn) (n:=n) (by omega) (by omega) a4 a5;have hq:=div_bd hm.1 hm.2 a6;(have hd0:(d == 0)=false:=by simp;omega);(have hdz:¬ d=0:=by omega);have HF:Hid (qFr ⟨num,rl,src,inn,out,n,d⟩ t=src+(t-inn) * n / d):=rfl;have HX:=gH ((Ext.refl w).alloc (.cells #[.int .i64 num,.string rl,.int .i64 src,.int .i64 inn,.int .i64 out,.int .i64 n,.int .i64 d] 91));unfold Cut.cells;dsimp only;go_enter Tryz.func46,Tryz.ntmps46;go_wp2_with fail;go_quiet (fail);go_wp2_with fail;go_ret;exact ⟨qAa HF.out.symm,HX.out.drewN _⟩
end
section
open Go.RowKit
theorem qOk {c:Cut} {day:Int} (h:qBm c.reel=false):qCc c day=5:=by unfold qCc;rw [if_pos h]
theorem qPj {c:Cut} {day:Int} (h:qBm c.reel=true) (h1:c.out≤c.inn):qCc c day=1:=by unfold qCc;rw [if_neg (by simp [h]),if_pos h1]
theorem cutErr_day {c:Cut} {day:Int} (h:qBm c.reel=true) (h1:¬ c.out≤c.inn) (h2:c.inn<0∨day≤c.out):qCc c day=2:=by unfold qCc;rw [if_neg (by simp [h]),if_neg h1,if_pos h2]
theorem qNm {c:Cut} {day:Int} (h:qBm c.reel=true) (h1:¬ c.out≤c.inn) (h2:¬ (c.inn<0∨day≤c.out)) (h3:qGb c=false):qCc c day=3:=by unfold qCc;rw [if_neg (by simp [h]),if_neg h1,if_neg h2,if_pos h3]
theorem cutErr_src {c:Cut} {day:Int} (h:qBm c.reel=true) (h1:¬ c.out≤c.inn) (h2:¬ (c.inn<0∨day≤c.out)) (h3:qGb c=true) (h4:c.src<0∨day≤c.src∨day≤qFr c (c.out-1)):qCc c day=2:=by unfold qCc;rw [if_neg (by simp [h]),if_neg h1,if_neg h2,if_neg (by simp [h3]),if_pos h4]
theorem qOi {c:Cut} {day:Int} (h:qBm c.reel=true) (h1:¬ c.out≤c.inn) (h2:¬ (c.inn<0∨day≤c.out)) (h3:qGb c=true) (h4:¬ (c.src<0∨day≤c.src∨day≤qFr c (c.out-1))):qCc c day=0:=by unfold qCc;rw [if_neg (by simp [h]),if_neg h1,if_neg h2,if_neg (by simp [h3]),if_neg h4]
theorem speedB_bad {c:Cut} (h:qEn c.n c.d=true) (h2:c.n<0∨8<c.n∨8<c.d):qGb c=false:=by unfold qGb;rw [h,decide_eq_false (by omega)];rfl
theorem qNg {c:Cut} (h:qEn c.n c.d=false):qGb c=false:=by unfold qGb;rw [h];rfl
theorem speedB_ok {c:Cut} (h:qEn c.n c.d=true) (h1:0≤c.n) (h2:c.n≤8) (h3:c.d≤8):qGb c=true:=by unfold qGb;rw [h,decide_eq_true ⟨h1,h2,h3⟩];rfl
theorem qCk:(Tryz.prog.info? 91).map (·.size)=some 7:=by kernel_rfl
set_option maxHeartbeats 4000000 in
theorem qNa (c:Cut) (day:Int) (w:World) (hf:c.Fits) (hd9:day≤5184000) :
 Calls Tryz.prog 93 #[.agg c.cells,.int .i64 day] w fun e w'=>e = .returned (.int .i64 (qCc c day))∧Ext w w':=by
 obtain ⟨num,rl,src,inn,out,n,d⟩:=c;obtain ⟨f1,f2,f3,f4,f5,f6,f7⟩:=hf;unfold I64 at *;dsimp only at *;have HX:=gH ((Ext.refl w).alloc (.cells #[.int .i64 num,.string rl,.int .i64 src,.int .i64 inn,.int .i64 out,.int .i64 n,.int .i64 d] 91));have HB:=gH (Blk.new w 91 #[.int .i64 num,.string rl,.int .i64 src,.int .i64 inn,.int .i64 out,.int .i64 n,.int .i64 d]);have HNm:=gH (@qOk ⟨num,rl,src,inn,out,n,d⟩ day);have HSp:=gH (@qPj ⟨num,rl,src,inn,out,n,d⟩ day);have HDy:=gH (@cutErr_day ⟨num,rl,src,inn,out,n,d⟩ day);have HSd:=gH (@qNm ⟨num,rl,src,inn,out,n,d⟩ day);have HSr:=gH (@cutErr_src ⟨num,rl,src,inn,out,n,d⟩ day);have HOk:=gH (@qOi ⟨num,rl,src,inn,out,n,d⟩ day);have HBd:=gH (@speedB_bad ⟨num,rl,src,inn,out,n,d⟩);have HRt:=gH (@qNg ⟨num,rl,src,inn,out,n,d⟩);have HSo:=gH (@speedB_ok ⟨num,rl,src,inn,out,n,d⟩);dsimp only at HNm HSp HDy HSd HSr HOk HBd HRt HSo;unfold Cut.cells;dsimp only;go_enter Tryz.func93,Tryz.ntmps93;go_wp2_with fail;refine (qDr rl _ (by omega)).mono ?_;rintro e w1 ⟨rfl,rfl⟩;have HB1:=HB
 cases hnm:qBm rl
 · have HN:=gH hnm
   clear hnm;go_wp2_with fail;go_ret;exact ⟨qAa (by rw [HNm.out HN.out]),HX.out⟩
 have HN:=gH hnm;clear hnm
 by_cases h1:out≤inn
 · skip
   go_wp2_with fail;go_ret;exact ⟨qAa (by rw [HSp.out HN.out h1]),HX.out⟩
 by_cases h2:inn<0
 · skip
   go_wp2_with fail;go_ret;exact ⟨qAa (by rw [HDy.out HN.out h1 (.inl h2)]),HX.out⟩
 by_cases h3:day≤out
 · skip
   go_wp2_with fail;go_ret;exact ⟨qAa (by rw [HDy.out HN.out h1 (.inr h3)]),HX.out⟩
 (have HD2:Hid (¬ (inn<0∨day≤out)):=by show ¬ _;omega);have h1n:¬ out≤inn:=h1;have HO1:=gH h1n;go_wp2_with fail;refine (qNf n d _).mono ?_;rintro e w2 ⟨rfl,hx2⟩;have HX2:=gH (HX.out.trans hx2);have HB2:=gH (HB1.out.ext hx2);(have hcell:=fun o=>HB2.out.cell o)
 cases hrt:qEn n d
 · have HR:=gH hrt
   clear hrt;go_wp2_with fail;go_ret;exact ⟨qAa (by rw [HSd.out HN.out HO1.out HD2.out (HRt.out HR.out)]),HX2.out⟩
 have HR:=gH hrt;clear hrt
 by_cases h4:n<0
 · skip
   go_wp2_with fail;go_ret;exact ⟨qAa (by rw [HSd.out HN.out HO1.out HD2.out (HBd.out HR.out (.inl h4))]),HX2.out⟩
 by_cases h5:8<n
 · skip
   go_wp2_with fail;go_ret;exact ⟨qAa (by rw [HSd.out HN.out HO1.out HD2.out (HBd.out HR.out (.inr (.inl h5)))]),HX2.out⟩
 by_cases h6:8<d
 · skip
   go_wp2_with fail;go_ret;exact ⟨qAa (by rw [HSd.out HN.out HO1.out HD2.out (HBd.out HR.out (.inr (.inr h6)))]),HX2.out⟩
 have HSO:=gH (HSo.out HR.out (by omega) (by omega) (by omega));have HTr:=qJw HSO.out;dsimp only at HTr;obtain ⟨t1,t2,t3,t4⟩:=HTr
 by_cases h7:src<0
 · skip
   go_wp2_with fail;go_ret;exact ⟨qAa (by rw [HSr.out HN.out HO1.out HD2.out HSO.out (.inl h7)]),HX2.out⟩
 by_cases h8:day≤src
 · skip
   go_wp2_with fail;go_ret;exact ⟨qAa (by rw [HSr.out HN.out HO1.out HD2.out HSO.out (.inr (.inl h8))]),HX2.out⟩
 go_wp2_with (refine qAc rfl 91 (.tmp 2) rfl w.heap.size 91 _ _ (by exact rfl) (by exact HB2.out) Tryz.underlying91 rfl (by exact qCk) ?_);refine (last_any ⟨num,rl,src,inn,out,n,d⟩ _ (by refine ⟨?_,?_,?_,?_,?_,?_,?_,?_,?_⟩<;>dsimp only<;>omega)).mono ?_;rintro e w3 ⟨rfl,hx3⟩
 by_cases h9:day≤qFr ⟨num,rl,src,inn,out,n,d⟩ (out-1)
 · skip
   go_wp2_with fail;go_ret;exact ⟨qAa (by rw [HSr.out HN.out HO1.out HD2.out HSO.out (.inr (.inr h9))]),HX2.out.trans hx3⟩
 (have HE:Hid (¬ (src<0∨day≤src∨day≤qFr ⟨num,rl,src,inn,out,n,d⟩ (out-1))):=by show ¬ _;omega);go_wp2_with fail;go_ret;exact ⟨qAa (by rw [HOk.out HN.out HO1.out HD2.out HSO.out HE.out]),HX2.out.trans hx3⟩
def qAw (c:Cut) (last day:Int):Int:=if c.num<1∨999<c.num then 2 else if c.num≤last then 8 else qCc c day
set_option maxHeartbeats 4000000 in
theorem single_any (c:Cut) (last day:Int) (w:World) (hf:c.Fits) (hd9:day≤5184000) :
 Calls Tryz.prog 97 #[.agg c.cells,.int .i64 last,.int .i64 day] w fun e w'=>e = .returned (.int .i64 (qAw c last day))∧Ext w w':=by
 obtain ⟨num,rl,src,inn,out,n,d⟩:=c;obtain ⟨f1,f2,f3,f4,f5,f6,f7⟩:=hf;unfold I64 at *;dsimp only at *;have HX:=gH ((Ext.refl w).alloc (.cells #[.int .i64 num,.string rl,.int .i64 src,.int .i64 inn,.int .i64 out,.int .i64 n,.int .i64 d] 91));have HB:=gH (Blk.new w 91 #[.int .i64 num,.string rl,.int .i64 src,.int .i64 inn,.int .i64 out,.int .i64 n,.int .i64 d]);have HNm:=gH (@qOk ⟨num,rl,src,inn,out,n,d⟩ day);have HSp:=gH (@qPj ⟨num,rl,src,inn,out,n,d⟩ day);have HDy:=gH (@cutErr_day ⟨num,rl,src,inn,out,n,d⟩ day);have HSd:=gH (@qNm ⟨num,rl,src,inn,out,n,d⟩ day);have HSr:=gH (@cutErr_src ⟨num,rl,src,inn,out,n,d⟩ day);have HOk:=gH (@qOi ⟨num,rl,src,inn,out,n,d⟩ day);have HBd:=gH (@speedB_bad ⟨num,rl,src,inn,out,n,d⟩);have HRt:=gH (@qNg ⟨num,rl,src,inn,out,n,d⟩);have HSo:=gH (@speedB_ok ⟨num,rl,src,inn,out,n,d⟩);dsimp only at HNm HSp HDy HSd HSr HOk HBd HRt HSo;(have HS1:Hid (num<1∨999<num→qAw ⟨num,rl,src,inn,out,n,d⟩ last day=2):=fun h=>by unfold qAw;rw [if_pos h]);(have HS2:Hid (¬ (num<1∨999<num)→num≤last→qAw ⟨num,rl,src,inn,out,n,d⟩ last day=8):=fun h h2=>by unfold qAw;rw [if_neg h,if_pos h2])
 (have HS3:Hid (¬ (num<1∨999<num)→¬ num≤last→qAw ⟨num,rl,src,inn,out,n,d⟩ last day=qCc ⟨num,rl,src,inn,out,n,d⟩ day):=fun h h2=>by unfold qAw;rw [if_neg h,if_neg h2]);unfold Cut.cells;dsimp only;go_enter Tryz.func97,Tryz.ntmps97
 by_cases hn1:num<1
 · go_wp2_with fail
   go_ret;exact ⟨qAa (by rw [HS1.out (by omega)]),HX.out⟩
 by_cases hn2:999<num
 · go_wp2_with fail
   go_ret;exact ⟨qAa (by rw [HS1.out (by omega)]),HX.out⟩
 by_cases hn3:num≤last
 · go_wp2_with fail
   go_ret;exact ⟨qAa (by rw [HS2.out (by omega) hn3]),HX.out⟩
 go_wp2_with fail;refine (qBt rl _ (by omega)).mono ?_;rintro e w1 ⟨rfl,hx1⟩;have HB1:=gH (HB.out.ext hx1);have HX1:=gH (HX.out.trans hx1);(have hcell:=fun o=>HB1.out.cell o)
 cases hnm:qBm rl
 · have HN:=gH hnm
   clear hnm;go_wp2_with fail;go_ret;exact ⟨qAa (by rw [HS3.out (by omega) (by omega),HNm.out HN.out]),HX1.out⟩
 have HN:=gH hnm;clear hnm
 by_cases h1:out≤inn
 · skip
   go_wp2_with fail;go_ret;exact ⟨qAa (by rw [HS3.out (by omega) (by omega),HSp.out HN.out h1]),HX1.out⟩
 by_cases h2:inn<0
 · skip
   go_wp2_with fail;go_ret;exact ⟨qAa (by rw [HS3.out (by omega) (by omega),HDy.out HN.out h1 (.inl h2)]),HX1.out⟩
 by_cases h3:day≤out
 · skip
   go_wp2_with fail;go_ret;exact ⟨qAa (by rw [HS3.out (by omega) (by omega),HDy.out HN.out h1 (.inr h3)]),HX1.out⟩
 (have HD2:Hid (¬ (inn<0∨day≤out)):=by show ¬ _;omega);have h1n:¬ out≤inn:=h1;have HO1:=gH h1n;go_wp2_with fail;refine (qKr n d _).mono ?_;rintro e w2 ⟨rfl,hx2⟩;have HX2:=gH (HX1.out.trans hx2);have HB2:=gH (HB1.out.ext hx2);clear hcell;(have hcell:=fun o=>HB2.out.cell o)
 cases hrt:qEn n d
 · have HR:=gH hrt
   clear hrt;go_wp2_with fail;go_ret;exact ⟨qAa (by rw [HS3.out (by omega) (by omega),HSd.out HN.out HO1.out HD2.out (HRt.out HR.out)]),HX2.out⟩
 have HR:=gH hrt;clear hrt
 by_cases h4:n<0
 · skip
   go_wp2_with fail;go_ret;exact ⟨qAa (by rw [HS3.out (by omega) (by omega),HSd.out HN.out HO1.out HD2.out (HBd.out HR.out (.inl h4))]),HX2.out⟩
 by_cases h5:8<n
 · skip
   go_wp2_with fail;go_ret;exact ⟨qAa (by rw [HS3.out (by omega) (by omega),HSd.out HN.out HO1.out HD2.out (HBd.out HR.out (.inr (.inl h5)))]),HX2.out⟩
 by_cases h6:8<d
 · skip
   go_wp2_with fail;go_ret;exact ⟨qAa (by rw [HS3.out (by omega) (by omega),HSd.out HN.out HO1.out HD2.out (HBd.out HR.out (.inr (.inr h6)))]),HX2.out⟩
 have HSO:=gH (HSo.out HR.out (by omega) (by omega) (by omega));have HTr:=qJw HSO.out;dsimp only at HTr;obtain ⟨t1,t2,t3,t4⟩:=HTr
 by_cases h7:src<0
 · skip
   go_wp2_with fail;go_ret;exact ⟨qAa (by rw [HS3.out (by omega) (by omega),HSr.out HN.out HO1.out HD2.out HSO.out (.inl h7)]),HX2.out⟩
 by_cases h8:day≤src
 · skip
   go_wp2_with fail;go_ret;exact ⟨qAa (by rw [HS3.out (by omega) (by omega),HSr.out HN.out HO1.out HD2.out HSO.out (.inr (.inl h8))]),HX2.out⟩
 go_wp2_with (refine qAc rfl 91 (.tmp 3) rfl w.heap.size 91 _ _ (by exact rfl) (by exact HB2.out) Tryz.underlying91 rfl (by exact qCk) ?_);refine (Played_any ⟨num,rl,src,inn,out,n,d⟩ (out-1) _ (by refine ⟨?_,?_,?_,?_,?_,?_,?_,?_,?_⟩<;>dsimp only<;>omega) (by show inn≤out-1;omega) (by show out-1<out;omega)).mono ?_;rintro e w3 ⟨rfl,hx3⟩
 by_cases h9:day≤qFr ⟨num,rl,src,inn,out,n,d⟩ (out-1)
 · skip
   go_wp2_with fail;go_ret;exact ⟨qAa (by rw [HS3.out (by omega) (by omega),HSr.out HN.out HO1.out HD2.out HSO.out (.inr (.inr h9))]),HX2.out.trans hx3⟩
 (have HE:Hid (¬ (src<0∨day≤src∨day≤qFr ⟨num,rl,src,inn,out,n,d⟩ (out-1))):=by show ¬ _;omega);go_wp2_with fail;go_ret;exact ⟨qAa (by rw [HS3.out (by omega) (by omega),HOk.out HN.out HO1.out HD2.out HSO.out HE.out]),HX2.out.trans hx3⟩
end
section
abbrev Bs:=List UInt8
def srt (ss:List Bs):List Bs:=ss.mergeSort fun x y=>decide (x≤y)
def cnt (ss:List Bs):Nat:=(Lib.compact (srt ss)).length
theorem Bs.lt_trans {a b c:Bs} (h1:a<b) (h2:b<c):a<c:=List.lt_trans h1 h2
theorem Bs.lt_irrefl (a:Bs):¬ a<a:=List.lt_irrefl a
theorem Bs.lt_of_le_of_ne {a b:Bs} (h:a≤b) (hne:a≠b):a<b:=by
 rcases Classical.em (a<b) with h1 | h1
 · exact h1
 · exact absurd (List.le_antisymm h (List.not_lt.1 h1)) hne
theorem Bs.lt_of_le_of_lt {a b c:Bs} (h:a≤b) (h2:b<c):a<c:=by
 rcases Classical.em (a=b) with h1 | h1
 · rw [h1];exact h2
 · exact Bs.lt_trans (Bs.lt_of_le_of_ne h h1) h2
theorem Bs.le_refl (a:Bs):a≤a:=List.le_refl a
theorem Bs.le_trans {a b c:Bs} (h:a≤b) (h2:b≤c):a≤c:=List.le_trans h h2
theorem srt_sorted (ss:List Bs):(srt ss).Pairwise (·≤·):=by
 have:=List.pairwise_mergeSort (le:=fun x y:Bs=>decide (x≤y)) (fun a b c h1 h2=>by simp only [decide_eq_true_eq] at *;exact Bs.le_trans h1 h2) (fun a b=>by simp only [Bool.or_eq_true,decide_eq_true_eq];exact List.le_total a b) ss;exact this.imp (fun h=>by simpa using h)
theorem mem_srt (ss:List Bs) (x:Bs):x∈srt ss↔x∈ss:=List.mem_mergeSort
theorem len_srt (ss:List Bs):(srt ss).length=ss.length:=List.length_mergeSort ss
theorem qNk (zs:List Bs) (hs:zs.Pairwise (·≤·)):∀ m,m≤zs.length→(Lib.compactUpTo zs.toArray m).Pairwise (· < ·)∧∀ x,x∈Lib.compactUpTo zs.toArray m↔∃ j,j<m∧zs[j]?=some x
 | 0,_=>⟨by simp [Lib.compactUpTo],fun x=>by simp [Lib.compactUpTo]⟩
 | m+1,hm=>by
  obtain ⟨h1,h2⟩:=qNk zs hs m (by omega);(have hlt:m<zs.length:=by omega);(have hget:zs.toArray[m]! = zs[m]:=by simp [hlt]);rw [Lib.compactUpTo_succ]
  by_cases hk:Lib.keeps zs.toArray m=true
  · rw [if_pos hk,hget]
    refine ⟨?_,fun x=>?_⟩
    · rw [List.pairwise_append]
      refine ⟨h1,by simp,fun a ha b hb=>?_⟩;simp only [List.mem_singleton] at hb;subst hb;obtain ⟨j,hj,hja⟩:=(h2 a).1 ha;(have hm0:m≠0:=by omega)
      have hne:zs[m]≠zs[m-1]:=by
       have:=hk;simp [Lib.keeps,hm0,hlt,show m-1<zs.length by omega] at this;exact this
      (have hjl:j<zs.length:=by omega);(have hja':zs[j]=a:=by rw [List.getElem?_eq_getElem hjl] at hja;exact Option.some.inj hja);have hpw:=List.pairwise_iff_getElem.1 hs
      have h3:a≤zs[m-1]:=by
       rw [← hja']
       rcases Nat.lt_or_ge j (m-1) with h | h
       · exact hpw j (m-1) hjl (by omega) h
       · have:j=m-1:=by omega
         subst this;exact Bs.le_refl _
      exact Bs.lt_of_le_of_lt h3 (Bs.lt_of_le_of_ne (hpw (m-1) m (by omega) hlt (by omega)) (fun e=>hne e.symm))
    · rw [List.mem_append,h2,List.mem_singleton]
      constructor
      · rintro (⟨j,hj,hx⟩ | rfl)
        · exact ⟨j,by omega,hx⟩
        · exact ⟨m,by omega,List.getElem?_eq_getElem hlt⟩
      · rintro ⟨j,hj,hx⟩
        by_cases hjm:j=m
        · subst hjm
          right
          rw [List.getElem?_eq_getElem hlt] at hx;exact (Option.some.inj hx).symm
        · exact .inl ⟨j,by omega,hx⟩
  · rw [if_neg hk,List.append_nil]
    refine ⟨h1,fun x=>?_⟩;rw [h2]
    constructor
    · rintro ⟨j,hj,hx⟩
      exact ⟨j,by omega,hx⟩
    · rintro ⟨j,hj,hx⟩
      by_cases hjm:j=m
      · subst hjm
        have hm0:j≠0:=by
         rintro rfl;exact hk (by simp [Lib.keeps])
        have he:zs[j]=zs[j-1]:=by
         have:=hk;simp [Lib.keeps,hm0,hlt,show j-1<zs.length by omega] at this;exact this
        refine ⟨j-1,by omega,?_⟩;rw [List.getElem?_eq_getElem (by omega),← he];rw [List.getElem?_eq_getElem hlt] at hx;exact hx
      · exact ⟨j,by omega,hx⟩
theorem compact_mem (zs:List Bs) (hs:zs.Pairwise (·≤·)):(Lib.compact zs).Pairwise (· < ·)∧∀ x,x∈Lib.compact zs↔x∈zs:=by
 obtain ⟨h1,h2⟩:=qNk zs hs zs.length (Nat.le_refl _);refine ⟨h1,fun x=>?_⟩;unfold Lib.compact;rw [h2,List.mem_iff_getElem?]
 constructor
 · rintro ⟨j,_,h⟩;exact ⟨j,h⟩
 · rintro ⟨j,h⟩;exact ⟨j,(List.getElem?_eq_some_iff.1 h).1,h⟩
theorem nodup_of_lt {l:List Bs} (h:l.Pairwise (· < ·)):l.Nodup:=by
 unfold List.Nodup;exact h.imp (fun {a b} hab e=>by subst e;exact Bs.lt_irrefl _ hab)
theorem nodup_len {a b:List Bs} (ha:a.Nodup) (hb:b.Nodup) (h:∀ x,x∈a↔x∈b):a.length=b.length:=by
 apply List.Perm.length_eq;rw [List.perm_iff_count];intro x;rw [ha.count,hb.count];simp only [h x]
theorem cnt_eq {ss l:List Bs} (hl:l.Pairwise (· < ·)) (h:∀ x,x∈l↔x∈ss):l.length=cnt ss:=by
 obtain ⟨h1,h2⟩:=compact_mem (srt ss) (srt_sorted ss);exact nodup_len (nodup_of_lt hl) (nodup_of_lt h1) (fun x=>by rw [h,h2,mem_srt])
theorem cnt_perm {a b:List Bs} (h:∀ x,x∈a↔x∈b):cnt a=cnt b:=by
 obtain ⟨h1,h2⟩:=compact_mem (srt a) (srt_sorted a);exact cnt_eq h1 (fun x=>by rw [h2,mem_srt,h])
theorem cnt_nil:cnt []=0:=by unfold cnt srt;simp [Lib.compact,Lib.compactUpTo]
theorem ins_at {os:List Bs} {x:Bs} {k:Nat} (hs:os.Pairwise (· < ·)) (hk:k≤os.length) (hlo:∀ j y,j<k→os[j]?=some y→y<x) (hhi:∀ y,os[k]?=some y→¬ y<x∧y≠x) :
 (os.take k++[x]++os.drop k).Pairwise (· < ·)∧∀ y,y∈os.take k++[x]++os.drop k↔y∈os∨y=x:=by
 have hpw:=List.pairwise_iff_getElem.1 hs;refine ⟨?_,fun y=>?_⟩
 · rw [List.append_assoc,List.pairwise_append]
   refine ⟨hs.sublist (List.take_sublist _ _),?_,fun a ha b hb=>?_⟩
   · show (x :: os.drop k).Pairwise (· < ·)
     rw [List.pairwise_cons];refine ⟨fun b hb=>?_,hs.sublist (List.drop_sublist _ _)⟩;obtain ⟨i,hi,rfl⟩:=List.getElem_of_mem hb;rw [List.length_drop] at hi;rw [List.getElem_drop];(have hkl:k<os.length:=by omega);obtain ⟨h1,h2⟩:=hhi os[k] (List.getElem?_eq_getElem hkl);have hx:x<os[k]:=Bs.lt_of_le_of_ne (List.not_lt.1 h1) (fun e=>h2 e.symm)
     rcases Nat.eq_zero_or_pos i with h0 | h0
     · subst h0;simpa using hx
     · exact Bs.lt_trans hx (hpw k (k+i) hkl (by omega) (by omega))
   · obtain ⟨i,hi,rfl⟩:=List.getElem_of_mem ha
     have hb:b∈x :: os.drop k:=hb;rw [List.length_take] at hi;rw [List.getElem_take]
     rcases List.mem_cons.1 hb with rfl | hb
     · exact hlo i _ (by omega) (List.getElem?_eq_getElem (by omega))
     · obtain ⟨j,hj,rfl⟩:=List.getElem_of_mem hb
       rw [List.length_drop] at hj;rw [List.getElem_drop];exact hpw i (k+j) (by omega) (by omega) (by omega)
 · rw [List.append_assoc,List.mem_append,List.mem_append,List.mem_singleton]
   (have e:y∈os↔y∈os.take k∨y∈os.drop k:=by rw [← List.mem_append,List.take_append_drop]);rw [e]
   constructor
   · rintro (h | h | h)
     · exact .inl (.inl h)
     · exact .inr h
     · exact .inl (.inr h)
   · rintro ((h | h) | h)
     · exact .inl h
     · exact .inr (.inr h)
     · exact .inr (.inl h)
end
section
open Go.RowKit Go.Shelf Go.Sort
theorem sort_c (blk off cap:Nat) (zs:List (List UInt8)) (w:World) (hH:Holds encStr w blk off zs.toArray) (hblk:blk<w.heap.size) (hsz:zs.length<4611686018427387904) :
 Calls Tryz.prog 152 #[.slice (some ⟨blk,off,none⟩) zs.length cap] w fun e w' =>
  e = .returned (.tuple #[])∧∃ n os,w'=grow (putRow encStr (Sort.ahead w n) blk off (zs.mergeSort fun x y=>decide (x≤y)).toArray) os :=
 calls_of_every_depth fun D=>AnyS.slices_Sort_string_alone Tryz.laysSort D blk off cap zs w hH hblk hsz
theorem sort_none (p:Option Addr) (cap:Nat) (w:World):Calls Tryz.prog 152 #[.slice p 0 cap] w fun e w'=>e = .returned (.tuple #[])∧w'=w :=
 calls_of_every_depth fun D=>AnyS.slices_Sort_string_none_alone Tryz.laysSort D p cap w
theorem compact_c (blk off cap:Nat) (zs:List (List UInt8)) (w:World) (hH:Holds encStr w blk off zs.toArray) (hsz:zs.length≤9223372036854775807) (hcap:zs.length≤cap) :
 Calls Tryz.prog 153 #[.slice (some ⟨blk,off,none⟩) zs.length cap] w fun e w'=>e = .returned (.slice (some ⟨blk,off,none⟩) (Lib.compact zs).length cap)∧∃ q,w'=putRow encStr (Sort.ahead w q) blk off (Lib.compact zs++List.replicate (zs.length-(Lib.compact zs).length) []).toArray :=
 Any.slices_Compact_string Tryz.laysCompact blk off cap zs w hH hsz hcap
theorem compact_none (a:Option Addr) (cap:Nat) (w:World):Calls Tryz.prog 153 #[.slice a 0 cap] w fun e w'=>e = .returned (.slice a 0 cap)∧w'=w :=
 Any.slices_Compact_string_empty Tryz.laysCompact a cap w
def qBd (w:World) (A:Option Addr) (n:Nat) (l:List Cut):Prop:=Sl w 7 (Cells Cut.vals) A n l
theorem qBd.ext {w w1:World} {A:Option Addr} {n:Nat} {l:List Cut} (h:qBd w A n l) (k:Ext w w1):qBd w1 A n l:=Sl.ext (Cells.stays _) h k
theorem qBd.at7 {w:World} {A:Option Addr} {n:Nat} {l:List Cut} (h:qBd w A n l) {i:Nat} (hi:i<n):∃ b off c,A=some ⟨b,off,none⟩∧l[i]?=some c ∧
 (w.cell? ⟨b,off+i*7,none⟩=some (.int .i64 c.num)∧w.cell? ⟨b,off+i*7+1,none⟩=some (.string c.reel)∧w.cell? ⟨b,off+i*7+2,none⟩=some (.int .i64 c.src)∧w.cell? ⟨b,off+i*7+3,none⟩=some (.int .i64 c.inn) ∧
  w.cell? ⟨b,off+i*7+4,none⟩=some (.int .i64 c.out)∧w.cell? ⟨b,off+i*7+5,none⟩=some (.int .i64 c.n)∧w.cell? ⟨b,off+i*7+6,none⟩=some (.int .i64 c.d)):=by
 obtain ⟨b,off,c,hA,hc,hC⟩:=h.at_ hi;exact ⟨b,off,c,hA,hc,by simpa using hC 0 _ rfl,hC 1 _ rfl,hC 2 _ rfl,hC 3 _ rfl,hC 4 _ rfl,hC 5 _ rfl,hC 6 _ rfl⟩
structure Edl where
 title:ByteArray
 rate:Int
 drop:Bool
 cuts:List Cut
 deriving DecidableEq
def Edl.cells (e:Edl) (A:Option Addr) (n c:Nat):Array Value:=#[.string e.title,.int .u8 e.rate,.bool e.drop,.slice A n c]
def Edl.names (e:Edl):List Bs:=e.cuts.map fun c=>c.reel.data.toList
theorem qFc:(Tryz.prog.info? 9).map (fun i=>(i.zero,i.size,i.bytes))=some (some (.string ⟨#[]⟩),1,16):=by kernel_rfl
theorem enc_reel (s:ByteArray):encStr s.data.toList = .string s:=by simp [encStr]
def ReelsPost (e:Edl) (w:World) (en:Ending) (w':World):Prop:=∃ A m c,en = .returned (.slice A m c)∧m=cnt e.names∧Ext w w'
def ReelsRel (w w0:World) (n:Nat) (l:List Cut) (v i:Value) (wr:World):Prop :=
 ∃ k:Nat,k≤n∧i = .int .i64 k∧Ext w0 wr∧Ext w wr∧wr.ownsRow w0.heap.size 9 1 v k ((l.take k).map fun c=>Value.string c.reel)
theorem reels_end {w w1:World} {base g cap n:Nat} {ss:List Bs} (hx:Ext w w1) (hown:w1.ownsRow base 9 1 (.slice (some ⟨g,0,none⟩) n cap) n (ss.map encStr)) (hg:w.heap.size≤g) {nn q:Nat} {os:Array Obj} {d:Array (List UInt8)} :
 Ext w (putRow encStr (Sort.ahead (grow (putRow encStr (Sort.ahead w1 nn) g 0 (ss.mergeSort fun x y=>decide (x≤y)).toArray) os) q) g 0 d) :=
 Lib.below_putRow (hx.grown (grownBy_sorted _) (fun j hj=>by cases hj;exact hg)) hg
set_option maxHeartbeats 2000000 in
theorem Reels_any (e:Edl) (A:Option Addr) (n c:Nat) (w:World) (hl:qBd w A n e.cuts) (hn:n≤1000000) :
 Calls Tryz.prog 94 #[.agg (e.cells A n c)] w (ReelsPost e w):=by
 have HL:=gH hl;have HLn:=gH hl.len;clear hl;unfold Edl.cells;have HX0:=gH ((Ext.refl w).alloc (.cells #[.string e.title,.int .u8 e.rate,.bool e.drop,.slice A n c] 28));go_enter Tryz.func94,Tryz.ntmps94;go_wp2_with fail
 go_loopw [3,9] (fun v i wr=>ReelsRel w (w.alloc (.cells #[.string e.title,.int .u8 e.rate,.bool e.drop,.slice A n c] 28)) n e.cuts v i wr) (fun _ i _=>n-(intOf i).toNat)
 case atStart=>exact ⟨0,Nat.zero_le _,rfl,Ext.refl _,HX0.out,⟨rfl,.inl ⟨rfl,rfl⟩⟩⟩
 case round =>
  obtain ⟨k,hk,rfl,hx,hxw,hown⟩:=hrel
  by_cases hlt:k<n
  · obtain ⟨b,off,r,rfl,hr,c0,c1,c2,c3,c4,c5,c6⟩:=(HL.out.ext hxw).at7 hlt
    have HT:=gH (take_snoc' e.cuts k r hr);have HO:=gH (hown.alloc (.cells r.cells 91));unfold Cut.cells at HO;have HO0:=gH hown;clear hr hown;have hsz:=hx.size;simp only [World.size_alloc] at hsz;go_wp2_with (at_builtin;refine qAf rfl (.tmp 13) (.tmp 16) 130 rfl qFc Tryz.underlying130 rfl (by decide) (HO.out.alloc _) (by exact rfl) (wr.heap.size+1) _ (by exact rfl) (by exact Blk.new' (by simp)) (by exact rfl) (by simp [Value.oneCell']) (by omega) (by simp [maxLen];omega) (by simp;omega) ?_;intro v' w3 hown3 hgr);refine ⟨⟨k+1,by omega,by go_num,((hx.alloc _).alloc _).grown hgr (fun q hq=>by have:=qAp HO0.out q hq;simpa using this),((hxw.alloc _).alloc _).grown hgr (fun q hq=>by have:=qAp HO0.out q hq;have:=HX0.out.size;omega),?_⟩,by simp [intOf];omega⟩;rw [HT.out,List.map_append];exact hown3
  · have hkn:k=n:=by omega
    subst hkn;have HT:Hid (e.cuts.take k=e.cuts):=List.take_of_length_le (by rw [HLn.out];omega)
    have hown2:wr.ownsRow (w.alloc (.cells #[.string e.title,.int .u8 e.rate,.bool e.drop,.slice A k c] 28)).heap.size 9 1 u3 k (e.names.map encStr):=by
     have:=hown;rw [HT.out] at this
     have e1:e.names.map encStr=e.cuts.map fun c=>Value.string c.reel:=by
      unfold Edl.names;rw [List.map_map];(exact List.map_congr_left fun c _=>enc_reel c.reel)
     rw [e1];exact this
    have HO:=gH hown2;have HXw:=gH hxw;have hb0:=HX0.out.size;(have HLs:Hid (e.names.length=k):=by show _=_;unfold Edl.names;rw [List.length_map,HLn.out]);clear hown hown2
    rcases Classical.em (u3 = .slice none 0 0) with hv | hv
    · subst hv
      have hk0:k=0:=by
       rcases HO.out.2 with ⟨_,h0⟩ | ⟨g,cap,cur,h0,_⟩
       · exact h0
       · cases h0
      subst hk0;have HN:Hid (e.names=[]):=List.eq_nil_of_length_eq_zero HLs.out;go_wp2_with fail;refine (sort_none none 0 _).mono ?_;rintro en w2 ⟨rfl,rfl⟩;go_wp2_with fail;refine (compact_none none 0 _).mono ?_;rintro en w3 ⟨rfl,rfl⟩;go_wp2_with fail;go_ret;exact ⟨none,0,0,rfl,by rw [HN.out,cnt_nil],HXw.out⟩
    · obtain ⟨g,cap,rfl,hbg,hgl,hncap,hcm,hlen,hH⟩:=Lib.holds_of_ownsRow HO.out hv
      have hsort:=sort_c g 0 cap e.names wr hH hgl (by omega);rw [hlen] at hsort;have HH:=gH hH;clear hH hv;go_wp2_with fail;refine hsort.mono ?_;rintro en w2 ⟨rfl,nn,os,rfl⟩;(have hl2:(e.names.mergeSort fun x y=>decide (x≤y)).length=k:=by rw [List.length_mergeSort];exact hlen)
      have hH2:Holds encStr (grow (putRow encStr (Sort.ahead wr nn) g 0 (e.names.mergeSort fun x y=>decide (x≤y)).toArray) os) g 0 (e.names.mergeSort fun x y=>decide (x≤y)).toArray :=
       holds_grow encStr _ os g 0 _ (by simpa [putRow,mapBlock,Sort.ahead] using hgl) (holds_putRow encStr _ g 0 _ _ (holds_ahead encStr wr nn g 0 _ HH.out) (by simp))
      have hcomp:=compact_c g 0 cap (e.names.mergeSort fun x y=>decide (x≤y)) _ hH2 (by omega) (by omega);rw [hl2] at hcomp;clear hH2 hsort;(have HE:=fun q d=>gH (reels_end (nn:=nn) (q:=q) (os:=os) (d:=d) HXw.out HO.out (by omega)));generalize grow (putRow encStr (Sort.ahead wr nn) g 0 (e.names.mergeSort fun x y=>decide (x≤y)).toArray) os=w2 at *;go_wp2_with fail;refine hcomp.mono ?_;rintro en w3 ⟨rfl,q,rfl⟩;have HE2:=HE q ((Lib.compact (e.names.mergeSort fun x y=>decide (x≤y))++List.replicate (k-(Lib.compact (e.names.mergeSort fun x y=>decide (x≤y))).length) []).toArray);generalize putRow encStr (Sort.ahead w2 q) g 0 (Lib.compact (e.names.mergeSort fun x y=>decide (x≤y))++List.replicate (k-(Lib.compact (e.names.mergeSort fun x y=>decide (x≤y))).length) []).toArray=w3 at *;go_wp2_with fail;go_ret;exact ⟨_,_,_,rfl,rfl,HE2.out⟩
end
section
open Go.RowKit
def qBk (day:Int):Int→Int→List Cut→Int
 | _,_,[]=>0
 | la,ou,c :: r=>if qAw c la day≠0 then qAw c la day else if c.inn<ou then 14 else qBk day c.num c.out r
def qAn (e:Edl):Int :=
 if vld e.title=false then 10 else if 400<e.title.size then 9 else if qAr e.rate e.drop=false then 13 else if 64<e.cuts.length then 9 else
  if qBk (qEv e.rate e.drop) 0 0 e.cuts≠0 then qBk (qEv e.rate e.drop) 0 0 e.cuts else if 16<cnt e.names then 9 else 0
def laAt (l:List Cut):Nat→Int | 0=>0 | k+1=>((l[k]?).map (·.num)).getD 0
def ouAt (l:List Cut):Nat→Int | 0=>0 | k+1=>((l[k]?).map (·.out)).getD 0
theorem qPc {l:List Cut} {k:Nat} {r:Cut} {day E:Int} (hr:l[k]?=some r) (hP:E=qBk day (laAt l k) (ouAt l k) (l.drop k)) :
 (qAw r (laAt l k) day≠0→E=qAw r (laAt l k) day)∧(qAw r (laAt l k) day=0→r.inn<ouAt l k→E=14) ∧
  (qAw r (laAt l k) day=0→¬ r.inn<ouAt l k→E=qBk day (laAt l (k+1)) (ouAt l (k+1)) (l.drop (k+1))):=by
 obtain ⟨hk,hk2⟩:=List.getElem?_eq_some_iff.1 hr;rw [List.drop_eq_getElem_cons hk,hk2] at hP;unfold qBk at hP;refine ⟨fun h=>?_,fun h h2=>?_,fun h h2=>?_⟩
 · rw [if_pos h] at hP;exact hP
 · rw [if_neg (by omega),if_pos h2] at hP;exact hP
 · rw [if_neg (by omega),if_neg h2] at hP
   rw [hP];simp [laAt,ouAt,hr]
theorem single_num {c:Cut} {la day:Int} (h:c.num<1∨999<c.num):qAw c la day=2:=by unfold qAw;rw [if_pos h]
theorem single_ord {c:Cut} {la day:Int} (h:¬ (c.num<1∨999<c.num)) (h2:c.num≤la):qAw c la day=8:=by unfold qAw;rw [if_neg h,if_pos h2]
theorem qMo {c:Cut} {la day:Int} (h:¬ (c.num<1∨999<c.num)) (h2:¬ c.num≤la):qAw c la day=qCc c day:=by unfold qAw;rw [if_neg h,if_neg h2]
theorem cutErr_inn {c:Cut} {day:Int} (h:qCc c day=0):0≤c.inn:=by
 unfold qCc at h
 repeat' split at h
 all_goals first | omega | (exact absurd h (by decide)) | skip
theorem edl_char {e:Edl} (h:vld e.title=false):qAn e=10:=by unfold qAn;rw [if_pos h]
theorem edl_title {e:Edl} (h:vld e.title=true) (h1:400<e.title.size):qAn e=9:=by unfold qAn;rw [if_neg (by simp [h]),if_pos h1]
theorem edl_rate {e:Edl} (h:vld e.title=true) (h1:¬ 400<e.title.size) (h2:qAr e.rate e.drop=false):qAn e=13:=by unfold qAn;rw [if_neg (by simp [h]),if_neg h1,if_pos h2]
theorem edl_many {e:Edl} (h:vld e.title=true) (h1:¬ 400<e.title.size) (h2:qAr e.rate e.drop=true) (h3:64<e.cuts.length):qAn e=9:=by unfold qAn;rw [if_neg (by simp [h]),if_neg h1,if_neg (by simp [h2]),if_pos h3]
theorem edl_cuts {e:Edl} {x:Int} (h:vld e.title=true) (h1:¬ 400<e.title.size) (h2:qAr e.rate e.drop=true) (h3:¬ 64<e.cuts.length) (h4:qBk (qEv e.rate e.drop) 0 0 e.cuts=x) (h5:x≠0):qAn e=x:=by
 unfold qAn;rw [if_neg (by simp [h]),if_neg h1,if_neg (by simp [h2]),if_neg h3,h4,if_pos h5]
theorem edl_reels {e:Edl} (h:vld e.title=true) (h1:¬ 400<e.title.size) (h2:qAr e.rate e.drop=true) (h3:¬ 64<e.cuts.length) (h4:qBk (qEv e.rate e.drop) 0 0 e.cuts=0) (h5:16<cnt e.names):qAn e=9:=by
 unfold qAn;rw [if_neg (by simp [h]),if_neg h1,if_neg (by simp [h2]),if_neg h3,h4,if_neg (by omega),if_pos h5]
theorem edl_ok {e:Edl} (h:vld e.title=true) (h1:¬ 400<e.title.size) (h2:qAr e.rate e.drop=true) (h3:¬ 64<e.cuts.length) (h4:qBk (qEv e.rate e.drop) 0 0 e.cuts=0) (h5:¬ 16<cnt e.names):qAn e=0:=by
 unfold qAn;rw [if_neg (by simp [h]),if_neg h1,if_neg (by simp [h2]),if_neg h3,h4,if_neg (by omega),if_neg h5]
theorem qMi {day:Int}:∀ {l:List Cut} {la ou:Int},qBk day la ou l=0→∀ c∈l,qCc c day=0∧1≤c.num∧c.num≤999
 | [],_,_,_,c,hc=>by cases hc
 | d :: r,la,ou,h,c,hc=>by
  unfold qBk at h
  split at h
  · omega
  · rename_i h0
    split at h
    · omega
    · rcases List.mem_cons.1 hc with rfl | hc
      · unfold qAw at h0
        repeat' split at h0
        all_goals first | omega | exact ⟨by omega,by omega,by omega⟩
      · exact qMi h c hc
theorem qEm {e:Edl} (h:qAn e=0):vld e.title=true∧¬ 400<e.title.size∧qAr e.rate e.drop=true∧¬ 64<e.cuts.length∧qBk (qEv e.rate e.drop) 0 0 e.cuts=0∧¬ 16<cnt e.names:=by
 unfold qAn at h
 repeat' split at h
 all_goals first | omega | skip
 rename_i h1 h2 h3 h4 h5 h6;refine ⟨by simpa using h1,h2,by simpa using h3,h4,by omega,h6⟩
theorem cutErr_sane {c:Cut} {day:Int} (h:qCc c day=0) (hd:day≤5184000):c.Sane:=by
 unfold qCc at h
 repeat' split at h
 all_goals first | omega | skip
 rename_i h1 h2 h3 h4 h5;have:=qJw (by simpa using h4);(refine ⟨?_,?_,?_,?_,?_,?_,?_,?_,?_⟩<;>omega)
theorem qFl {e:Edl} (h:qAn e=0) {c:Cut} (hc:c∈e.cuts):c.Sane :=
 cutErr_sane (qMi (qEm h).2.2.2.2.1 c hc).1 (qKq _ _)
end
end Go.Proofs.YtablhmobekmflaaGreatDoor