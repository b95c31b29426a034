/- Texts laid together. -/
import Derived.Test.YtneffpbodfjceaaGreatDoorTa10
set_option linter.unusedVariables false
set_option linter.unusedSimpArgs false
set_option maxRecDepth 100000
set_option maxHeartbeats 16000000
namespace Go.Proofs.YtneffpbodfjceaaGreatDoor
section
open Go.Shelf Go.RowKit Go.Lib Go.Sort
section
variable {α:Type}
theorem qSu {cf:α->α->Int} {x y:α} (h:cf x y<0):ltOf cf x y=true:=decide_eq_true h
theorem qOf {cf:α->α->Int} {x y:α} (h:¬ cf x y<0):ltOf cf x y=false:=decide_eq_false h
theorem zOz {lt:α->α->Bool} (w:Stb.SW lt) {l:List α} {a b c:Nat} (hs:Stb.Srt lt l a b) {x v:α} (hc:l[c]?=some v) (h1:a<=c) (h2:c<b) (h:lt v x=true):∀ q y,a<=q->q<=c->l[q]?=some y->lt y x=true:=by
 intro q y hq hqc hy
 by_cases he:q=c
 . subst he;rw [hc] at hy;cases hy;exact h
 . have h3:=hs q c y v hq (by omega) h2 hy hc
   cases h4:lt y x
   . have:=w.trans x y v h4 h3
     rw [h] at this;exact absurd this (by simp)
   . rfl
theorem zOy {lt:α->α->Bool} (w:Stb.SW lt) {l:List α} {a b c:Nat} (hs:Stb.Srt lt l a b) {x v:α} (hc:l[c]?=some v) (h1:a<=c) (h2:c<b) (h:lt v x=false):∀ q y,c<=q->q<b->l[q]?=some y->lt y x=false:=by
 intro q y hq hqb hy
 by_cases he:q=c
 . subst he;rw [hc] at hy;cases hy;exact h
 . exact w.trans x v y h (hs c q v y h1 (by omega) hqb hc hy)
theorem srch_le' {lt:α->α->Bool} (w:Stb.SW lt) {l:List α} {a b c:Nat} (hs:Stb.Srt lt l a b) {x v:α} (hc:l[c]?=some v) (h1:a<=c) (h2:c<b) (h:lt x v=false):∀ q y,a<=q->q<=c->l[q]?=some y->lt x y=false:=by
 intro q y hq hqc hy
 by_cases he:q=c
 . subst he;rw [hc] at hy;cases hy;exact h
 . exact w.trans y v x (hs q c y v hq (by omega) h2 hy hc) h
theorem srch_ge' {lt:α->α->Bool} (w:Stb.SW lt) {l:List α} {a b c:Nat} (hs:Stb.Srt lt l a b) {x v:α} (hc:l[c]?=some v) (h1:a<=c) (h2:c<b) (h:lt x v=true):∀ q y,c<=q->q<b->l[q]?=some y->lt x y=true:=by
 intro q y hq hqb hy
 by_cases he:q=c
 . subst he;rw [hc] at hy;cases hy;exact h
 . have h3:=hs c q v y h1 (by omega) hqb hc hy
   cases h4:lt x y
   . have:=w.trans v y x h3 h4
     rw [h] at this;exact absurd this (by simp)
   . rfl
end
variable {P:Program} {k:Nat} {α:Type} [Inhabited α]
theorem zPe (L:StL P k) (enc:α->List Value) (cf:α->α->Int) (g:Nat) (cb:Array Value) (blk off cap:Nat) (d0 d:Array α) (w0 w:World) (a m b:Nat) (eg:∀ args w,(callFunc g args).run P w = .ok (.enter g args) w) (hcmp:CmpLays P g cb enc k cf blk off d0.size w0) (R:RowK enc k w0 blk off d0) (hs:d0.size=d.size) (S:SWK enc k w0 blk off d w) (hsz:d.size<1152921504606846976) (hw:Stb.SW (ltOf cf)) (ham:m=a+1) (hmb:m<=b) (hb:b<=d.size) (hs2:Stb.Srt (ltOf cf) d.toList m b) :
 Calls P 276 #[.slice (some ⟨blk,off,none⟩) d.size cap,.int .i64 a,.int .i64 m,.int .i64 b,.func (.func g) #[] cb] w fun e w'=>e = .returned (.tuple #[])/\∃ d',d'.size=d.size/\SWK enc k w0 blk off d' w'/\Stb.Loc (ltOf cf) a b d.toList d'.toList/\Stb.Srt (ltOf cf) d'.toList a b:=by
 (have mixed:=L.mixed;have t0:=L.t0;have a0:=L.a0;have z0:=L.z0;have v0:=L.v0;have t3:=L.t3;have a3:=L.a3;have z3:=L.z3;have v3:=L.v3;have t4:=L.t4;have a4:=L.a4;have z4:=L.z4;have v4:=L.v4;have tS:=L.tS;have aS:=L.aS;have zS:=L.zS;have vS:=L.vS;have tF:=L.tF;have aF:=L.aF;have zF:=L.zF;have vF:=L.vF;have tU:=L.tU;have aU:=L.aU;have zU:=L.zU;have vU:=L.vU;have aE:=L.aE;have zE:=L.zE);(have uS:=run_underlying L.tS;have u3:=run_underlying L.t3;have uU:=run_underlying L.tU);have HC:Aside _:=hcmp;have HW:=gH hw;have HS2:=gH hs2;have S0:Aside _:=S;(have hm1:(m:Int)-(a:Int)=1:=by omega);have HAm:=gH ham;(have hq1:m<=a+1:=by omega);(have hq2:a+1<=m:=by omega);clear hcmp S hw hs2 ham;go_enter L.fsymMerge,Tryz.ntmps276;go_wp2_with fail;go_loopg [10,11] (b-m) (fun kx s10 s11 wr=>∃ (i j:Nat),s10 = .int .i64 i/\s11 = .int .i64 j/\m<=i/\i<=j/\j<=b/\j-i<=kx/\Aside (SWK enc k w0 blk off d wr)/\Hid (∀ q y,m<=q->q<i->d.toList[q]?=some y->ltOf cf y d[a]! = true)/\Hid (∀ q y,j<=q->q<b->d.toList[q]?=some y->ltOf cf y d[a]! = false))
 case atStart=>exact ⟨m,b,rfl,rfl,Nat.le_refl _,hmb,Nat.le_refl _,Nat.le_refl _,S0,(show Hid _ from fun q y h1 h2=>by omega),(show Hid _ from fun q y h1 h2=>by omega)⟩
 case round =>
  clear S0;obtain ⟨i,j,rfl,rfl,hi,hij,hj,hkx,S1,HLo,HHi⟩:=hrel
  by_cases hlt:i<j
  . have hltz:(i:Int)<(j:Int):=by omega
    obtain ⟨c,hc⟩:∃ c,c=(i+j) / 2:=⟨_,rfl⟩;(have hcz:((i:Int)+(j:Int)) / 2=(c:Int):=by omega);(have hci:i<=c:=by omega);(have hcj:c<j:=by omega);have HV:Hid (d.toList[c]?=some d[c]!):=qEo (by omega);clear hc
    by_cases hv:cf d[c]! d[a]! < 0
    . have HLt:=gH (qSu hv)
      (have ea1:((c:Int)).toNat=c:=by omega);(have pa1:(0:Int)<=(c:Int):=by omega);(have ba1:(c:Int)<(d.size:Int):=by omega);(have ra1:IntKind.i64.wrap ((c:Int))=(c:Int):=by rw [IntKind.wrap_i64];omega);(have ec1:((a:Int)).toNat=a:=by omega);(have pc1:(0:Int)<=(a:Int):=by omega);(have bc1:(a:Int)<(d.size:Int):=by omega);(have rc1:IntKind.i64.wrap ((a:Int))=(a:Int):=by rw [IntKind.wrap_i64];omega);obtain ⟨x1,hx1⟩:∃ x,x=d[c]!:=⟨_,rfl⟩;obtain ⟨y1,hy1⟩:∃ x,x=d[a]!:=⟨_,rfl⟩;have l1a:=S1.out.ld R (by omega) P (c) (by omega);have l1b:=S1.out.ld R (by omega) P (a) (by omega);rw [← hx1] at l1a;rw [← hy1] at l1b;have hc1:=S1.out.cmp HC.out (by omega) x1 y1;(have hv1:cf x1 y1<0:=by rw [hx1,hy1];exact hv);have hd1:decide (cf x1 y1<0)=true:=decide_eq_true hv1;clear hx1 hy1;go_wp2_with fail;go_quiet_grown (first | (go_at_fn g;refine Calls.grown_of (hc1 _ _)));have S2:Aside (SWK enc k w0 blk off d (grow (wr.drewN nq) osq)):=S1.out.grown nq osq;clear l1a l1b hc1 S1 hv1 hd1;generalize grow (wr.drewN nq) osq=w2 at S2 ⊢;clear nq osq;clear ea1 pa1 ba1 ra1 ec1 pc1 bc1 rc1;go_wp2;go_roundg (j-(c+1))
      case measure=>omega
      case rel=>exact ⟨c+1,j,by go_num,rfl,by omega,by omega,hj,Nat.le_refl _,S2,(show Hid _ from fun q y h1 h2 h3=>zOz HW.out HS2.out HV.out (by omega) (by omega) HLt.out q y h1 (by omega) h3),HHi⟩
    . have HLt:=gH (qOf hv)
      (have ea2:((c:Int)).toNat=c:=by omega);(have pa2:(0:Int)<=(c:Int):=by omega);(have ba2:(c:Int)<(d.size:Int):=by omega);(have ra2:IntKind.i64.wrap ((c:Int))=(c:Int):=by rw [IntKind.wrap_i64];omega);(have ec2:((a:Int)).toNat=a:=by omega);(have pc2:(0:Int)<=(a:Int):=by omega);(have bc2:(a:Int)<(d.size:Int):=by omega);(have rc2:IntKind.i64.wrap ((a:Int))=(a:Int):=by rw [IntKind.wrap_i64];omega);obtain ⟨x2,hx2⟩:∃ x,x=d[c]!:=⟨_,rfl⟩;obtain ⟨y2,hy2⟩:∃ x,x=d[a]!:=⟨_,rfl⟩;have l2a:=S1.out.ld R (by omega) P (c) (by omega);have l2b:=S1.out.ld R (by omega) P (a) (by omega);rw [← hx2] at l2a;rw [← hy2] at l2b;have hc2:=S1.out.cmp HC.out (by omega) x2 y2;(have hv2:¬ cf x2 y2<0:=by rw [hx2,hy2];exact hv);have hd2:decide (cf x2 y2<0)=false:=decide_eq_false hv2;clear hx2 hy2;go_wp2_with fail;go_quiet_grown (first | (go_at_fn g;refine Calls.grown_of (hc2 _ _)));have S2:Aside (SWK enc k w0 blk off d (grow (wr.drewN nq) osq)):=S1.out.grown nq osq;clear l2a l2b hc2 S1 hv2 hd2;generalize grow (wr.drewN nq) osq=w2 at S2 ⊢;clear nq osq;clear ea2 pa2 ba2 ra2 ec2 pc2 bc2 rc2;go_wp2;go_roundg (c-i)
      case measure=>omega
      case rel=>exact ⟨i,c,rfl,rfl,hi,hci,by omega,Nat.le_refl _,S2,HLo,(show Hid _ from fun q y h1 h2 h3=>zOy HW.out HS2.out HV.out (by omega) (by omega) HLt.out q y h1 h2 h3)⟩
  . obtain rfl:j=i:=by omega
    (have hltz:¬ (j:Int)<(j:Int):=by omega);have HA:Hid (d.toList[a]?=some d[a]!):=qEo (by omega);go_wp2_with fail;go_loopg [13] (j-1-a) (fun kx s13 wr=>∃ (x:Nat) (dk:Array α),s13 = .int .i64 x/\a<=x/\x+1<=j/\j-1-x<=kx/\dk.size=d.size/\Aside (SWK enc k w0 blk off dk wr)/\Hid (dk.toList=Stb.rot d.toList a (a+1) (x+1)))
    case atStart=>exact ⟨a,d,rfl,Nat.le_refl _,by omega,Nat.le_refl _,rfl,S1,(show Hid _ from (Stb.rot_nil' d.toList a (a+1) (by omega) (by rw [Array.length_toList];omega)).symm)⟩
    case round =>
     clear S1;obtain ⟨x,dk,rfl,hxa,hxj,hkx2,hds,S2,HE⟩:=hrel
     by_cases hlt2:x+1<j
     . have hltz2:(x:Int)<(j:Int)-1:=by omega
       (have ea3:((x:Int)).toNat=x:=by omega);(have pa3:(0:Int)<=(x:Int):=by omega);(have ba3:(x:Int)<(d.size:Int):=by omega);(have ra3:IntKind.i64.wrap ((x:Int))=(x:Int):=by rw [IntKind.wrap_i64];omega);(have ec3:((x:Int)+1).toNat=x+1:=by omega);(have pc3:(0:Int)<=(x:Int)+1:=by omega);(have bc3:(x:Int)+1<(d.size:Int):=by omega);(have rc3:IntKind.i64.wrap ((x:Int)+1)=(x:Int)+1:=by rw [IntKind.wrap_i64];omega);have S3:Aside (SWK enc k w0 blk off (swp dk (x) (x+1)) ((wr.drew.setCells blk (off+(x)*k) (enc dk[x+1]!)).setCells blk (off+(x+1)*k) (enc dk[x]!))):=S2.out.swapped R (x) (x+1) (by omega) (by omega);have l3a:=S2.out.ld1 R (by omega) P (x) (by omega);have l3b:=S2.out.ld1 R (by omega) P (x+1) (by omega);have s3a:=S2.out.st1 R (by omega) P (x) (by omega) dk[x+1]!;have s3b:=S2.out.st2 R (by omega) P (x) (x+1) (by omega) (by omega) dk[x+1]! dk[x]!;have n3a:(enc dk[x]!).length=k:=R.hk _;have n3b:(enc dk[x+1]!).length=k:=R.hk _;generalize enc dk[x]! = cI3 at S3 l3a s3b n3a;generalize enc dk[x+1]! = cJ3 at S3 l3b s3a s3b n3b;clear S2;go_wp2_with fail;go_big_region_o;clear l3a l3b s3a s3b;generalize (wr.drew.setCells blk (off+(x)*k) cJ3).setCells blk (off+(x+1)*k) cI3=w3 at S3 ⊢;clear n3a n3b ea3 pa3 ba3 ra3 ec3 pc3 bc3 rc3;go_wp2;go_roundg (j-1-(x+1))
       case measure=>omega
       case rel=>exact ⟨x+1,swp dk x (x+1),by go_num,by omega,by omega,Nat.le_refl _,by rw [size_swp];exact hds,S3,(show Hid _ from by show _=_;rw [qNe (by omega) (by omega),HE.out];exact Stb.rot_up hxa (by rw [Array.length_toList];omega))⟩
     . have hltz2:¬ (x:Int)<(j:Int)-1:=by omega
       go_wp2
       (try simp only [Exit.inBlock,Exit.then])
       refine bodyPost_ret (results_none rfl _ _ _) rfl ?_;have hmg:=Stb.merge_left HW.out (i:=j) (show Stb.Srt (ltOf cf) d.toList (a+1) b by rw [← HAm.out];exact HS2.out) HA.out (by omega) hj (by rw [Array.length_toList];omega) (fun q y h1 h2 h3=>HLo.out q y (by omega) h2 h3) (fun q y h1 h2 h3=>HHi.out q y h1 h2 h3);rw [← show x+1=j by omega,← HE.out] at hmg;exact ⟨rfl,dk,hds,S2.out,hmg.1,hmg.2⟩
theorem zPf (L:StL P k) (enc:α->List Value) (cf:α->α->Int) (g:Nat) (cb:Array Value) (blk off cap:Nat) (d0 d:Array α) (w0 w:World) (a m b:Nat) (eg:∀ args w,(callFunc g args).run P w = .ok (.enter g args) w) (hcmp:CmpLays P g cb enc k cf blk off d0.size w0) (R:RowK enc k w0 blk off d0) (hs:d0.size=d.size) (S:SWK enc k w0 blk off d w) (hsz:d.size<1152921504606846976) (hw:Stb.SW (ltOf cf)) (ham:a<m) (hm1:m≠a+1) (hmb:b=m+1) (hb:b<=d.size) (hs1:Stb.Srt (ltOf cf) d.toList a m) :
 Calls P 276 #[.slice (some ⟨blk,off,none⟩) d.size cap,.int .i64 a,.int .i64 m,.int .i64 b,.func (.func g) #[] cb] w fun e w'=>e = .returned (.tuple #[])/\∃ d',d'.size=d.size/\SWK enc k w0 blk off d' w'/\Stb.Loc (ltOf cf) a b d.toList d'.toList/\Stb.Srt (ltOf cf) d'.toList a b:=by
 (have mixed:=L.mixed;have t0:=L.t0;have a0:=L.a0;have z0:=L.z0;have v0:=L.v0;have t3:=L.t3;have a3:=L.a3;have z3:=L.z3;have v3:=L.v3;have t4:=L.t4;have a4:=L.a4;have z4:=L.z4;have v4:=L.v4;have tS:=L.tS;have aS:=L.aS;have zS:=L.zS;have vS:=L.vS;have tF:=L.tF;have aF:=L.aF;have zF:=L.zF;have vF:=L.vF;have tU:=L.tU;have aU:=L.aU;have zU:=L.zU;have vU:=L.vU;have aE:=L.aE;have zE:=L.zE);(have uS:=run_underlying L.tS;have u3:=run_underlying L.t3;have uU:=run_underlying L.tU);have HC:Aside _:=hcmp;have HW:=gH hw;have HS1:=gH hs1;have S0:Aside _:=S;(have hz1:((m:Int)-(a:Int) == 1)=false:=by simp;omega);(have hz2:(b:Int)-(m:Int)=1:=by omega);have HBm:=gH hmb;(have hq1:b<=m+1:=by omega);(have hq2:m+1<=b:=by omega);clear hcmp S hw hs1 hmb;go_enter L.fsymMerge,Tryz.ntmps276;go_wp2_with fail;go_loopg [14,15] (m-a) (fun kx s14 s15 wr=>∃ (i j:Nat),s14 = .int .i64 i/\s15 = .int .i64 j/\a<=i/\i<=j/\j<=m/\j-i<=kx/\Aside (SWK enc k w0 blk off d wr)/\Hid (∀ q y,a<=q->q<i->d.toList[q]?=some y->ltOf cf d[m]! y=false)/\Hid (∀ q y,j<=q->q<m->d.toList[q]?=some y->ltOf cf d[m]! y=true))
 case atStart=>exact ⟨a,m,rfl,rfl,Nat.le_refl _,by omega,Nat.le_refl _,Nat.le_refl _,S0,(show Hid _ from fun q y h1 h2=>by omega),(show Hid _ from fun q y h1 h2=>by omega)⟩
 case round =>
  clear S0;obtain ⟨i,j,rfl,rfl,hi,hij,hj,hkx,S1,HLo,HHi⟩:=hrel
  by_cases hlt:i<j
  . have hltz:(i:Int)<(j:Int):=by omega
    obtain ⟨c,hc⟩:∃ c,c=(i+j) / 2:=⟨_,rfl⟩;(have hcz:((i:Int)+(j:Int)) / 2=(c:Int):=by omega);(have hci:i<=c:=by omega);(have hcj:c<j:=by omega);have HV:Hid (d.toList[c]?=some d[c]!):=qEo (by omega);clear hc
    by_cases hv:cf d[m]! d[c]! < 0
    . have HLt:=gH (qSu hv)
      (have ea1:((m:Int)).toNat=m:=by omega);(have pa1:(0:Int)<=(m:Int):=by omega);(have ba1:(m:Int)<(d.size:Int):=by omega);(have ra1:IntKind.i64.wrap ((m:Int))=(m:Int):=by rw [IntKind.wrap_i64];omega);(have ec1:((c:Int)).toNat=c:=by omega);(have pc1:(0:Int)<=(c:Int):=by omega);(have bc1:(c:Int)<(d.size:Int):=by omega);(have rc1:IntKind.i64.wrap ((c:Int))=(c:Int):=by rw [IntKind.wrap_i64];omega);obtain ⟨x1,hx1⟩:∃ x,x=d[m]!:=⟨_,rfl⟩;obtain ⟨y1,hy1⟩:∃ x,x=d[c]!:=⟨_,rfl⟩;have l1a:=S1.out.ld R (by omega) P (m) (by omega);have l1b:=S1.out.ld R (by omega) P (c) (by omega);rw [← hx1] at l1a;rw [← hy1] at l1b;have hc1:=S1.out.cmp HC.out (by omega) x1 y1;(have hv1:cf x1 y1<0:=by rw [hx1,hy1];exact hv);have hd1:decide (cf x1 y1<0)=true:=decide_eq_true hv1;clear hx1 hy1;go_wp2_with fail;go_quiet_grown (first | (go_at_fn g;refine Calls.grown_of (hc1 _ _)));have S2:Aside (SWK enc k w0 blk off d (grow (wr.drewN nq) osq)):=S1.out.grown nq osq;clear l1a l1b hc1 S1 hv1 hd1;generalize grow (wr.drewN nq) osq=w2 at S2 ⊢;clear nq osq;clear ea1 pa1 ba1 ra1 ec1 pc1 bc1 rc1;go_wp2;go_roundg (c-i)
      case measure=>omega
      case rel=>exact ⟨i,c,rfl,rfl,hi,hci,by omega,Nat.le_refl _,S2,HLo,(show Hid _ from fun q y h1 h2 h3=>srch_ge' HW.out HS1.out HV.out (by omega) (by omega) HLt.out q y h1 h2 h3)⟩
    . have HLt:=gH (qOf hv)
      (have ea2:((m:Int)).toNat=m:=by omega);(have pa2:(0:Int)<=(m:Int):=by omega);(have ba2:(m:Int)<(d.size:Int):=by omega);(have ra2:IntKind.i64.wrap ((m:Int))=(m:Int):=by rw [IntKind.wrap_i64];omega);(have ec2:((c:Int)).toNat=c:=by omega);(have pc2:(0:Int)<=(c:Int):=by omega);(have bc2:(c:Int)<(d.size:Int):=by omega);(have rc2:IntKind.i64.wrap ((c:Int))=(c:Int):=by rw [IntKind.wrap_i64];omega);obtain ⟨x2,hx2⟩:∃ x,x=d[m]!:=⟨_,rfl⟩;obtain ⟨y2,hy2⟩:∃ x,x=d[c]!:=⟨_,rfl⟩;have l2a:=S1.out.ld R (by omega) P (m) (by omega);have l2b:=S1.out.ld R (by omega) P (c) (by omega);rw [← hx2] at l2a;rw [← hy2] at l2b;have hc2:=S1.out.cmp HC.out (by omega) x2 y2;(have hv2:¬ cf x2 y2<0:=by rw [hx2,hy2];exact hv);have hd2:decide (cf x2 y2<0)=false:=decide_eq_false hv2;clear hx2 hy2;go_wp2_with fail;go_quiet_grown (first | (go_at_fn g;refine Calls.grown_of (hc2 _ _)));have S2:Aside (SWK enc k w0 blk off d (grow (wr.drewN nq) osq)):=S1.out.grown nq osq;clear l2a l2b hc2 S1 hv2 hd2;generalize grow (wr.drewN nq) osq=w2 at S2 ⊢;clear nq osq;clear ea2 pa2 ba2 ra2 ec2 pc2 bc2 rc2;go_wp2;go_roundg (j-(c+1))
      case measure=>omega
      case rel=>exact ⟨c+1,j,by go_num,rfl,by omega,by omega,hj,Nat.le_refl _,S2,(show Hid _ from fun q y h1 h2 h3=>srch_le' HW.out HS1.out HV.out (by omega) (by omega) HLt.out q y h1 (by omega) h3),HHi⟩
  . obtain rfl:j=i:=by omega
    (have hltz:¬ (j:Int)<(j:Int):=by omega);have HA:Hid (d.toList[m]?=some d[m]!):=qEo (by omega);go_wp2_with fail;go_loopg [17] (m-j) (fun kx s17 wr=>∃ (x:Nat) (dk:Array α),s17 = .int .i64 x/\j<=x/\x<=m/\x-j<=kx/\dk.size=d.size/\Aside (SWK enc k w0 blk off dk wr)/\Hid (dk.toList=Stb.rot d.toList x m (m+1)))
    case atStart=>exact ⟨m,d,rfl,hj,Nat.le_refl _,Nat.le_refl _,rfl,S1,(show Hid _ from (Stb.rot_nil d.toList m (m+1) (by omega) (by rw [Array.length_toList];omega)).symm)⟩
    case round =>
     clear S1;obtain ⟨x,dk,rfl,hxj,hxm,hkx2,hds,S2,HE⟩:=hrel
     by_cases hlt2:j<x
     . have hltz2:(j:Int)<(x:Int):=by omega
       obtain ⟨xm,hxm1⟩:∃ xm,xm=x-1:=⟨_,rfl⟩;(have hx1:(x:Int)-1=(xm:Int):=by omega);(have hxl:xm<d.size:=by omega);have HXm:=gH hxm1;clear hxm1;(have ea3:((x:Int)).toNat=x:=by omega);(have pa3:(0:Int)<=(x:Int):=by omega);(have ba3:(x:Int)<(d.size:Int):=by omega);(have ra3:IntKind.i64.wrap ((x:Int))=(x:Int):=by rw [IntKind.wrap_i64];omega);(have ec3:((xm:Int)).toNat=xm:=by omega);(have pc3:(0:Int)<=(xm:Int):=by omega);(have bc3:(xm:Int)<(d.size:Int):=by omega);(have rc3:IntKind.i64.wrap ((xm:Int))=(xm:Int):=by rw [IntKind.wrap_i64];omega);have S3:Aside (SWK enc k w0 blk off (swp dk (x) (xm)) ((wr.drew.setCells blk (off+(x)*k) (enc dk[xm]!)).setCells blk (off+(xm)*k) (enc dk[x]!))):=S2.out.swapped R (x) (xm) (by omega) (by omega);have l3a:=S2.out.ld1 R (by omega) P (x) (by omega);have l3b:=S2.out.ld1 R (by omega) P (xm) (by omega);have s3a:=S2.out.st1 R (by omega) P (x) (by omega) dk[xm]!;have s3b:=S2.out.st2 R (by omega) P (x) (xm) (by omega) (by omega) dk[xm]! dk[x]!;have n3a:(enc dk[x]!).length=k:=R.hk _;have n3b:(enc dk[xm]!).length=k:=R.hk _;generalize enc dk[x]! = cI3 at S3 l3a s3b n3a;generalize enc dk[xm]! = cJ3 at S3 l3b s3a s3b n3b;clear S2;go_wp2_with fail;go_big_region_o;clear l3a l3b s3a s3b;generalize (wr.drew.setCells blk (off+(x)*k) cJ3).setCells blk (off+(xm)*k) cI3=w3 at S3 ⊢;clear n3a n3b ea3 pa3 ba3 ra3 ec3 pc3 bc3 rc3;go_wp2
       go_roundg (x-1-j)
       case measure=>omega
       case rel =>
        have hxm1:=HXm.out;exact ⟨x-1,swp dk x xm,by rw [show ((x-1:Nat):Int)=(xm:Int) by omega],by omega,by omega,Nat.le_refl _,by rw [size_swp];exact hds,S3,(show Hid _ from by show _=_;rw [qNe (by omega) (by omega),HE.out,hxm1];exact Stb.rot_down (by omega) hxm (by rw [Array.length_toList];omega))⟩
     . have hltz2:¬ (j:Int)<(x:Int):=by omega
       go_wp2
       (try simp only [Exit.inBlock,Exit.then])
       refine bodyPost_ret (results_none rfl _ _ _) rfl ?_;have hmg:=Stb.merge_right HW.out (i:=j) HS1.out HA.out hi (by omega) (by rw [Array.length_toList];omega) (fun q y h1 h2 h3=>HLo.out q y h1 h2 h3) (fun q y h1 h2 h3=>HHi.out q y h1 h2 h3);rw [← show x=j by omega,← HE.out,← HBm.out] at hmg;exact ⟨rfl,dk,hds,S2.out,hmg.1,hmg.2⟩
end
section
open Go.Shelf Go.RowKit Go.Lib Go.Sort
variable {P:Program} {k:Nat} {α:Type} [Inhabited α]
theorem zPg (L:StL P k) (enc:α->List Value) (cf:α->α->Int) (g:Nat) (cb:Array Value) (blk off cap:Nat) (d0 d:Array α) (w0 w:World) (a m b N0:Nat) (eg:∀ args w,(callFunc g args).run P w = .ok (.enter g args) w) (hcmp:CmpLays P g cb enc k cf blk off d0.size w0) (R:RowK enc k w0 blk off d0) (hs:d0.size=d.size) (S:SWK enc k w0 blk off d w) (hsz:d.size<1152921504606846976) (hw:Stb.SW (ltOf cf)) (ham:a<m) (hm1:m≠a+1) (hmb:m<b) (hm2:b≠m+1) (hb:b<=d.size) (hs1:Stb.Srt (ltOf cf) d.toList a m) (hs2:Stb.Srt (ltOf cf) d.toList m b) (hN:b-a=N0)
 (IH:Aside (∀ (a m b:Nat) (dk:Array α) (w:World),b-a<N0->a<m->m<b->b<=dk.size->dk.size=d.size->SWK enc k w0 blk off dk w->Stb.Srt (ltOf cf) dk.toList a m->Stb.Srt (ltOf cf) dk.toList m b->Calls P 276 #[.slice (some ⟨blk,off,none⟩) d.size cap,.int .i64 a,.int .i64 m,.int .i64 b,.func (.func g) #[] cb] w fun e w'=>e = .returned (.tuple #[])/\∃ d',d'.size=d.size/\SWK enc k w0 blk off d' w'/\Stb.Loc (ltOf cf) a b dk.toList d'.toList/\Stb.Srt (ltOf cf) d'.toList a b)) :
 Calls P 276 #[.slice (some ⟨blk,off,none⟩) d.size cap,.int .i64 a,.int .i64 m,.int .i64 b,.func (.func g) #[] cb] w fun e w'=>e = .returned (.tuple #[])/\∃ d',d'.size=d.size/\SWK enc k w0 blk off d' w'/\Stb.Loc (ltOf cf) a b d.toList d'.toList/\Stb.Srt (ltOf cf) d'.toList a b:=by
 (have mixed:=L.mixed;have t0:=L.t0;have a0:=L.a0;have z0:=L.z0;have v0:=L.v0;have t3:=L.t3;have a3:=L.a3;have z3:=L.z3;have v3:=L.v3;have t4:=L.t4;have a4:=L.a4;have z4:=L.z4;have v4:=L.v4;have tS:=L.tS;have aS:=L.aS;have zS:=L.zS;have vS:=L.vS;have tF:=L.tF;have aF:=L.aF;have zF:=L.zF;have vF:=L.vF;have tU:=L.tU;have aU:=L.aU;have zU:=L.zU;have vU:=L.vU;have aE:=L.aE;have zE:=L.zE);(have uS:=run_underlying L.tS;have u3:=run_underlying L.t3;have uU:=run_underlying L.tU);have erotate:∀ args w,(callFunc 301 args).run P w = .ok (.enter 301 args) w:=enters_of L.frotate (by kernel_rfl) rfl;have esymMerge:∀ args w,(callFunc 276 args).run P w = .ok (.enter 276 args) w:=enters_of L.fsymMerge (by kernel_rfl) rfl;have HC:Aside _:=hcmp;have HW:=gH hw;have HS1:=gH hs1;have HS2:=gH hs2;have S0:Aside _:=S;have HLd:Hid (d.toList.length=d.size):=Array.length_toList
 have HRt:Aside (∀ (a m b:Nat) (dk:Array α) (w:World),dk.size=d.size->SWK enc k w0 blk off dk w->a<m->m<b->b<=dk.size->Calls P 301 #[.slice (some ⟨blk,off,none⟩) d.size cap,.int .i64 a,.int .i64 m,.int .i64 b,.func (.func g) #[] cb] w fun e w'=>e = .returned (.tuple #[])/\∃ d',d'.size=d.size/\SWK enc k w0 blk off d' w'/\d'.toList=Stb.rot dk.toList a m b):=fun a m b dk w hd hS h1 h2 h3=>by
  have:=zHv L enc cf g cb blk off cap d0 dk w0 w a m b R (by omega) hS (by omega) h1 h2 h3
  rwa [hd] at this
 (have hz1:((m:Int)-(a:Int) == 1)=false:=by simp;omega);(have hz2:((b:Int)-(m:Int) == 1)=false:=by simp;omega);obtain ⟨mid,hmid⟩:∃ mid,mid=(a+b) / 2:=⟨_,rfl⟩;(have hmz:((a:Int)+(b:Int)) / 2=(mid:Int):=by omega);obtain ⟨N,hNn⟩:∃ N,N=mid+m:=⟨_,rfl⟩;(have hNz:(mid:Int)+(m:Int)=(N:Int):=by omega);obtain ⟨p,hp⟩:∃ p,p=N-1:=⟨_,rfl⟩;(have hpz:(N:Int)-1=(p:Int):=by omega);(obtain ⟨s0,hs0⟩:∃ s0,s0=if mid<m then N-b else a:=⟨_,rfl⟩);(obtain ⟨r0,hr0⟩:∃ r0,r0=if mid<m then mid else m:=⟨_,rfl⟩)
 have HB:Hid (a<=s0/\s0<=r0/\r0<=m/\r0<=mid/\N<=b+s0/\a<mid/\mid<b/\m<=b):=by
  show _/\_
  split at hs0<;>rename_i hif<;>simp only [hif,if_true,if_false] at hr0<;>omega
 have HSR:Hid ((mid<m->N=b+s0/\r0=mid)/\(¬ mid<m->s0=a/\r0=m)):=by
  show _/\_
  split at hs0<;>rename_i hif<;>simp only [hif,if_true,if_false] at hr0
  . exact ⟨fun _=>by omega,fun h=>absurd hif h⟩
  . exact ⟨fun h=>absurd h hif,fun _=>by omega⟩
 have HNn:=gH hNn;have HPn:=gH hp;have HMn:=gH hmid;clear hcmp S hw hs1 hs2 hs0 hr0 hNn hp hmid;(have b1:mid<d.size:=by have:=HB.out;omega);(have b2:N<2305843009213693952:=by have:=HNn.out;omega);go_enter L.fsymMerge,Tryz.ntmps276;go_upto_if 140 with fail;have S1:=S0;clear S0
 go_cut [20,21] (fun s20 s21 wr=>s20 = .int .i64 s0/\s21 = .int .i64 r0/\Aside (SWK enc k w0 blk off d wr))
 case first =>
  by_cases hgt:mid<m
  . have hgz:(mid:Int)<(m:Int):=by omega
    (have hd1:(N:Int)-(b:Int)=(s0:Int):=by have:=(HSR.out.1 hgt).1;omega);have hd2:Hid (r0=mid):=(HSR.out.1 hgt).2;go_wp2_with fail;go_meet
    case rel=>exact ⟨rfl,by rw [hd2.out],S1⟩
  . have hgz:¬ (mid:Int)<(m:Int):=by omega
    have hd1:=gH (HSR.out.2 hgt);go_wp2_with fail;go_meet
    case rel=>exact ⟨by rw [hd1.out.1],by rw [hd1.out.2],S1⟩
 case rest =>
 obtain ⟨rfl,rfl,S2⟩:=hcut;clear S1;go_wp2_with fail;go_loopg [20,21] (r0-s0) (fun kx s20 s21 wr=>∃ (s r:Nat),s20 = .int .i64 s/\s21 = .int .i64 r/\s0<=s/\s<=r/\r<=r0/\r-s<=kx/\Aside (SWK enc k w0 blk off d wr)/\Hid (∀ x y,a<s->d.toList[s-1]?=some x->d.toList[N-s]?=some y->N-s<b->ltOf cf y x=false)/\Hid (∀ x y,r<m->m<N-r->d.toList[r]?=some x->d.toList[N-r-1]?=some y->ltOf cf y x=true))
 case atStart =>
  have e1:=HSR.out;have e2:=HNn.out;have e3:=HB.out;refine ⟨s0,r0,rfl,rfl,Nat.le_refl _,e3.2.1,Nat.le_refl _,Nat.le_refl _,S2,(show Hid _ from fun x y h1 h2 h3 h4=>?_),(show Hid _ from fun x y h1 h2 h3 h4=>?_)⟩
  . exfalso
    by_cases hif:mid<m
    . have:=e1.1 hif;omega
    . have:=e1.2 hif;omega
  . exfalso
    by_cases hif:mid<m
    . have:=e1.1 hif;omega
    . have:=e1.2 hif;omega
 case round =>
  clear S2;obtain ⟨s,r,rfl,rfl,hs0,hsr,hrr,hkx,S3,HLo,HHi⟩:=hrel
  by_cases hlt:s<r
  . have hltz:(s:Int)<(r:Int):=by omega
    obtain ⟨c,hc⟩:∃ c,c=(s+r) / 2:=⟨_,rfl⟩;(have hcz:((s:Int)+(r:Int)) / 2=(c:Int):=by omega);(have hcs:s<=c:=by omega);(have hcr:c<r:=by omega);obtain ⟨q,hq⟩:∃ q,q=p-c:=⟨_,rfl⟩;(have hqz:(p:Int)-(c:Int)=(q:Int):=by have:=HB.out;have:=HNn.out;have:=HPn.out;omega);(have hcd:c<d.size:=by have:=HB.out;omega);(have hqd:q<d.size:=by have:=HB.out;have:=HNn.out;have:=HPn.out;omega);(have HQn:Hid (q=N-1-c):=by show _=_;have:=HPn.out;omega);have HQv:Hid (d.toList[q]?=some d[q]!):=qEo hqd;have HCv:Hid (d.toList[c]?=some d[c]!):=qEo hcd;clear hc hq
    by_cases hv:cf d[q]! d[c]! < 0
    . have HLt:=gH (qSu hv)
      (have ea1:((q:Int)).toNat=q:=by omega);(have pa1:(0:Int)<=(q:Int):=by omega);(have ba1:(q:Int)<(d.size:Int):=by omega);(have ra1:IntKind.i64.wrap ((q:Int))=(q:Int):=by rw [IntKind.wrap_i64];omega);(have ec1:((c:Int)).toNat=c:=by omega);(have pc1:(0:Int)<=(c:Int):=by omega);(have bc1:(c:Int)<(d.size:Int):=by omega);(have rc1:IntKind.i64.wrap ((c:Int))=(c:Int):=by rw [IntKind.wrap_i64];omega);obtain ⟨x1,hx1⟩:∃ x,x=d[q]!:=⟨_,rfl⟩;obtain ⟨y1,hy1⟩:∃ x,x=d[c]!:=⟨_,rfl⟩;have l1a:=S3.out.ld R (by omega) P (q) (by omega);have l1b:=S3.out.ld R (by omega) P (c) (by omega);rw [← hx1] at l1a;rw [← hy1] at l1b;have hc1:=S3.out.cmp HC.out (by omega) x1 y1;(have hv1:cf x1 y1<0:=by rw [hx1,hy1];exact hv);have hd1:decide (cf x1 y1<0)=true:=decide_eq_true hv1;clear hx1 hy1;go_wp2_with fail;go_quiet_grown (first | (go_at_fn g;refine Calls.grown_of (hc1 _ _)));have S4:Aside (SWK enc k w0 blk off d (grow (wr.drewN nq) osq)):=S3.out.grown nq osq;clear l1a l1b hc1 S3 hv1 hd1;generalize grow (wr.drewN nq) osq=w4 at S4 ⊢;clear nq osq;clear ea1 pa1 ba1 ra1 ec1 pc1 bc1 rc1;go_wp2;go_roundg (c-s)
      case measure=>omega
      case rel =>
       refine ⟨s,c,rfl,rfl,hs0,hcs,by omega,Nat.le_refl _,S4,HLo,(show Hid _ from fun x y h1 h2 h3 h4=>?_)⟩;rw [show N-c-1=q by have:=HQn.out;omega,HQv.out] at h4;rw [HCv.out] at h3
       cases h3
       cases h4
       exact HLt.out
    . have HLt:=gH (qOf hv)
      (have ea2:((q:Int)).toNat=q:=by omega);(have pa2:(0:Int)<=(q:Int):=by omega);(have ba2:(q:Int)<(d.size:Int):=by omega);(have ra2:IntKind.i64.wrap ((q:Int))=(q:Int):=by rw [IntKind.wrap_i64];omega);(have ec2:((c:Int)).toNat=c:=by omega);(have pc2:(0:Int)<=(c:Int):=by omega);(have bc2:(c:Int)<(d.size:Int):=by omega);(have rc2:IntKind.i64.wrap ((c:Int))=(c:Int):=by rw [IntKind.wrap_i64];omega);obtain ⟨x2,hx2⟩:∃ x,x=d[q]!:=⟨_,rfl⟩;obtain ⟨y2,hy2⟩:∃ x,x=d[c]!:=⟨_,rfl⟩;have l2a:=S3.out.ld R (by omega) P (q) (by omega);have l2b:=S3.out.ld R (by omega) P (c) (by omega);rw [← hx2] at l2a;rw [← hy2] at l2b;have hc2:=S3.out.cmp HC.out (by omega) x2 y2;(have hv2:¬ cf x2 y2<0:=by rw [hx2,hy2];exact hv);have hd2:decide (cf x2 y2<0)=false:=decide_eq_false hv2;clear hx2 hy2;go_wp2_with fail;go_quiet_grown (first | (go_at_fn g;refine Calls.grown_of (hc2 _ _)));have S4:Aside (SWK enc k w0 blk off d (grow (wr.drewN nq) osq)):=S3.out.grown nq osq;clear l2a l2b hc2 S3 hv2 hd2;generalize grow (wr.drewN nq) osq=w4 at S4 ⊢;clear nq osq;clear ea2 pa2 ba2 ra2 ec2 pc2 bc2 rc2;go_wp2;go_roundg (r-(c+1))
      case measure=>omega
      case rel =>
       refine ⟨c+1,r,by go_num,rfl,by omega,by omega,hrr,Nat.le_refl _,S4,(show Hid _ from fun x y h1 h2 h3 h4=>?_),HHi⟩;rw [show N-(c+1)=q by have:=HQn.out;omega,HQv.out] at h3;rw [show c+1-1=c by omega,HCv.out] at h2
       cases h2
       cases h3
       exact HLt.out
  . obtain rfl:r=s:=by omega
    (have hltz:¬ (r:Int)<(r:Int):=by omega);obtain ⟨e,he⟩:∃ e,e=N-r:=⟨_,rfl⟩;(have hez:(N:Int)-(r:Int)=(e:Int):=by have:=HB.out;have:=HNn.out;omega);(have hbe:e<=b:=by have:=HB.out;omega);(have hem:mid<=e:=by have:=HB.out;have:=HNn.out;omega);(have hrm:r<=mid:=by have:=HB.out;omega);(have har:a<=r:=by have:=HB.out;omega);(have HEn:Hid (mid+m-r=e):=by show _=_;have:=HNn.out;omega);(have hrm2:r<=m:=by have:=HB.out;omega);(have hme:m<=e:=by have:=HNn.out;omega);(have ham2:a<mid:=by have:=HB.out;omega);(have hmb2:mid<b:=by have:=HB.out;omega)
    have HCut:Hid (Stb.Cut (ltOf cf) d.toList a m b mid r):=by
     show Stb.Cut _ _ _ _ _ _ _
     have e2:=HNn.out;refine ⟨har,hrm2,by omega,by omega,hrm,fun x y h1 h2 h3 h4=>HLo.out x y h1 h2 (by rw [e2];exact h3) (by omega),fun x y h1 h2 h3 h4=>HHi.out x y h1 (by omega) h3 (by rw [e2];exact h4)⟩
    have HRo:=gH (HCut.out.rot HW.out (by rw [HLd.out];exact hb) HS1.out HS2.out);rw [HEn.out] at HRo;clear he HLo HHi HCut HSR;(have HI1:Hid (m<e↔r<mid):=by show _↔_;have:=HEn.out;omega);(have HI2:Hid (r<m↔mid<e):=by show _↔_;have:=HEn.out;omega);go_upto_region 39 with fail
    by_cases q1:r<m
    . have q1z:(r:Int)<(m:Int):=by omega
      by_cases q2:m<e
      . have q2z:(m:Int)<(e:Int):=by omega
        have hrot:=HRt.out r m e d _ rfl S3.out q1 q2 (by omega);clear S3;go_upto_region 41 with (go_at_fn 301;refine hrot.mono ?_;rintro e w' ⟨rfl,d2,hd2,hS2,hl2⟩);have S5:Aside _:=hS2;rw [← hl2] at HRo;clear hl2 hS2 HRt
        by_cases q3:a<r
        . have q3z:(a:Int)<(r:Int):=by omega
          have q4:r<mid:=HI1.out.1 q2;(have q4z:(r:Int)<(mid:Int):=by omega);have hih:=IH.out a r mid d2 _ (by omega) q3 q4 (by omega) (by first | rfl | exact hd2) S5.out HRo.out.2.1 HRo.out.2.2.1;clear S5;go_upto_region 43 with (go_at_fn 276;refine hih.mono ?_;rintro e w' ⟨rfl,d3,hd3,hS3,hL3,hs3⟩);have S9:Aside _:=hS3;have HL3:=gH hL3;have HS3:=gH hs3;clear hS3 hL3 hs3;have HA1:Hid (Stb.Srt (ltOf cf) d3.toList mid e):=HRo.out.2.2.2.1.of_out HL3.out (.inr (Nat.le_refl _));have HA2:Hid (Stb.Srt (ltOf cf) d3.toList e b):=HRo.out.2.2.2.2.1.of_out HL3.out (.inr hem);(have q7z:(mid:Int)<(e:Int):=by have:=HI2.out.1 q1;omega)
          by_cases q8:e<b
          . have q8z:(e:Int)<(b:Int):=by omega
            have hih:=IH.out mid e b d3 _ (by omega) (HI2.out.1 q1) q8 (by omega) (by first | rfl | exact hd3) S9.out HA1.out HA2.out;clear S9;go_wp2_with (go_at_fn 276;refine hih.mono ?_;rintro e w' ⟨rfl,d4,hd4,hS4,hL4,hs4⟩);go_end0;have hj:=Stb.Srt.join HW.out HL3.out hL4 HS3.out hs4 (by omega) (by omega) HRo.out.2.2.2.2.2;exact ⟨rfl,d4,hd4,hS4,HRo.out.1.trans hj.1,hj.2⟩
          . have q8z:¬ (e:Int)<(b:Int):=by omega
            go_wp2_with fail;go_end0
            have hs4:Stb.Srt (ltOf cf) d3.toList mid b:=by
             have:=HA1.out;rwa [show e=b by omega] at this
            have hj:=Stb.Srt.join HW.out HL3.out (Stb.Loc.refl _) HS3.out hs4 (by omega) (by omega) HRo.out.2.2.2.2.2;exact ⟨rfl,d3,(by first | rfl | exact hd3),S9.out,HRo.out.1.trans hj.1,hj.2⟩
        . have q3z:¬ (a:Int)<(r:Int):=by omega
          go_upto_region 43 with fail;have HL3:Hid (Stb.Loc (ltOf cf) a mid d2.toList d2.toList):=Stb.Loc.refl _
          have HS3:Hid (Stb.Srt (ltOf cf) d2.toList a mid):=by
           show Stb.Srt _ _ _ _
           have:=HRo.out.2.2.1;rwa [show r=a by omega] at this
          have hd3:=hd2;have HA1:Hid (Stb.Srt (ltOf cf) d2.toList mid e):=HRo.out.2.2.2.1.of_out HL3.out (.inr (Nat.le_refl _));have HA2:Hid (Stb.Srt (ltOf cf) d2.toList e b):=HRo.out.2.2.2.2.1.of_out HL3.out (.inr hem);(have q7z:(mid:Int)<(e:Int):=by have:=HI2.out.1 q1;omega)
          by_cases q8:e<b
          . have q8z:(e:Int)<(b:Int):=by omega
            have hih:=IH.out mid e b d2 _ (by omega) (HI2.out.1 q1) q8 (by omega) (by first | rfl | exact hd3) S5.out HA1.out HA2.out;clear S5;go_wp2_with (go_at_fn 276;refine hih.mono ?_;rintro e w' ⟨rfl,d4,hd4,hS4,hL4,hs4⟩);go_end0;have hj:=Stb.Srt.join HW.out HL3.out hL4 HS3.out hs4 (by omega) (by omega) HRo.out.2.2.2.2.2;exact ⟨rfl,d4,hd4,hS4,HRo.out.1.trans hj.1,hj.2⟩
          . have q8z:¬ (e:Int)<(b:Int):=by omega
            go_wp2_with fail;go_end0
            have hs4:Stb.Srt (ltOf cf) d2.toList mid b:=by
             have:=HA1.out;rwa [show e=b by omega] at this
            have hj:=Stb.Srt.join HW.out HL3.out (Stb.Loc.refl _) HS3.out hs4 (by omega) (by omega) HRo.out.2.2.2.2.2;exact ⟨rfl,d2,(by first | rfl | exact hd3),S5.out,HRo.out.1.trans hj.1,hj.2⟩
      . have q2z:¬ (m:Int)<(e:Int):=by omega
        go_upto_region 41 with fail;have hd2:d.size=d.size:=rfl
        have HE2:Hid (d.toList=Stb.rot d.toList r m e):=by
         show _=_
         rw [show e=m by omega];exact (Stb.rot_nil' _ _ _ hrm2 (by rw [HLd.out];omega)).symm
        rw [← HE2.out] at HRo
        by_cases q3:a<r
        . have q3z:(a:Int)<(r:Int):=by omega
          (have q4:¬ r<mid:=fun h=>q2 (HI1.out.2 h));(have q4z:¬ (r:Int)<(mid:Int):=by omega);go_upto_region 43 with fail;have HL3:Hid (Stb.Loc (ltOf cf) a mid d.toList d.toList):=Stb.Loc.refl _
          have HS3:Hid (Stb.Srt (ltOf cf) d.toList a mid):=by
           show Stb.Srt _ _ _ _
           have:=HRo.out.2.1;rwa [show r=mid by omega] at this
          have hd3:=hd2;have HA1:Hid (Stb.Srt (ltOf cf) d.toList mid e):=HRo.out.2.2.2.1.of_out HL3.out (.inr (Nat.le_refl _));have HA2:Hid (Stb.Srt (ltOf cf) d.toList e b):=HRo.out.2.2.2.2.1.of_out HL3.out (.inr hem);(have q7z:(mid:Int)<(e:Int):=by have:=HI2.out.1 q1;omega)
          by_cases q8:e<b
          . have q8z:(e:Int)<(b:Int):=by omega
            have hih:=IH.out mid e b d _ (by omega) (HI2.out.1 q1) q8 (by omega) (by first | rfl | exact hd3) S3.out HA1.out HA2.out;clear S3;go_wp2_with (go_at_fn 276;refine hih.mono ?_;rintro e w' ⟨rfl,d4,hd4,hS4,hL4,hs4⟩);go_end0;have hj:=Stb.Srt.join HW.out HL3.out hL4 HS3.out hs4 (by omega) (by omega) HRo.out.2.2.2.2.2;exact ⟨rfl,d4,hd4,hS4,HRo.out.1.trans hj.1,hj.2⟩
          . have q8z:¬ (e:Int)<(b:Int):=by omega
            go_wp2_with fail;go_end0
            have hs4:Stb.Srt (ltOf cf) d.toList mid b:=by
             have:=HA1.out;rwa [show e=b by omega] at this
            have hj:=Stb.Srt.join HW.out HL3.out (Stb.Loc.refl _) HS3.out hs4 (by omega) (by omega) HRo.out.2.2.2.2.2;exact ⟨rfl,d,(by first | rfl | exact hd3),S3.out,HRo.out.1.trans hj.1,hj.2⟩
        . have q3z:¬ (a:Int)<(r:Int):=by omega
          go_upto_region 43 with fail;have HL3:Hid (Stb.Loc (ltOf cf) a mid d.toList d.toList):=Stb.Loc.refl _
          have HS3:Hid (Stb.Srt (ltOf cf) d.toList a mid):=by
           show Stb.Srt _ _ _ _
           have:=HRo.out.2.2.1;rwa [show r=a by omega] at this
          have hd3:=hd2;have HA1:Hid (Stb.Srt (ltOf cf) d.toList mid e):=HRo.out.2.2.2.1.of_out HL3.out (.inr (Nat.le_refl _));have HA2:Hid (Stb.Srt (ltOf cf) d.toList e b):=HRo.out.2.2.2.2.1.of_out HL3.out (.inr hem);(have q7z:(mid:Int)<(e:Int):=by have:=HI2.out.1 q1;omega)
          by_cases q8:e<b
          . have q8z:(e:Int)<(b:Int):=by omega
            have hih:=IH.out mid e b d _ (by omega) (HI2.out.1 q1) q8 (by omega) (by first | rfl | exact hd3) S3.out HA1.out HA2.out;clear S3;go_wp2_with (go_at_fn 276;refine hih.mono ?_;rintro e w' ⟨rfl,d4,hd4,hS4,hL4,hs4⟩);go_end0;have hj:=Stb.Srt.join HW.out HL3.out hL4 HS3.out hs4 (by omega) (by omega) HRo.out.2.2.2.2.2;exact ⟨rfl,d4,hd4,hS4,HRo.out.1.trans hj.1,hj.2⟩
          . have q8z:¬ (e:Int)<(b:Int):=by omega
            go_wp2_with fail;go_end0
            have hs4:Stb.Srt (ltOf cf) d.toList mid b:=by
             have:=HA1.out;rwa [show e=b by omega] at this
            have hj:=Stb.Srt.join HW.out HL3.out (Stb.Loc.refl _) HS3.out hs4 (by omega) (by omega) HRo.out.2.2.2.2.2;exact ⟨rfl,d,(by first | rfl | exact hd3),S3.out,HRo.out.1.trans hj.1,hj.2⟩
    . have q1z:¬ (r:Int)<(m:Int):=by omega
      go_upto_region 41 with fail;have hd2:d.size=d.size:=rfl
      have HE2:Hid (d.toList=Stb.rot d.toList r m e):=by
       show _=_
       rw [show r=m by omega];exact (Stb.rot_nil _ _ _ hme (by rw [HLd.out];omega)).symm
      rw [← HE2.out] at HRo
      by_cases q3:a<r
      . have q3z:(a:Int)<(r:Int):=by omega
        by_cases q4:r<mid
        . have q4z:(r:Int)<(mid:Int):=by omega
          have hih:=IH.out a r mid d _ (by omega) q3 q4 (by omega) (by first | rfl | exact hd2) S3.out HRo.out.2.1 HRo.out.2.2.1;clear S3;go_upto_region 43 with (go_at_fn 276;refine hih.mono ?_;rintro e w' ⟨rfl,d3,hd3,hS3,hL3,hs3⟩);have S9:Aside _:=hS3;have HL3:=gH hL3;have HS3:=gH hs3;clear hS3 hL3 hs3;have HA1:Hid (Stb.Srt (ltOf cf) d3.toList mid e):=HRo.out.2.2.2.1.of_out HL3.out (.inr (Nat.le_refl _));have HA2:Hid (Stb.Srt (ltOf cf) d3.toList e b):=HRo.out.2.2.2.2.1.of_out HL3.out (.inr hem);(have q7z:¬ (mid:Int)<(e:Int):=by have:=HI2.out;have:=fun h=>q1 (HI2.out.2 h);omega);go_wp2_with fail;go_end0
          have hs4:Stb.Srt (ltOf cf) d3.toList mid b:=by
           have:=HA2.out;rwa [show e=mid by have:=fun h=>q1 (HI2.out.2 h);omega] at this
          have hj:=Stb.Srt.join HW.out HL3.out (Stb.Loc.refl _) HS3.out hs4 (by omega) (by omega) HRo.out.2.2.2.2.2;exact ⟨rfl,d3,(by first | rfl | exact hd3),S9.out,HRo.out.1.trans hj.1,hj.2⟩
        . have q4z:¬ (r:Int)<(mid:Int):=by omega
          go_upto_region 43 with fail;have HL3:Hid (Stb.Loc (ltOf cf) a mid d.toList d.toList):=Stb.Loc.refl _
          have HS3:Hid (Stb.Srt (ltOf cf) d.toList a mid):=by
           show Stb.Srt _ _ _ _
           have:=HRo.out.2.1;rwa [show r=mid by omega] at this
          have hd3:=hd2;have HA1:Hid (Stb.Srt (ltOf cf) d.toList mid e):=HRo.out.2.2.2.1.of_out HL3.out (.inr (Nat.le_refl _));have HA2:Hid (Stb.Srt (ltOf cf) d.toList e b):=HRo.out.2.2.2.2.1.of_out HL3.out (.inr hem);(have q7z:¬ (mid:Int)<(e:Int):=by have:=HI2.out;have:=fun h=>q1 (HI2.out.2 h);omega);go_wp2_with fail;go_end0
          have hs4:Stb.Srt (ltOf cf) d.toList mid b:=by
           have:=HA2.out;rwa [show e=mid by have:=fun h=>q1 (HI2.out.2 h);omega] at this
          have hj:=Stb.Srt.join HW.out HL3.out (Stb.Loc.refl _) HS3.out hs4 (by omega) (by omega) HRo.out.2.2.2.2.2;exact ⟨rfl,d,(by first | rfl | exact hd3),S3.out,HRo.out.1.trans hj.1,hj.2⟩
      . have q3z:¬ (a:Int)<(r:Int):=by omega
        go_upto_region 43 with fail;have HL3:Hid (Stb.Loc (ltOf cf) a mid d.toList d.toList):=Stb.Loc.refl _
        have HS3:Hid (Stb.Srt (ltOf cf) d.toList a mid):=by
         show Stb.Srt _ _ _ _
         have:=HRo.out.2.2.1;rwa [show r=a by omega] at this
        have hd3:=hd2;have HA1:Hid (Stb.Srt (ltOf cf) d.toList mid e):=HRo.out.2.2.2.1.of_out HL3.out (.inr (Nat.le_refl _));have HA2:Hid (Stb.Srt (ltOf cf) d.toList e b):=HRo.out.2.2.2.2.1.of_out HL3.out (.inr hem);(have q7z:¬ (mid:Int)<(e:Int):=by have:=HI2.out;have:=fun h=>q1 (HI2.out.2 h);omega);go_wp2_with fail;go_end0
        have hs4:Stb.Srt (ltOf cf) d.toList mid b:=by
         have:=HA2.out;rwa [show e=mid by have:=fun h=>q1 (HI2.out.2 h);omega] at this
        have hj:=Stb.Srt.join HW.out HL3.out (Stb.Loc.refl _) HS3.out hs4 (by omega) (by omega) HRo.out.2.2.2.2.2;exact ⟨rfl,d,(by first | rfl | exact hd3),S3.out,HRo.out.1.trans hj.1,hj.2⟩
end
section
open Go.Shelf Go.RowKit Go.Lib Go.Sort
variable {P:Program} {k:Nat} {α:Type} [Inhabited α]
theorem qZd (L:StL P k) (enc:α->List Value) (cf:α->α->Int) (g:Nat) (cb:Array Value) (blk off cap:Nat) (d0:Array α) (w0:World) (eg:∀ args w,(callFunc g args).run P w = .ok (.enter g args) w) (hcmp:CmpLays P g cb enc k cf blk off d0.size w0) (R:RowK enc k w0 blk off d0) (hsz:d0.size<1152921504606846976) (hw:Stb.SW (ltOf cf)) :
 ∀ (f a m b:Nat) (d:Array α) (w:World),b-a<=f->a<m->m<b->b<=d.size->d.size=d0.size->SWK enc k w0 blk off d w->Stb.Srt (ltOf cf) d.toList a m->Stb.Srt (ltOf cf) d.toList m b ->
 Calls P 276 #[.slice (some ⟨blk,off,none⟩) d.size cap,.int .i64 a,.int .i64 m,.int .i64 b,.func (.func g) #[] cb] w fun e w'=>e = .returned (.tuple #[])/\∃ d',d'.size=d.size/\SWK enc k w0 blk off d' w'/\Stb.Loc (ltOf cf) a b d.toList d'.toList/\Stb.Srt (ltOf cf) d'.toList a b:=by
 intro f
 induction f with
 | zero=>intro a m b d w h1 h2 h3;omega
 | succ f ih =>
  intro a m b d w h1 h2 h3 h4 h5 hS hs1 hs2
  by_cases c1:m=a+1
  . exact zPe L enc cf g cb blk off cap d0 d w0 w a m b eg hcmp R h5.symm hS (by omega) hw c1 (by omega) h4 hs2
  . by_cases c2:b=m+1
    . exact zPf L enc cf g cb blk off cap d0 d w0 w a m b eg hcmp R h5.symm hS (by omega) hw h2 c1 c2 h4 hs1
    . refine zPg L enc cf g cb blk off cap d0 d w0 w a m b (b-a) eg hcmp R h5.symm hS (by omega) hw h2 c1 h3 c2 h4 hs1 hs2 rfl (show Aside _ from fun a' m' b' dk w' i1 i2 i3 i4 i5 i6 i7 i8=>?_)
      have:=ih a' m' b' dk w' (by omega) i2 i3 i4 (by omega) i6 i7 i8
      rwa [i5] at this
theorem zIk (L:StL P k) (enc:α->List Value) (cf:α->α->Int) (g:Nat) (cb:Array Value) (blk off cap:Nat) (d0 d:Array α) (w0 w:World) (eg:∀ args w,(callFunc g args).run P w = .ok (.enter g args) w) (hcmp:CmpLays P g cb enc k cf blk off d0.size w0) (R:RowK enc k w0 blk off d0) (hs:d0.size=d.size) (S:SWK enc k w0 blk off d w) (hsz:d.size<1152921504606846976) (hw:Stb.SW (ltOf cf)) :
 Calls P 236 #[.slice (some ⟨blk,off,none⟩) d.size cap,.int .i64 d.size,.func (.func g) #[] cb] w fun e w'=>e = .returned (.tuple #[])/\∃ d',d'.size=d.size/\SWK enc k w0 blk off d' w'/\d'.toList=Stb.sortS (ltOf cf) d.toList:=by
 (have mixed:=L.mixed;have t0:=L.t0;have a0:=L.a0;have z0:=L.z0;have v0:=L.v0;have t3:=L.t3;have a3:=L.a3;have z3:=L.z3;have v3:=L.v3;have t4:=L.t4;have a4:=L.a4;have z4:=L.z4;have v4:=L.v4;have tS:=L.tS;have aS:=L.aS;have zS:=L.zS;have vS:=L.vS;have tF:=L.tF;have aF:=L.aF;have zF:=L.zF;have vF:=L.vF;have tU:=L.tU;have aU:=L.aU;have zU:=L.zU;have vU:=L.vU;have aE:=L.aE;have zE:=L.zE);(have uS:=run_underlying L.tS;have u3:=run_underlying L.t3;have uU:=run_underlying L.tU);have einsertionSort:∀ args w,(callFunc 275 args).run P w = .ok (.enter 275 args) w:=enters_of L.finsertionSort (by kernel_rfl) rfl;have esymMerge:∀ args w,(callFunc 276 args).run P w = .ok (.enter 276 args) w:=enters_of L.fsymMerge (by kernel_rfl) rfl
 have HIn:Aside (∀ (a b:Nat) (dk:Array α) (w:World),dk.size=d.size->SWK enc k w0 blk off dk w->a<=b->b<=dk.size->Calls P 275 #[.slice (some ⟨blk,off,none⟩) d.size cap,.int .i64 a,.int .i64 b,.func (.func g) #[] cb] w fun e w'=>e = .returned (.tuple #[])/\∃ d',d'.size=d.size/\SWK enc k w0 blk off d' w'/\Stb.Loc (ltOf cf) a b dk.toList d'.toList/\Stb.Srt (ltOf cf) d'.toList a b):=fun a b dk w hd hS h1 h2=>by
  have:=qVq L enc cf g cb blk off cap d0 dk w0 w a b eg hcmp R (by omega) hS (by omega) hw h1 h2
  rwa [hd] at this
 have HSm:Aside (∀ (a m b:Nat) (dk:Array α) (w:World),dk.size=d.size->SWK enc k w0 blk off dk w->a<m->m<b->b<=dk.size->Stb.Srt (ltOf cf) dk.toList a m->Stb.Srt (ltOf cf) dk.toList m b->Calls P 276 #[.slice (some ⟨blk,off,none⟩) d.size cap,.int .i64 a,.int .i64 m,.int .i64 b,.func (.func g) #[] cb] w fun e w'=>e = .returned (.tuple #[])/\∃ d',d'.size=d.size/\SWK enc k w0 blk off d' w'/\Stb.Loc (ltOf cf) a b dk.toList d'.toList/\Stb.Srt (ltOf cf) d'.toList a b):=fun a m b dk w hd hS h1 h2 h3 h4 h5=>by
  have:=qZd L enc cf g cb blk off cap d0 w0 eg hcmp R (by omega) hw (b-a) a m b dk w (Nat.le_refl _) h1 h2 h3 (by omega) hS h4 h5
  rwa [hd] at this
 have HW:=gH hw;have S0:Aside _:=S;clear hcmp S hw;go_enter L.fstable,Tryz.ntmps236;go_wp2_with fail;go_loopg [7,8] d.size (fun kx s7 s8 wr=>∃ (e:Nat) (dk:Array α),s7 = .int .i64 e/\s8 = .int .i64 ((e:Int)+20)/\e<=d.size/\d.size-e<=kx/\dk.size=d.size/\Aside (SWK enc k w0 blk off dk wr)/\Hid (Stb.Loc (ltOf cf) 0 d.size d.toList dk.toList)/\Hid (Stb.Up (ltOf cf) dk.toList 20 e))
 case atStart=>exact ⟨0,d,rfl,rfl,Nat.zero_le _,by omega,rfl,S0,(show Hid _ from Stb.Loc.refl _),(show Hid _ from Stb.Up.nil)⟩
 case round =>
  clear S0;obtain ⟨e,dk,rfl,rfl,hen,hkx,hds,S1,HLo,HUp⟩:=hrel
  by_cases hlt:e+20<=d.size
  . have hltz:(e:Int)+20<=(d.size:Int):=by omega
    have hin:=HIn.out e (e+20) dk wr hds S1.out (by omega) (by omega);rw [show ((e+20:Nat):Int)=(e:Int)+20 by omega] at hin;clear S1;go_wp2_with (go_at_fn 275;refine hin.mono ?_;rintro e9 w' ⟨rfl,d',hd',hS',hL',hs'⟩);go_roundg (d.size-(e+20))
    case measure=>omega
    case rel=>exact ⟨e+20,d',by go_num,by go_num,by omega,Nat.le_refl _,hd',hS',(show Hid _ from HLo.out.trans (hL'.wide (Nat.zero_le _) (by omega))),(show Hid _ from (HUp.out.out hL' (Nat.le_refl _)).snoc hs')⟩
  . have hltz:¬ (e:Int)+20<=(d.size:Int):=by omega
    have hin:=HIn.out e d.size dk wr hds S1.out (by omega) (by omega);clear S1;go_wp2_with (go_at_fn 275;refine hin.mono ?_;rintro e9 w' ⟨rfl,d2,hd2,hS2,hL2,hs2⟩);have HL2:Hid (Stb.Loc (ltOf cf) 0 d.size d.toList d2.toList):=HLo.out.trans (hL2.wide (Nat.zero_le _) (Nat.le_refl _));have HB2:Hid (Stb.Bl (ltOf cf) d2.toList 20 d.size 0):=(HUp.out.out hL2 (Nat.le_refl _)).join (.cons (by rw [Nat.min_eq_right (by omega)];exact hs2) (.nil (by omega))) hen;have S3:Aside _:=hS2;clear hL2 hs2 hS2 HLo HUp hds;go_loopg [6] d.size (fun kx s6 wr=>∃ (B:Nat) (dk:Array α),s6 = .int .i64 B/\20<=B/\B<=2*d.size+20/\d.size-B<=kx/\dk.size=d.size/\Aside (SWK enc k w0 blk off dk wr)/\Hid (Stb.Loc (ltOf cf) 0 d.size d.toList dk.toList)/\Hid (Stb.Bl (ltOf cf) dk.toList B d.size 0))
    case atStart=>exact ⟨20,d2,rfl,Nat.le_refl _,by omega,by omega,hd2,S3,HL2,HB2⟩
    case round =>
     clear S3 HL2 HB2 hd2;obtain ⟨B,dB,rfl,hB0,hB1,hkB,hdB,S4,HL4,HB4⟩:=hrel
     by_cases hBn:B<d.size
     . have hBz:(B:Int)<(d.size:Int):=by omega
       go_wp2_with fail;go_loopg [7,8] d.size (fun k2 s7 s8 wr=>∃ (e:Nat) (dk:Array α),s7 = .int .i64 e/\s8 = .int .i64 ((e:Int)+2*(B:Int))/\e<=d.size/\d.size-e<=k2/\dk.size=d.size/\Aside (SWK enc k w0 blk off dk wr)/\Hid (Stb.Loc (ltOf cf) 0 d.size d.toList dk.toList)/\Hid (Stb.Up (ltOf cf) dk.toList (2*B) e)/\Hid (Stb.Bl (ltOf cf) dk.toList B d.size e))
       case atStart=>exact ⟨0,dB,rfl,by go_num,Nat.zero_le _,by omega,hdB,S4,HL4,(show Hid _ from Stb.Up.nil),HB4⟩
       case round =>
        clear S4 HL4 HB4 hdB;obtain ⟨e,de,rfl,rfl,hen,hke,hde,S5,HL5,HU5,HB5⟩:=hrel
        by_cases hle:e+2*B<=d.size
        . have hlez:(e:Int)+2*(B:Int)<=(d.size:Int):=by omega
          have hh:=HB5.out.head (by omega);have hh2:=hh.2.head (by omega);have hsm:=HSm.out e (e+B) (e+2*B) de wr hde S5.out (by omega) (by omega) (by omega) (by have:=hh.1;rwa [Nat.min_eq_left (by omega)] at this) (by have:=hh2.1;rwa [show e+B+B=e+2*B by omega,Nat.min_eq_left (by omega)] at this);(have HB6:Hid (Stb.Bl (ltOf cf) de.toList B d.size (e+2*B)):=by have:=hh2.2;rwa [show e+B+B=e+2*B by omega] at this);rw [show ((e+B:Nat):Int)=(e:Int)+(B:Int) by omega,show ((e+2*B:Nat):Int)=(e:Int)+2*(B:Int) by omega] at hsm;clear S5 hh hh2;go_wp2_with (go_at_fn 276;refine hsm.mono ?_;rintro e9 w' ⟨rfl,d',hd',hS',hL',hs'⟩);go_roundg (d.size-(e+2*B))
          case measure=>omega
          case rel=>exact ⟨e+2*B,d',by go_num,by go_num,hle,Nat.le_refl _,hd',hS',(show Hid _ from HL5.out.trans (hL'.wide (Nat.zero_le _) hle)),(show Hid _ from (HU5.out.out hL' (Nat.le_refl _)).snoc hs'),(show Hid _ from HB6.out.out hL' (Nat.le_refl _))⟩
        . have hlez:¬ (e:Int)+2*(B:Int)<=(d.size:Int):=by omega
          by_cases hm:e+B<d.size
          . have hmz:(e:Int)+(B:Int)<(d.size:Int):=by omega
            have hh:=HB5.out.head (by omega);have hh2:=hh.2.head (by omega);have hsm:=HSm.out e (e+B) d.size de wr hde S5.out (by omega) (by omega) (by omega) (by have:=hh.1;rwa [Nat.min_eq_left (by omega)] at this) (by have:=hh2.1;rwa [Nat.min_eq_right (by omega)] at this);rw [show ((e+B:Nat):Int)=(e:Int)+(B:Int) by omega] at hsm;clear S5 hh hh2;go_wp2_with (go_at_fn 276;refine hsm.mono ?_;rintro e9 w' ⟨rfl,d',hd',hS',hL',hs'⟩);go_roundg (d.size-2*B)
            case measure=>omega
            case rel=>exact ⟨2*B,d',by go_num,by omega,by omega,Nat.le_refl _,hd',hS',(show Hid _ from HL5.out.trans (hL'.wide (Nat.zero_le _) (Nat.le_refl _))),(show Hid _ from (HU5.out.out hL' (Nat.le_refl _)).join (.cons (by rw [Nat.min_eq_right (by omega)];exact hs') (.nil (by omega))) hen)⟩
          . have hmz:¬ (e:Int)+(B:Int)<(d.size:Int):=by omega
            have HB6:Hid (Stb.Bl (ltOf cf) de.toList (2*B) d.size e):=by
             show Stb.Bl _ _ _ _ _
             by_cases he:e<d.size
             . have hh:=(HB5.out.head he).1
               rw [Nat.min_eq_right (by omega)] at hh;exact .cons (by rw [Nat.min_eq_right (by omega)];exact hh) (.nil (by omega))
             . exact .nil (by omega)
            go_wp2_with fail;go_roundg (d.size-2*B)
            case measure=>omega
            case rel=>exact ⟨2*B,de,by go_num,by omega,by omega,Nat.le_refl _,hde,S5,HL5,(show Hid _ from HU5.out.join HB6.out hen)⟩
     . have hBz:¬ (B:Int)<(d.size:Int):=by omega
       go_wp2_with fail;go_end0;have hs:=HB4.out.all (by omega);(have hl:dB.toList.length=d.size:=by rw [Array.length_toList];omega);exact ⟨rfl,dB,hdB,S4.out,Stb.stab_sort HW.out HL4.out (by rw [hl];exact hs)⟩
theorem qTj (L:StL P k) (enc:α->List Value) (cf:α->α->Int) (g:Nat) (cb:Array Value) (blk off cap:Nat) (d0 d:Array α) (w0 w:World) (eg:∀ args w,(callFunc g args).run P w = .ok (.enter g args) w) (hcmp:CmpLays P g cb enc k cf blk off d0.size w0) (R:RowK enc k w0 blk off d0) (hs:d0.size=d.size) (S:SWK enc k w0 blk off d w) (hsz:d.size<1152921504606846976) (hw:Stb.SW (ltOf cf)) :
 Calls P 194 #[.slice (some ⟨blk,off,none⟩) d.size cap,.func (.func g) #[] cb] w fun e w'=>e = .returned (.tuple #[])/\∃ d',d'.size=d.size/\SWK enc k w0 blk off d' w'/\d'.toList=Stb.sortS (ltOf cf) d.toList:=by
 (have mixed:=L.mixed;have t0:=L.t0;have a0:=L.a0;have z0:=L.z0;have v0:=L.v0;have t3:=L.t3;have a3:=L.a3;have z3:=L.z3;have v3:=L.v3;have t4:=L.t4;have a4:=L.a4;have z4:=L.z4;have v4:=L.v4;have tS:=L.tS;have aS:=L.aS;have zS:=L.zS;have vS:=L.vS;have tF:=L.tF;have aF:=L.aF;have zF:=L.zF;have vF:=L.vF;have tU:=L.tU;have aU:=L.aU;have zU:=L.zU;have vU:=L.vU;have aE:=L.aE;have zE:=L.zE);(have uS:=run_underlying L.tS;have u3:=run_underlying L.t3;have uU:=run_underlying L.tU);have estable:∀ args w,(callFunc 236 args).run P w = .ok (.enter 236 args) w:=enters_of L.fstable (by kernel_rfl) rfl;have hst:=zIk L enc cf g cb blk off cap d0 d w0 w eg hcmp R hs S hsz hw;clear hcmp S hw;go_enter L.fsort,Tryz.ntmps194;go_wp2_with (go_at_fn 236;refine hst.mono ?_;rintro e9 w' ⟨rfl,d',hd',hS',hl'⟩);go_end0;exact ⟨rfl,d',hd',hS',hl'⟩
theorem qPq (L:StL P k) (F:Value) (w:World):Calls P 194 #[.slice none 0 0,F] w fun e w'=>e = .returned (.tuple #[])/\w'=w:=by
 (have mixed:=L.mixed;have t0:=L.t0;have a0:=L.a0;have z0:=L.z0;have v0:=L.v0;have t3:=L.t3;have a3:=L.a3;have z3:=L.z3;have v3:=L.v3;have t4:=L.t4;have a4:=L.a4;have z4:=L.z4;have v4:=L.v4;have tS:=L.tS;have aS:=L.aS;have zS:=L.zS;have vS:=L.vS;have tF:=L.tF;have aF:=L.aF;have zF:=L.zF;have vF:=L.vF;have tU:=L.tU;have aU:=L.aU;have zU:=L.zU;have vU:=L.vU;have aE:=L.aE;have zE:=L.zE);(have uS:=run_underlying L.tS;have u3:=run_underlying L.t3;have uU:=run_underlying L.tU);have estable:∀ args w,(callFunc 236 args).run P w = .ok (.enter 236 args) w:=enters_of L.fstable (by kernel_rfl) rfl;have einsertionSort:∀ args w,(callFunc 275 args).run P w = .ok (.enter 275 args) w:=enters_of L.finsertionSort (by kernel_rfl) rfl
 have hin:∀ w,Calls P 275 #[.slice none 0 0,.int .i64 0,.int .i64 0,F] w fun e w'=>e = .returned (.tuple #[])/\w'=w:=fun w=>by
  go_enter L.finsertionSort,Tryz.ntmps275;go_wp2_with fail;go_loopg [8] 0 (fun kx s8 wr=>s8 = .int .i64 1/\Hid (wr=w))
  case atStart=>exact ⟨rfl,rfl⟩
  case round =>
   obtain ⟨rfl,HW⟩:=hrel;go_wp2_with fail;go_end0;exact ⟨rfl,HW.out⟩
 have hst:Calls P 236 #[.slice none 0 0,.int .i64 0,F] w fun e w'=>e = .returned (.tuple #[])/\w'=w:=by
  go_enter L.fstable,Tryz.ntmps236;go_wp2_with fail;go_loopg [7,8] 0 (fun kx s7 s8 wr=>s7 = .int .i64 0/\s8 = .int .i64 20/\Hid (wr=w))
  case atStart=>exact ⟨rfl,rfl,rfl⟩
  case round =>
   obtain ⟨rfl,rfl,HW⟩:=hrel;go_wp2_with (go_at_fn 275;refine (hin _).mono ?_;rintro e9 w' ⟨rfl,rfl⟩);go_loopg [6] 0 (fun kx s6 wr9=>s6 = .int .i64 20/\Hid (wr9=w))
   case atStart=>exact ⟨rfl,HW⟩
   case round =>
    obtain ⟨rfl,HW9⟩:=hrel;go_wp2_with fail;go_end0;exact ⟨rfl,HW9.out⟩
 go_enter L.fsort,Tryz.ntmps194;go_wp2_with (go_at_fn 236;refine hst.mono ?_;rintro e9 w' ⟨rfl,rfl⟩);go_end0;exact ⟨rfl,rfl⟩
end
section
open Go.Shelf Go.RowKit Go.Lib Go.Sort
section
variable {α:Type} [Inhabited α] {enc:α->List Value} {k:Nat}
theorem qQk (hk:∀ x,(enc x).length=k) (d:Array α):(flatK enc k d).toList=d.toList.flatMap enc:=by
 (have hl:(d.toList.flatMap enc).length=d.size*k:=by rw [qCc enc k hk,Array.length_toList]);apply List.ext_getElem?;intro t
 by_cases ht:t<d.size*k
 . have hk0:0<k:=by
    cases k with
    | zero=>omega
    | succ k=>omega
   have hq:t / k<d.size:=Nat.div_lt_of_lt_mul (by rwa [Nat.mul_comm]);have hr:t % k<k:=Nat.mod_lt _ hk0;have h1:=qDr enc k hk d.toList (t / k) d[t / k]! (t % k) (qEo hq) hr;rw [Nat.div_add_mod' t k] at h1;rw [h1,qEo (by rw [size_flatK];exact ht),get_flatK enc k d t ht,List.getElem?_eq_getElem (by rw [hk];exact hr),getElem!_pos _ _ (by rw [hk];exact hr)]
 . rw [List.getElem?_eq_none (by rw [Array.length_toList,size_flatK];omega),List.getElem?_eq_none (by omega)]
variable {w W:World} {L g n c:Nat} {T:TypeId} {l:List α}
theorem zHl (hk:∀ x,(enc x).length=k) (h:w.ownsRow L T k (.slice (some ⟨g,0,none⟩) n c) n (l.flatMap enc)) (hl:l.length=n):HoldsK enc k w g 0 l.toArray:=by
 intro j hj;rw [size_flatK] at hj;(have hj':j<n*k:=by simpa [hl] using hj);have h1:=h.cellAt j hj';have h2:(flatK enc k l.toArray).toList[j]?=some (flatK enc k l.toArray)[j]!:=qEo (by rw [size_flatK];exact hj);rw [qQk hk] at h2;refine ⟨by rw [Nat.zero_add,h1];exact h2,?_⟩
 rcases h.2 with ⟨hv,hn⟩ | ⟨g',cap,cur,hv,hg,hb,-⟩
 . cases hv
 . cases hv
   simp [World.frozen?,hb]
theorem zLr {m:Nat} {os:Array Obj} {cur:Array Value} {e:TypeId} {fr:Nat × Nat} (d:Array α) (hb:w.heap[g]?=some (.cells cur e fr)) :
 (sortWorldK enc k w g 0 m d os).heap[g]?=some (.cells (putCells id 0 (flatK enc k d) cur) e fr):=by
 have hg:g<w.heap.size:=(Array.getElem?_eq_some_iff.1 hb).1;unfold sortWorldK;rw [heap_grow_old _ _ (by rw [size_putRowK];exact hg)];simp [putRowK,putRow,mapBlock,Sort.ahead,Array.getElem?_modify,hb,onCells]
theorem qWu (h:SWK enc k w g 0 l.toArray W):w.grownBy W (some g):=by
 obtain ⟨m,os,rfl⟩:=h;refine ⟨rfl,rfl,rfl,by unfold sortWorldK;rw [size_grow,size_putRowK];exact Nat.le_add_right _ _,fun q hq hne=>?_⟩;unfold sortWorldK;rw [heap_grow_old _ _ (by rw [size_putRowK];exact hq)];(have:g≠q:=fun e=>hne (by rw [e]));simp [putRowK,putRow,mapBlock,Sort.ahead,Array.getElem?_modify,this]
theorem zIp (cur:Array Value) (F:Array Value) (h:F.size<=cur.size):(putCells id 0 F cur).toList.take F.size=F.toList:=by
 apply List.ext_getElem?;intro j
 by_cases hj:j<F.size
 . rw [List.getElem?_take_of_lt hj,Array.getElem?_toList]
   simp [putCells,hj,show j<cur.size by omega]
 . rw [List.getElem?_take_eq_none (by omega),List.getElem?_eq_none (by simp;omega)]
theorem zPb (hk:∀ x,(enc x).length=k) {xs:List Value} (h:w.ownsRow L T k (.slice (some ⟨g,0,none⟩) n c) n xs) (hS:SWK enc k w g 0 l.toArray W) (hl:l.length=n):W.ownsRow L T k (.slice (some ⟨g,0,none⟩) n c) n (l.flatMap enc):=by
 refine ⟨by rw [qCc enc k hk,hl],?_⟩
 rcases h.2 with ⟨hv,hn⟩ | ⟨g',cap,cur,hv,hg,hb,hnc,hcm,hcs,ht⟩
 . cases hv
 . cases hv
   obtain ⟨m,os,rfl⟩:=hS;refine .inr ⟨g,c,_,rfl,hg,zLr _ hb,hnc,hcm,by simp [putCells,hcs],?_⟩;have h1:=zIp cur (flatK enc k l.toArray) (by rw [size_flatK];simp [hl,hcs];exact Nat.mul_le_mul_right _ hnc);rw [qQk hk,size_flatK] at h1;simpa [hl] using h1
end
theorem qQn {α:Type} {lt lt':α->α->Bool} (x:α):∀ (l:List α),(∀ y∈l,lt x y=lt' x y/\lt y x=lt' y x)->Stb.insS lt x l=Stb.insS lt' x l
 | [],_=>rfl
 | y :: l,h=>by
  have h1:=h y (by simp);unfold Stb.insS;rw [h1.1,qQn x l (fun z hz=>h z (by simp [hz]))]
theorem qZc {α:Type} {lt lt':α->α->Bool} {l:List α} (h:∀ p q,p∈l->q∈l->lt p q=lt' p q):Stb.sortS lt l=Stb.sortS lt' l:=by
 have key:∀ (l acc:List α),(∀ p q,(p∈l\/p∈acc)->(q∈l\/q∈acc)->lt p q=lt' p q)->l.foldl (fun acc x=>Stb.insS lt x acc) acc=l.foldl (fun acc x=>Stb.insS lt' x acc) acc:=by
  intro l
  induction l with
  | nil=>intro acc _;rfl
  | cons x l ih =>
   intro acc h;simp only [List.foldl_cons];rw [qQn x acc (fun y hy=>⟨h x y (.inl (by simp)) (.inr hy),h y x (.inr hy) (.inl (by simp))⟩)];refine ih _ (fun p q hp hq=>h p q ?_ ?_)
   . rcases hp with hp | hp
     . exact .inl (by simp [hp])
     . rcases (Stb.insS_mem x acc p).1 hp with rfl | hp
       . exact .inl (by simp)
       . exact .inr hp
   . rcases hq with hq | hq
     . exact .inl (by simp [hq])
     . rcases (Stb.insS_mem x acc q).1 hq with rfl | hq
       . exact .inl (by simp)
       . exact .inr hq
 exact key l [] (fun p q hp hq=>h p q (by simpa using hp) (by simpa using hq))
instance:Inhabited EH:=⟨⟨0,0,0,⟨#[]⟩,0,⟨#[]⟩,none,0,0⟩⟩
def cmpH (x y:EH):Int:=orI (cmpI x.inn y.inn) (cmpI x.id y.id)
def ltH (x y:EH):Bool:=decide (x.inn<y.inn\/x.inn=y.inn/\x.id<y.id)
theorem zGw (x y:EH):ltOf cmpH x y=ltH x y:=by
 unfold ltOf ltH cmpH orI cmpI
 congr 1
 apply propext
 repeat' split
 all_goals omega
theorem zMn:ltOf cmpH=ltH:=by funext x y;exact zGw x y
theorem zQt:Stb.SW ltH:=⟨fun x y h=>by unfold ltH at *;simp only [decide_eq_true_eq,decide_eq_false_iff_not] at *;omega,fun x y z h k=>by unfold ltH at *;simp only [decide_eq_false_iff_not] at *;omega⟩
theorem zKr:Stb.SW qDw:=⟨fun x y h=>by unfold qDw at *;simp only [decide_eq_true_eq,decide_eq_false_iff_not] at *;omega,fun x y z h k=>by unfold qDw at *;simp only [decide_eq_false_iff_not] at *;omega⟩
def srtE (l:List Ev):List Ev:=Stb.sortS qDw l
theorem qBs.sorted {w W:World} {L g n c:Nat} {l:List Ev} {hs hs':List EH} (h1:w.ownsRow L 54 7 (.slice (some ⟨g,0,none⟩) n c) n (hs.flatMap EH.vals)) (h2:hs.length=n) (h3:l.length=n) (h4:∀ (i:Nat) (h:EH) (e:Ev),hs[i]?=some h->l[i]?=some e->qFu w L h e)
 (hS:SWK EH.vals 7 w g 0 hs'.toArray W) (hh:hs'=Stb.sortS ltH hs):qBs W L (.slice (some ⟨g,0,none⟩) n c) n (srtE l):=by
 have hgr:=qWu hS;have hty:=qAt h1;have k1:KB 61 w W:=KB.grown hgr hty (by decide);have k2:KB 102 w W:=KB.grown hgr hty (by decide);(have hl':hs'.length=n:=by rw [hh,Stb.sortS_len,h2]);refine ⟨hs',zPb EH.len h1 hS hl',hl',by unfold srtE;rw [Stb.sortS_len,h3],fun i x e hx he=>?_⟩
 -- pairs
 have hz1:(hs.zip l).map Prod.fst=hs:=List.map_fst_zip (by omega);have hz2:(hs.zip l).map Prod.snd=l:=List.map_snd_zip (by omega)
 have hg:∀ p∈hs.zip l,qFu w L p.1 p.2:=by
  intro p hp;obtain ⟨j,hj⟩:=List.mem_iff_getElem?.1 hp;(have hj1:((hs.zip l).map Prod.fst)[j]?=some p.1:=by rw [List.getElem?_map,hj];rfl);(have hj2:((hs.zip l).map Prod.snd)[j]?=some p.2:=by rw [List.getElem?_map,hj];rfl);rw [hz1] at hj1;rw [hz2] at hj2;exact h4 j _ _ hj1 hj2
 have hs1:(Stb.sortS (fun p q:EH × Ev=>ltH p.1 q.1) (hs.zip l)).map Prod.fst=hs':=by rw [Stb.sortS_map (lt':=ltH) (fun x y=>rfl),hz1,hh]
 have hs2:Stb.sortS (fun p q:EH × Ev=>ltH p.1 q.1) (hs.zip l)=Stb.sortS (fun p q:EH × Ev=>qDw p.2 q.2) (hs.zip l):=by
  refine qZc (fun p q hp hq=>?_);have e1:=(hg p hp).1;have e2:=(hg q hq).1;unfold ltH qDw;rw [e1,e2];rfl
 (have hs3:(Stb.sortS (fun p q:EH × Ev=>ltH p.1 q.1) (hs.zip l)).map Prod.snd=srtE l:=by rw [hs2,Stb.sortS_map (lt':=qDw) (fun x y=>rfl),hz2];rfl);rw [← hs1,List.getElem?_map] at hx;rw [← hs3,List.getElem?_map] at he;obtain ⟨p,hp,rfl⟩:=Option.map_eq_some_iff.1 hx;rw [hp] at he;obtain rfl:=Option.some.inj he;exact (hg p ((Stb.sortS_mem _ _).1 (List.mem_of_getElem? hp))).kb k1 k2
end
end Go.Proofs.YtneffpbodfjceaaGreatDoor