/- Texts laid together. -/
import Derived.Test.YtneffpbodfjceaaGreatDoorTa09
import Derived.Sort.Grow
import Derived.Shelf.SlSortCmp.KitK
import Derived.Sort.WalkB2
import Derived.Sort.WalkB12
import Derived.Deep.LoopGhost
set_option linter.unusedVariables false
set_option linter.unusedSimpArgs false
set_option maxRecDepth 100000
set_option maxHeartbeats 16000000
namespace Go.Proofs.YtneffpbodfjceaaGreatDoor
end Go.Proofs.YtneffpbodfjceaaGreatDoor
namespace Go.Proofs.YtneffpbodfjceaaGreatDoor.Stb
section
variable {α:Type}
structure SW (lt:α->α->Bool):Prop where
 asym:∀ x y,lt x y=true->lt y x=false
 trans:∀ x y z,lt y x=false->lt z y=false->lt z x=false
def eqv (lt:α->α->Bool) (x y:α):Bool:=!lt x y && !lt y x
def swp (l:List α) (i j:Nat):List α:=match l[i]?,l[j]? with
 | some x,some y=>(l.set i y).set j x
 | _,_=>l
theorem zPc (l:List α) (i j:Nat):(swp l i j).length=l.length:=by
 unfold swp;split<;>simp
theorem qWv {l:List α} {i j:Nat} (hi:i<l.length) (hj:j<l.length) (p:Nat):(swp l i j)[p]?=if p=j then l[i]? else if p=i then l[j]? else l[p]?:=by
 unfold swp;rw [List.getElem?_eq_getElem hi,List.getElem?_eq_getElem hj];simp only;rw [List.getElem?_set,List.getElem?_set]
 by_cases h1:p=j
 . subst h1;simp [hj]
 . rw [if_neg (Ne.symm h1),if_neg h1]
   by_cases h2:p=i
   . subst h2;simp [hi]
   . rw [if_neg (Ne.symm h2),if_neg h2]
def rot (l:List α) (a m b:Nat):List α:=l.take a++((l.take b).drop m++((l.take m).drop a++l.drop b))
theorem qOl {l:List α} {a m b:Nat} (h1:a<=m) (h2:m<=b) (h3:b<=l.length):(rot l a m b).length=l.length:=by
 unfold rot;simp only [List.length_append,List.length_take,List.length_drop];omega
theorem qDt {l:List α} {a m b:Nat} (h1:a<=m) (h2:m<=b) (h3:b<=l.length) (p:Nat) :
 (rot l a m b)[p]?=if p<a then l[p]? else if p<a+(b-m) then l[p+(m-a)]? else if p<b then l[p-(b-m)]? else l[p]?:=by
 unfold rot;simp only [List.getElem?_append,List.length_take,List.length_drop,List.getElem?_take,List.getElem?_drop]
 by_cases c1:p<a
 . rw [if_pos (by omega),if_pos c1,if_pos c1]
 rw [if_neg (by omega),if_neg c1]
 by_cases c2:p<a+(b-m)
 . rw [if_pos (by omega),if_pos (by omega),if_pos c2];congr 1;omega
 rw [if_neg (by omega),if_neg c2]
 by_cases c3:p<b
 . rw [if_pos (by omega),if_pos (by omega),if_pos c3];congr 1;omega
 . rw [if_neg (by omega),if_neg c3];congr 1;omega
theorem rot_nil (l:List α) (a b:Nat) (h:a<=b) (hb:b<=l.length):rot l a a b=l:=by
 (apply List.ext_getElem?;intro p);rw [qDt (Nat.le_refl _) h hb]
 repeat' split
 all_goals first | rfl | (congr 1;omega)
theorem rot_nil' (l:List α) (a b:Nat) (h:a<=b) (hb:b<=l.length):rot l a b b=l:=by
 (apply List.ext_getElem?;intro p);rw [qDt h (Nat.le_refl _) hb]
 repeat' split
 all_goals first | rfl | (congr 1;omega)
theorem rot_up {l:List α} {a k:Nat} (h1:a<=k) (h2:k+1<l.length):swp (rot l a (a+1) (k+1)) k (k+1)=rot l a (a+1) (k+2):=by
 (apply List.ext_getElem?;intro p);rw [qWv (by rw [qOl (by omega) (by omega) (by omega)];omega) (by rw [qOl (by omega) (by omega) (by omega)];omega),qDt (by omega) (by omega) (by omega),qDt (by omega) (by omega) (by omega),qDt (by omega) (by omega) (by omega),qDt (by omega) (by omega) (by omega)]
 repeat' split
 all_goals first | rfl | (congr 1;omega) | (exfalso;omega)
theorem rot_down {l:List α} {m k:Nat} (h0:0<k) (h1:k<=m) (h2:m<l.length):swp (rot l k m (m+1)) k (k-1)=rot l (k-1) m (m+1):=by
 (apply List.ext_getElem?;intro p);rw [qWv (by rw [qOl (by omega) (by omega) (by omega)];omega) (by rw [qOl (by omega) (by omega) (by omega)];omega),qDt (by omega) (by omega) (by omega),qDt (by omega) (by omega) (by omega),qDt (by omega) (by omega) (by omega),qDt (by omega) (by omega) (by omega)]
 repeat' split
 all_goals first | rfl | (congr 1;omega) | (exfalso;omega)
def swr (l:List α) (a b:Nat):Nat->List α
 | 0=>l
 | n+1=>swp (swr l a b n) (a+n) (b+n)
theorem qTl (l:List α) (a b n:Nat):(swr l a b n).length=l.length:=by
 induction n with
 | zero=>rfl
 | succ n ih=>rw [swr,zPc,ih]
theorem qOy {l:List α} {a b n:Nat} (h1:a+n<=b) (h2:b+n<=l.length) (p:Nat) :
 (swr l a b n)[p]?=if a<=p/\p<a+n then l[p-a+b]? else if b<=p/\p<b+n then l[p-b+a]? else l[p]?:=by
 induction n generalizing p with
 | zero =>
  rw [swr,if_neg (by omega),if_neg (by omega)]
 | succ n ih =>
  rw [swr,qWv (by rw [qTl];omega) (by rw [qTl];omega),ih (by omega) (by omega),ih (by omega) (by omega),ih (by omega) (by omega)]
  repeat' split
  all_goals first | rfl | (congr 1;omega) | (exfalso;omega)
theorem rot_gt {l:List α} {m i j:Nat} (h1:i<=m) (h2:j<i) (h3:m+j<=l.length):rot (swr l (m-i) m j) (m-(i-j)) m (m+j)=rot l (m-i) m (m+j):=by
 (apply List.ext_getElem?;intro p);rw [qDt (by omega) (by omega) (by rw [qTl];omega),qDt (by omega) (by omega) (by omega),qOy (by omega) (by omega),qOy (by omega) (by omega),qOy (by omega) (by omega)]
 repeat' split
 all_goals first | rfl | (congr 1;omega) | (exfalso;omega)
theorem rot_lt {l:List α} {m i j:Nat} (h1:i<=m) (h2:i<j) (h3:m+j<=l.length):rot (swr l (m-i) (m+j-i) i) (m-i) m (m+(j-i))=rot l (m-i) m (m+j):=by
 (apply List.ext_getElem?;intro p);rw [qDt (by omega) (by omega) (by rw [qTl];omega),qDt (by omega) (by omega) (by omega),qOy (by omega) (by omega),qOy (by omega) (by omega),qOy (by omega) (by omega)]
 repeat' split
 all_goals first | rfl | (congr 1;omega) | (exfalso;omega)
theorem rot_eq {l:List α} {m i:Nat} (h1:i<=m) (h3:m+i<=l.length):swr l (m-i) m i=rot l (m-i) m (m+i):=by
 (apply List.ext_getElem?;intro p);rw [qDt (by omega) (by omega) (by omega),qOy (by omega) (by omega)]
 repeat' split
 all_goals first | rfl | (congr 1;omega) | (exfalso;omega)
structure Loc (lt:α->α->Bool) (a b:Nat) (l l':List α):Prop where
 len:l'.length=l.length
 out:∀ p,p<a\/b<=p->l'[p]?=l[p]?
 cls:∀ k,l'.filter (eqv lt k)=l.filter (eqv lt k)
variable {lt:α->α->Bool} {a b c d m:Nat} {l l' l2:List α}
theorem Loc.refl (l:List α):Loc lt a b l l:=⟨rfl,fun _ _=>rfl,fun _=>rfl⟩
theorem Loc.trans (h:Loc lt a b l l') (k:Loc lt a b l' l2):Loc lt a b l l2:=⟨k.len.trans h.len,fun p hp=>(k.out p hp).trans (h.out p hp),fun x=>(k.cls x).trans (h.cls x)⟩
theorem Loc.wide (h:Loc lt a b l l') (h1:c<=a) (h2:b<=d):Loc lt c d l l':=⟨h.len,fun p hp=>h.out p (by omega),h.cls⟩
theorem SW.irr (w:SW lt) (x:α):lt x x=false:=by
 cases h:lt x x
 . rfl
 . have:=w.asym x x h;rw [h] at this;exact this
theorem qFx (w:SW lt) (x:α):eqv lt x x=true:=by
 simp [eqv,w.irr x]
theorem qVf (w:SW lt) {k x y:α} (h1:eqv lt k x=true) (h2:eqv lt k y=true):lt x y=false/\lt y x=false:=by
 simp only [eqv,Bool.and_eq_true,Bool.not_eq_true'] at h1 h2;exact ⟨w.trans y k x h2.1 h1.2,w.trans x k y h1.1 h2.2⟩
theorem Loc.rot (w:SW lt) (h1:a<=m) (h2:m<=b) (h3:b<=l.length) (hne:∀ p q x y,a<=p->p<m->m<=q->q<b->l[p]?=some x->l[q]?=some y->lt y x=true):Loc lt a b l (rot l a m b):=by
 refine ⟨qOl h1 h2 h3,fun p hp=>?_,fun k=>?_⟩
 . rw [qDt h1 h2 h3]
   rcases hp with hp | hp
   . rw [if_pos hp]
   . rw [if_neg (by omega),if_neg (by omega),if_neg (by omega)]
 . have e:l=l.take a++((l.take m).drop a++((l.take b).drop m++l.drop b)):=by
    (apply List.ext_getElem?;intro p);simp only [List.getElem?_append,List.length_take,List.length_drop,List.getElem?_take,List.getElem?_drop]
    repeat' split
    all_goals first | rfl | (congr 1;omega) | (exfalso;omega)
   unfold Stb.rot
   conv=>rhs;rw [e]
   simp only [List.filter_append]
   congr 1
   rw [← List.append_assoc,← List.append_assoc]
   congr 1
   have key:(((l.take m).drop a).filter (eqv lt k))=[]\/(((l.take b).drop m).filter (eqv lt k))=[]:=by
    by_cases hu:(((l.take m).drop a).filter (eqv lt k))=[]
    . exact .inl hu
    right
    obtain ⟨x,hx⟩:=List.exists_mem_of_ne_nil _ hu;rw [List.mem_filter] at hx;rw [List.filter_eq_nil_iff];intro y hy hk;obtain ⟨p,hp⟩:=List.getElem?_of_mem hx.1;obtain ⟨q,hq⟩:=List.getElem?_of_mem hy;rw [List.getElem?_drop,List.getElem?_take] at hp hq
    split at hp
    . split at hq
      . have:=hne _ _ x y (by omega) (by omega) (by omega) (by omega) hp hq
        rw [(qVf w hx.2 hk).2] at this
        cases this
      . cases hq
    . cases hp
   rcases key with h | h<;>rw [h]<;>simp
theorem Loc.mem (w:SW lt) (h:Loc lt a b l l') {p:Nat} {x:α} (hp:a<=p) (hp2:p<b) (hx:l'[p]?=some x):∃ q,a<=q/\q<b/\l[q]?=some x:=by
 have hl:=(List.getElem?_eq_some_iff.1 hx).1;(have hab:a<=b:=by omega)
 have e:∀ s:List α,s=s.take a++((s.take b).drop a++s.drop b):=fun s=>by
  (have h1:(s.take b).take a=s.take a:=by rw [List.take_take,Nat.min_eq_left hab]);rw [← List.append_assoc,← h1,List.take_append_drop,List.take_append_drop]
 have e1:l'.take a=l.take a:=by
  (apply List.ext_getElem?;intro p);simp only [List.getElem?_take]
  split
  . exact h.out p (by omega)
  . rfl
 have e2:l'.drop b=l.drop b:=by
  (apply List.ext_getElem?;intro p);simp only [List.getElem?_drop];exact h.out _ (by omega)
 have hc:=h.cls x;rw [e l',e l,e1,e2] at hc;simp only [List.filter_append] at hc;have hc:=List.append_cancel_right (List.append_cancel_left hc)
 have hm:x∈((l'.take b).drop a).filter (eqv lt x):=by
  rw [List.mem_filter];refine ⟨List.mem_of_getElem? (i:=p-a) ?_,qFx w x⟩;rw [List.getElem?_drop,List.getElem?_take,if_pos (by omega)];(rw [show a+(p-a)=p by omega];exact hx)
 rw [hc,List.mem_filter] at hm;obtain ⟨q,hq⟩:=List.getElem?_of_mem hm.1;rw [List.getElem?_drop,List.getElem?_take] at hq
 split at hq
 . exact ⟨a+q,by omega,by omega,hq⟩
 . cases hq
def Srt (lt:α->α->Bool) (l:List α) (a b:Nat):Prop:=∀ p q x y,a<=p->p<q->q<b->l[p]?=some x->l[q]?=some y->lt y x=false
theorem Srt.one (h:b<=a+1):Srt lt l a b:=fun p q x y h1 h2 h3=>by omega
theorem Srt.of_out (h:Srt lt l a b) (k:Loc lt c d l l') (hd:b<=c\/d<=a):Srt lt l' a b:=fun p q x y h1 h2 h3 h4 h5 =>
 h p q x y h1 h2 h3 (by rw [← k.out p (by omega)];exact h4) (by rw [← k.out q (by omega)];exact h5)
def Ins (lt:α->α->Bool) (l:List α) (a j i:Nat):Prop:=∀ p q x y,a<=p->p<q->q<=i->q≠j->l[p]?=some x->l[q]?=some y->lt y x=false
theorem Ins.start {i:Nat} (h:Srt lt l a i):Ins lt l a i i:=fun p q x y h1 h2 h3 h4=>h p q x y h1 h2 (by omega)
theorem Ins.step (w:SW lt) {i j:Nat} {x y:α} (h:Ins lt l a j i) (h1:a<j) (h2:j<=i) (h3:i<l.length) (hx:l[j-1]?=some x) (hy:l[j]?=some y) (hlt:lt y x=true):Ins lt (swp l j (j-1)) a (j-1) i:=by
 intro p q u v hp hpq hq hne hu hv;rw [qWv (by omega) (by omega)] at hu hv
 by_cases q1:q=j
 . subst q1
   rw [if_neg (by omega),if_pos rfl] at hv
   by_cases p1:p=q-1
   . subst p1
     rw [if_pos rfl] at hu;(rw [hu] at hy;cases hy);(rw [hv] at hx;cases hx);exact w.asym _ _ hlt
   . rw [if_neg p1,if_neg (by omega)] at hu
     exact h p (q-1) u v hp (by omega) (by omega) (by omega) hu hv
 . rw [if_neg hne,if_neg q1] at hv
   by_cases p1:p=j-1
   . subst p1
     rw [if_pos rfl] at hu;exact h j q u v (by omega) (by omega) hq q1 hu hv
   . rw [if_neg p1] at hu
     by_cases p2:p=j
     . subst p2
       rw [if_pos rfl] at hu;exact h (p-1) q u v (by omega) (by omega) hq q1 hu hv
     . rw [if_neg p2] at hu
       exact h p q u v hp hpq hq q1 hu hv
theorem Ins.end_ {i j:Nat} (w:SW lt) (h:Ins lt l a j i) (hi:i<l.length) (hj:j<=i) (hlt:j<=a\/∀ x y,l[j-1]?=some x->l[j]?=some y->lt y x=false):Srt lt l a (i+1):=by
 intro p q x y h1 h2 h3 hx hy
 by_cases hq:q=j
 . subst hq
   rcases hlt with hlt | hlt
   . omega
   . by_cases hp:p=q-1
     . subst hp;exact hlt x y hx hy
     . obtain ⟨z,hz⟩:∃ z,l[q-1]?=some z:=⟨_,List.getElem?_eq_getElem (by omega)⟩
       exact w.trans x z y (h p (q-1) x z h1 (by omega) (by omega) (by omega) hx hz) (hlt z y hz hy)
 . exact h p q x y h1 h2 (by omega) hq hx hy
theorem zPd {j:Nat} (h0:0<j) (h:j<l.length):swp l j (j-1)=rot l (j-1) j (j+1):=by
 (apply List.ext_getElem?;intro p);rw [qWv (by omega) (by omega),qDt (by omega) (by omega) (by omega)]
 repeat' split
 all_goals first | rfl | (congr 1;omega) | (exfalso;omega)
theorem Loc.swap (w:SW lt) {j:Nat} {x y:α} (h0:0<j) (h:j<l.length) (hx:l[j-1]?=some x) (hy:l[j]?=some y) (hlt:lt y x=true):Loc lt (j-1) (j+1) l (swp l j (j-1)):=by
 rw [zPd h0 h];(refine Loc.rot w (by omega) (by omega) (by omega) fun p q u v h1 h2 h3 h4 hu hv=>?_);(obtain rfl:p=j-1:=by omega);(obtain rfl:q=j:=by omega);(rw [hx] at hu;cases hu);(rw [hy] at hv;cases hv);exact hlt
theorem merge_left (w:SW lt) {i:Nat} {x:α} (hs:Srt lt l (a+1) b) (hx:l[a]?=some x) (h1:a+1<=i) (h2:i<=b) (h3:b<=l.length) (hlo:∀ q y,a+1<=q->q<i->l[q]?=some y->lt y x=true) (hhi:∀ q y,i<=q->q<b->l[q]?=some y->lt y x=false) :
 Loc lt a b l (rot l a (a+1) i)/\Srt lt (rot l a (a+1) i) a b:=by
 refine ⟨(Loc.rot w (by omega) h1 (by omega) fun p q u v a1 a2 a3 a4 hu hv=>?_).wide (Nat.le_refl _) h2,fun p q u v a1 a2 a3 hu hv=>?_⟩
 . obtain rfl:p=a:=by omega
   (rw [hx] at hu;cases hu);exact hlo q v a3 a4 hv
 . rw [qDt (by omega) h1 (by omega)] at hu hv
   rw [if_neg (by omega)] at hu hv;(have e:∀ p:Nat,l[p+(a+1-a)]?=l[p+1]?:=fun p=>by congr 1;omega);rw [e] at hu hv
   by_cases c1:q<a+(i-(a+1))
   . rw [if_pos c1] at hv;rw [if_pos (by omega)] at hu
     exact hs _ _ u v (by omega) (by omega) (by omega) hu hv
   rw [if_neg c1] at hv
   by_cases c2:q<i
   . rw [if_pos c2] at hv
     (have hqa:q-(i-(a+1))=a:=by omega);(rw [hqa,hx] at hv;cases hv);rw [if_pos (by omega)] at hu;exact w.asym _ _ (hlo _ u (by omega) (by omega) hu)
   rw [if_neg c2] at hv
   by_cases d1:p<a+(i-(a+1))
   . rw [if_pos d1] at hu
     exact hs _ _ u v (by omega) (by omega) (by omega) hu hv
   rw [if_neg d1] at hu
   by_cases d2:p<i
   . rw [if_pos d2] at hu
     (have hpa:p-(i-(a+1))=a:=by omega);(rw [hpa,hx] at hu;cases hu);exact hhi q v (by omega) (by omega) hv
   . rw [if_neg d2] at hu
     exact hs _ _ u v (by omega) (by omega) (by omega) hu hv
theorem merge_right (w:SW lt) {i:Nat} {x:α} (hs:Srt lt l a m) (hx:l[m]?=some x) (h1:a<=i) (h2:i<=m) (h3:m<l.length) (hlo:∀ q y,a<=q->q<i->l[q]?=some y->lt x y=false) (hhi:∀ q y,i<=q->q<m->l[q]?=some y->lt x y=true) :
 Loc lt a (m+1) l (rot l i m (m+1))/\Srt lt (rot l i m (m+1)) a (m+1):=by
 refine ⟨(Loc.rot w h2 (by omega) (by omega) fun p q u v a1 a2 a3 a4 hu hv=>?_).wide h1 (Nat.le_refl _),fun p q u v a1 a2 a3 hu hv=>?_⟩
 . obtain rfl:q=m:=by omega
   (rw [hx] at hv;cases hv);exact hhi p u a1 a2 hu
 . rw [qDt h2 (by omega) (by omega)] at hu hv
   (have e:m+1-m=1:=by omega);rw [e] at hu hv
   by_cases c1:q<i
   . rw [if_pos c1] at hv;rw [if_pos (by omega)] at hu
     exact hs _ _ u v a1 a2 (by omega) hu hv
   rw [if_neg c1] at hv
   by_cases c2:q<i+1
   . rw [if_pos c2] at hv
     (have hqa:q+(m-i)=m:=by omega);(rw [hqa,hx] at hv;cases hv);rw [if_pos (by omega)] at hu;exact hlo _ u (by omega) (by omega) hu
   rw [if_neg c2,if_pos (by omega)] at hv
   by_cases d1:p<i
   . rw [if_pos d1] at hu
     exact hs _ _ u v (by omega) (by omega) (by omega) hu hv
   rw [if_neg d1] at hu
   by_cases d2:p<i+1
   . rw [if_pos d2] at hu
     (have hpa:p+(m-i)=m:=by omega);(rw [hpa,hx] at hu;cases hu);exact w.asym _ _ (hhi (q-1) v (by omega) (by omega) hv)
   . rw [if_neg d2,if_pos (by omega)] at hu
     exact hs _ _ u v (by omega) (by omega) (by omega) hu hv
structure Cut (lt:α->α->Bool) (l:List α) (a m b mid s:Nat):Prop where
 ge:a<=s
 lem:s<=m
 mide:mid+m-s<=b
 le:m<=mid+m-s
 mid_ge:s<=mid
 lo:∀ x y,a<s->l[s-1]?=some x->l[mid+m-s]?=some y->mid+m-s<b->lt y x=false
 hi:∀ x y,s<m->m<mid+m-s->l[s]?=some x->l[mid+m-s-1]?=some y->lt y x=true
theorem Cut.rot (w:SW lt) {mid s:Nat} (h:Cut lt l a m b mid s) (h3:b<=l.length) (s1:Srt lt l a m) (s2:Srt lt l m b):Loc lt a b l (rot l s m (mid+m-s))/\Srt lt (rot l s m (mid+m-s)) a s/\Srt lt (rot l s m (mid+m-s)) s mid /\
 Srt lt (rot l s m (mid+m-s)) mid (mid+m-s)/\Srt lt (rot l s m (mid+m-s)) (mid+m-s) b /\
 ∀ p q x y,a<=p->p<mid->mid<=q->q<b->(rot l s m (mid+m-s))[p]?=some x->(rot l s m (mid+m-s))[q]?=some y->lt y x=false:=by
 obtain ⟨g1,g2,g3,g4,g5,lo,hi⟩:=h
 have hle:∀ p q x y,s<=p->p<m->m<=q->q<mid+m-s->l[p]?=some x->l[q]?=some y->lt y x=true:=fun p q x y h1 h2 h3' h4 hx hy=>by
  obtain ⟨u,hu⟩:∃ u,l[s]?=some u:=⟨_,List.getElem?_eq_getElem (by omega)⟩;obtain ⟨v,hv⟩:∃ v,l[mid+m-s-1]?=some v:=⟨_,List.getElem?_eq_getElem (by omega)⟩;have huv:=hi u v (by omega) (by omega) hu hv
  have hux:lt x u=false:=by
   by_cases hp:p=s
   . subst hp;rw [hu] at hx;cases hx;exact w.irr _
   . exact s1 s p u x g1 (by omega) h2 hu hx
  have hyv:lt v y=false:=by
   by_cases hq:q=mid+m-s-1
   . subst hq;rw [hv] at hy;cases hy;exact w.irr _
   . exact s2 q _ y v h3' (by omega) (by omega) hy hv
  cases hyx:lt y x
  . have h1:=w.trans x y v hyx hyv
    have h2:=w.trans u x v hux h1;(rw [huv] at h2;exact h2.symm)
  . rfl
 have hat:=qDt (l:=l) g2 g4 (by omega);refine ⟨(Loc.rot w g2 g4 (by omega) hle).wide g1 g3,?_,?_,?_,?_,?_⟩
 . intro p q x y h1 h2 h3 hx hy
   rw [hat,if_pos (by omega)] at hx hy;exact s1 p q x y h1 h2 (by omega) hx hy
 . intro p q x y h1 h2 h3 hx hy
   rw [hat,if_neg (by omega),if_pos (by omega)] at hx hy;exact s2 _ _ x y (by omega) (by omega) (by omega) hx hy
 . intro p q x y h1 h2 h3 hx hy
   rw [hat,if_neg (by omega),if_neg (by omega),if_pos (by omega)] at hx hy;exact s1 _ _ x y (by omega) (by omega) (by omega) hx hy
 . intro p q x y h1 h2 h3 hx hy
   rw [hat,if_neg (by omega),if_neg (by omega),if_neg (by omega)] at hx hy;exact s2 p q x y (by omega) h2 h3 hx hy
 . intro p q x y h1 h2 h3 h4 hx hy
   rw [hat] at hx hy;rw [if_neg (by omega),if_neg (by omega)] at hy
   by_cases c1:p<s
   . rw [if_pos c1] at hx
     by_cases c2:q<mid+m-s
     . rw [if_pos c2] at hy
       exact s1 _ _ x y h1 (by omega) (by omega) hx hy
     . rw [if_neg c2] at hy
       obtain ⟨u,hu⟩:∃ u,l[s-1]?=some u:=⟨_,List.getElem?_eq_getElem (by omega)⟩;obtain ⟨v,hv⟩:∃ v,l[mid+m-s]?=some v:=⟨_,List.getElem?_eq_getElem (by omega)⟩;have huv:=lo u v (by omega) hu hv (by omega)
       have hxu:lt u x=false:=by
        by_cases hp:p=s-1
        . subst hp;rw [hu] at hx;cases hx;exact w.irr _
        . exact s1 p _ x u h1 (by omega) (by omega) hx hu
       have hvy:lt y v=false:=by
        by_cases hq:q=mid+m-s
        . subst hq;rw [hv] at hy;cases hy;exact w.irr _
        . exact s2 _ q v y (by omega) (by omega) h4 hv hy
       exact w.trans x v y (w.trans x u v hxu huv) hvy
   . rw [if_neg c1,if_pos (by omega)] at hx
     by_cases c2:q<mid+m-s
     . rw [if_pos c2] at hy
       exact w.asym _ _ (hle _ _ y x (by omega) (by omega) (by omega) (by omega) hy hx)
     . rw [if_neg c2] at hy
       exact s2 _ _ x y (by omega) (by omega) h4 hx hy
theorem Srt.join (w:SW lt) {mid:Nat} (k1:Loc lt a mid l l') (k2:Loc lt mid b l' l2) (s1:Srt lt l' a mid) (s2:Srt lt l2 mid b) (h1:a<=mid) (h2:mid<=b)
 (hc:∀ p q x y,a<=p->p<mid->mid<=q->q<b->l[p]?=some x->l[q]?=some y->lt y x=false):Loc lt a b l l2/\Srt lt l2 a b:=by
 refine ⟨(k1.wide (Nat.le_refl _) h2).trans (k2.wide h1 (Nat.le_refl _)),fun p q x y a1 a2 a3 hx hy=>?_⟩
 by_cases hq:q<mid
 . exact (s1.of_out k2 (.inl (Nat.le_refl _))) p q x y a1 a2 hq hx hy
 by_cases hp:mid<=p
 . exact s2 p q x y hp a2 a3 hx hy
 rw [k2.out p (by omega)] at hx;obtain ⟨p',hp1,hp2,hx'⟩:=k1.mem w a1 (by omega) hx;obtain ⟨q',hq1,hq2,hy'⟩:=k2.mem w (by omega) a3 hy;rw [k1.out q' (by omega)] at hy';exact hc p' q' x y hp1 hp2 hq1 hq2 hx' hy'
inductive Bl (lt:α->α->Bool) (l:List α) (B n:Nat):Nat->Prop
 | nil {a:Nat}:n<=a->Bl lt l B n a
 | cons {a:Nat}:Srt lt l a (min (a+B) n)->Bl lt l B n (a+B)->Bl lt l B n a
inductive Up (lt:α->α->Bool) (l:List α) (B:Nat):Nat->Prop
 | nil:Up lt l B 0
 | snoc {a:Nat}:Up lt l B a->Srt lt l a (a+B)->Up lt l B (a+B)
theorem Bl.out {B n e:Nat} (h:Bl lt l B n e) (k:Loc lt c d l l') (hd:d<=e):Bl lt l' B n e:=by
 induction h with
 | nil h=>exact .nil h
 | cons h1 _ ih=>exact .cons (h1.of_out k (.inr hd)) (ih (by omega))
theorem Up.out {B e:Nat} (h:Up lt l B e) (k:Loc lt c d l l') (hd:e<=c):Up lt l' B e:=by
 induction h with
 | nil=>exact .nil
 | snoc _ h2 ih=>exact .snoc (ih (by omega)) (h2.of_out k (.inl hd))
theorem Up.join {B n e:Nat} (h:Up lt l B e) (k:Bl lt l B n e) (he:e<=n):Bl lt l B n 0:=by
 induction h with
 | nil=>exact k
 | snoc h1 h2 ih=>exact ih (.cons (by rw [Nat.min_eq_left he];exact h2) k) (by omega)
theorem Bl.head {B n e:Nat} (h:Bl lt l B n e) (he:e<n):Srt lt l e (min (e+B) n)/\Bl lt l B n (e+B):=by
 cases h with
 | nil h=>omega
 | cons h1 h2=>exact ⟨h1,h2⟩
theorem Bl.all {B n:Nat} (h:Bl lt l B n 0) (hB:n<=B):Srt lt l 0 n:=by
 by_cases h0:0<n
 . have:=(h.head h0).1
   rwa [Nat.zero_add,Nat.min_eq_right hB] at this
 . exact Srt.one (by omega)
theorem qWs (w:SW lt):∀ (l l':List α),l.Pairwise (fun x y=>lt y x=false)->l'.Pairwise (fun x y=>lt y x=false)->(∀ k,l'.filter (eqv lt k)=l.filter (eqv lt k))->l'=l
 | [],[],_,_,_=>rfl
 | [],y :: l',_,_,h=>by have:=h y;rw [List.filter_cons,if_pos (qFx w y)] at this;simp at this
 | x :: l,[],_,_,h=>by have:=h x;rw [List.filter_cons,if_pos (qFx w x)] at this;simp at this
 | x :: l,y :: l',h1,h2,h=>by
  rw [List.pairwise_cons] at h1 h2
  have hxy:lt y x=false:=by
   (have hm:y∈(x :: l).filter (eqv lt y):=by rw [← h y];exact List.mem_filter.2 ⟨List.mem_cons_self ..,qFx w y⟩);rw [List.mem_filter] at hm
   rcases List.mem_cons.1 hm.1 with e | e
   . subst e;have:=qFx w y;simp [eqv] at this;exact this
   . exact h1.1 y e
  have hyx:lt x y=false:=by
   (have hm:x∈(y :: l').filter (eqv lt x):=by rw [h x];exact List.mem_filter.2 ⟨List.mem_cons_self ..,qFx w x⟩);rw [List.mem_filter] at hm
   rcases List.mem_cons.1 hm.1 with e | e
   . subst e;have:=qFx w x;simp [eqv] at this;exact this
   . exact h2.1 x e
  have he:x=y:=by
   have:=h x;rw [List.filter_cons,List.filter_cons,if_pos (qFx w x),if_pos (show eqv lt x y=true by simp [eqv,hxy,hyx])] at this;exact (List.cons.inj this).1.symm
  subst he
  congr 1
  (refine qWs w l l' h1.2 h2.2 fun k=>?_);have:=h k;rw [List.filter_cons,List.filter_cons] at this
  split at this
  . exact (List.cons.inj this).2
  . exact this
def insS (lt:α->α->Bool) (x:α):List α->List α
 | []=>[x]
 | y :: l=>if lt x y=true then x :: y :: l else y :: insS lt x l
def sortS (lt:α->α->Bool) (l:List α):List α:=l.foldl (fun acc x=>insS lt x acc) []
theorem insS_mem (x:α):∀ (l:List α) (z:α),z∈insS lt x l↔z=x\/z∈l
 | [],z=>by simp [insS]
 | y :: l,z=>by
  unfold insS
  split
  . simp
  . simp only [List.mem_cons,insS_mem x l z];constructor<;>(rintro (h | h | h)<;>simp [h])
theorem qNz (w:SW lt) (x:α):∀ (l:List α),l.Pairwise (fun x y=>lt y x=false)->(insS lt x l).Pairwise (fun x y=>lt y x=false)
 | [],_=>by simp [insS]
 | y :: l,h=>by
  rw [List.pairwise_cons] at h;unfold insS
  split
  . rename_i hlt
    rw [List.pairwise_cons,List.pairwise_cons];refine ⟨fun z hz=>?_,h⟩
    rcases List.mem_cons.1 hz with rfl | hz
    . exact w.asym _ _ hlt
    . exact w.trans x y z (w.asym _ _ hlt) (h.1 z hz)
  . rename_i hlt
    rw [List.pairwise_cons];refine ⟨fun z hz=>?_,qNz w x l h.2⟩
    rcases (insS_mem x l z).1 hz with rfl | hz
    . simpa using hlt
    . exact h.1 z hz
theorem qZx (w:SW lt) (x k:α):∀ (l:List α),(insS lt x l).filter (eqv lt k)=l.filter (eqv lt k)++[x].filter (eqv lt k)\/¬ l.Pairwise (fun x y=>lt y x=false)
 | []=>.inl rfl
 | y :: l=>by
  by_cases hp:(y :: l).Pairwise (fun x y=>lt y x=false)
  case neg=>exact .inr hp
  left
  have hp':=List.pairwise_cons.1 hp;unfold insS
  split
  . rename_i hlt
    by_cases hk:eqv lt k x=true
    . have hnil:(y :: l).filter (eqv lt k)=[]:=by
       rw [List.filter_eq_nil_iff];intro z hz hkz;have hxz:=(qVf w hk hkz).1
       rcases List.mem_cons.1 hz with rfl | hz
       . rw [hlt] at hxz;cases hxz
       . have h1:=hp'.1 z hz
         have h2:=w.trans y z x h1 hxz;(rw [hlt] at h2;cases h2)
      rw [List.filter_cons,if_pos hk,hnil];simp [List.filter_cons,hk]
    . rw [List.filter_cons,if_neg hk]
      simp [hk]
  . have ih:=(qZx w x k l).resolve_right (fun h=>h hp'.2)
    rw [List.filter_cons,List.filter_cons,ih]
    split<;>simp
theorem sortS_spec (w:SW lt) (l:List α):(sortS lt l).Pairwise (fun x y=>lt y x=false)/\∀ k,(sortS lt l).filter (eqv lt k)=l.filter (eqv lt k):=by
 have key:∀ (l acc pre:List α),acc.Pairwise (fun x y=>lt y x=false)->(∀ k,acc.filter (eqv lt k)=pre.filter (eqv lt k)) ->
  (l.foldl (fun acc x=>insS lt x acc) acc).Pairwise (fun x y=>lt y x=false)/\∀ k,(l.foldl (fun acc x=>insS lt x acc) acc).filter (eqv lt k)=(pre++l).filter (eqv lt k):=by
  intro l
  induction l with
  | nil=>intro acc pre h1 h2;exact ⟨h1,fun k=>by simpa using h2 k⟩
  | cons x l ih =>
   intro acc pre h1 h2
   have:=ih (insS lt x acc) (pre++[x]) (qNz w x acc h1) (fun k=>by
    rw [(qZx w x k acc).resolve_right (fun h=>h h1),h2 k,List.filter_append])
   refine ⟨this.1,fun k=>?_⟩;(rw [List.foldl_cons,this.2 k];simp)
 simpa [sortS] using key l [] [] List.Pairwise.nil (fun _=>rfl)
theorem qWr (h:Srt lt l 0 l.length):l.Pairwise (fun x y=>lt y x=false):=by
 rw [List.pairwise_iff_getElem];intro i j hi hj hij;exact h i j _ _ (Nat.zero_le _) hij hj (List.getElem?_eq_getElem hi) (List.getElem?_eq_getElem hj)
theorem stab_sort (w:SW lt) (k:Loc lt a b l l') (h:Srt lt l' 0 l'.length):l'=sortS lt l :=
 qWs w _ _ (sortS_spec w l).1 (qWr h) fun x=>by rw [k.cls x,(sortS_spec w l).2 x]
theorem qZy (x:α):∀ l:List α,(insS lt x l).length=l.length+1
 | []=>rfl
 | y :: l=>by unfold insS;split<;>simp [qZy x l]
theorem sortS_len (l:List α):(sortS lt l).length=l.length:=by
 have key:∀ (l acc:List α),(l.foldl (fun acc x=>insS lt x acc) acc).length=acc.length+l.length:=by
  intro l
  induction l with
  | nil=>intro acc;rfl
  | cons x l ih=>intro acc;rw [List.foldl_cons,ih,qZy,List.length_cons];omega
 simpa [sortS] using key l []
theorem sortS_mem (l:List α) (z:α):z∈sortS lt l↔z∈l:=by
 have key:∀ (l acc:List α),z∈l.foldl (fun acc x=>insS lt x acc) acc↔z∈acc\/z∈l:=by
  intro l
  induction l with
  | nil=>intro acc;simp
  | cons x l ih=>intro acc;rw [List.foldl_cons,ih,insS_mem,List.mem_cons,or_comm (a:=z=x),or_assoc]
 simpa [sortS] using key l []
theorem sortS_map {β:Type} {lt':β->β->Bool} {f:α->β} (hf:∀ x y,lt' (f x) (f y)=lt x y):∀ l:List α,(sortS lt l).map f=sortS lt' (l.map f):=by
 have hi:∀ (x:α) (l:List α),(insS lt x l).map f=insS lt' (f x) (l.map f):=fun x l=>by
  induction l with
  | nil=>rfl
  | cons y l ih =>
   simp only [insS,List.map_cons,hf]
   split<;>simp [ih]
 have key:∀ (l acc:List α),(l.foldl (fun acc x=>insS lt x acc) acc).map f=(l.map f).foldl (fun acc x=>insS lt' x acc) (acc.map f):=by
  intro l
  induction l with
  | nil=>intro acc;rfl
  | cons x l ih=>intro acc;rw [List.foldl_cons,ih,hi,List.map_cons,List.foldl_cons]
 intro l;exact key l []
end
end Go.Proofs.YtneffpbodfjceaaGreatDoor.Stb
namespace Go.Proofs.YtneffpbodfjceaaGreatDoor
section
open Go.RowKit
structure Extd (w w':World):Prop where
 ext:Ext w w'
 dr:w.drawn<=w'.drawn
section
variable {w w1 w2:World}
theorem Extd.refl (w:World):Extd w w:=⟨Ext.refl w,Nat.le_refl _⟩
theorem Extd.drew (h:Extd w w1):Extd w w1.drew:=⟨h.ext.drew,Nat.le_succ_of_le h.dr⟩
theorem Extd.alloc (h:Extd w w1) (o:Obj):Extd w (w1.alloc o):=⟨h.ext.alloc o,h.dr⟩
theorem Extd.grow (h:Extd w w1):∃ (q:Nat) (os:Array Obj),w1=Sort.grow (w.drewN q) os:=by
 obtain ⟨⟨h1,h2,h3,h4,h5⟩,h6⟩:=h;refine ⟨w1.drawn-w.drawn,w1.heap.extract w.heap.size w1.heap.size,?_⟩
 have hh:w1.heap=w.heap++w1.heap.extract w.heap.size w1.heap.size:=by
  apply Array.ext_getElem?;intro i
  by_cases hi:i<w.heap.size
  . rw [Array.getElem?_append_left hi]
    exact h5 i hi
  . rw [Array.getElem?_append_right (by omega),Array.getElem?_extract]
    by_cases hi2:i<w1.heap.size
    . rw [if_pos (by omega),show w.heap.size+(i-w.heap.size)=i by omega]
    . rw [if_neg (by omega),Array.getElem?_eq_none (by omega)]
 unfold Sort.grow World.drewN;dsimp only;rw [← hh,← h1,← h2,← h3,show w.drawn+(w1.drawn-w.drawn)=w1.drawn by omega]
theorem Extd.of_grow (w:World) (q:Nat) (os:Array Obj):Extd w (Sort.grow (w.drewN q) os):=by
 refine ⟨⟨rfl,rfl,rfl,?_,fun k hk=>?_⟩,Nat.le_add_right _ _⟩
 . show w.heap.size<=(w.heap++os).size
   rw [Array.size_append];omega
 . show (w.heap++os)[k]?=_
   rw [Array.getElem?_append_left hk]
end
structure EWd (W:World) where
 w:World
 exd:Extd W w
instance ewdInh (W:World):Nonempty (EWd W):=⟨⟨W,Extd.refl W⟩⟩
end
section
open Go.Shelf Go.RowKit Go.Lib Go.Sort
structure StL (P:Program) (k:Nat):Prop where
 mixed:P.follows .mixedOrders=true
 fswapRange:P.funcs[315]?=some Tryz.f315
 frotate:P.funcs[301]?=some Tryz.f301
 finsertionSort:P.funcs[275]?=some Tryz.f275
 fsymMerge:P.funcs[276]?=some Tryz.f276
 fstable:P.funcs[236]?=some Tryz.f236
 fsort:P.funcs[194]?=some Tryz.f194
 t0:P.underlying 0=some (.tuple #[])
 a0:∀ w,(isAgg 0).run P w = .ok false w
 z0:∀ w,(Go.sizeOf 0).run P w = .ok 1 w
 v0:∀ w,(zeroValue 0).run P w = .ok (.tuple #[]) w
 t3:P.underlying 3=some (.int .i64)
 a3:∀ w,(isAgg 3).run P w = .ok false w
 z3:∀ w,(Go.sizeOf 3).run P w = .ok 1 w
 v3:∀ w,(zeroValue 3).run P w = .ok (.int .i64 0) w
 t4:P.underlying 4=some (.bool)
 a4:∀ w,(isAgg 4).run P w = .ok false w
 z4:∀ w,(Go.sizeOf 4).run P w = .ok 1 w
 v4:∀ w,(zeroValue 4).run P w = .ok (.bool false) w
 tS:P.underlying 24=some (.slice 54)
 aS:∀ w,(isAgg 24).run P w = .ok false w
 zS:∀ w,(Go.sizeOf 24).run P w = .ok 1 w
 vS:∀ w,(zeroValue 24).run P w = .ok (.slice none 0 0) w
 tF:P.underlying 291=some (.func #[54,54] #[3] false)
 aF:∀ w,(isAgg 291).run P w = .ok false w
 zF:∀ w,(Go.sizeOf 291).run P w = .ok 1 w
 vF:∀ w,(zeroValue 291).run P w = .ok (.nilFunc) w
 tU:P.underlying 58=some (.int .u64)
 aU:∀ w,(isAgg 58).run P w = .ok false w
 zU:∀ w,(Go.sizeOf 58).run P w = .ok 1 w
 vU:∀ w,(zeroValue 58).run P w = .ok (.int .u64 0) w
 aE:∀ w,(isAgg 54).run P w = .ok true w
 zE:∀ w,(Go.sizeOf 54).run P w = .ok k w
theorem stL:StL Tryz.prog 7 where
 mixed:=by kernel_rfl
 fswapRange:=Tryz.func315
 frotate:=Tryz.func301
 finsertionSort:=Tryz.func275
 fsymMerge:=Tryz.func276
 fstable:=Tryz.func236
 fsort:=Tryz.func194
 t0:=Tryz.underlying0
 a0:=Tryz.isAgg0
 z0:=Tryz.sizeOf0
 v0:=Tryz.zeroValue0
 t3:=Tryz.underlying3
 a3:=Tryz.isAgg3
 z3:=Tryz.sizeOf3
 v3:=Tryz.zeroValue3
 t4:=Tryz.underlying4
 a4:=Tryz.isAgg4
 z4:=Tryz.sizeOf4
 v4:=Tryz.zeroValue4
 tS:=Tryz.underlying24
 aS:=Tryz.isAgg24
 zS:=Tryz.sizeOf24
 vS:=Tryz.zeroValue24
 tF:=Tryz.underlying291
 aF:=Tryz.isAgg291
 zF:=Tryz.sizeOf291
 vF:=Tryz.zeroValue291
 tU:=Tryz.underlying58
 aU:=Tryz.isAgg58
 zU:=Tryz.sizeOf58
 vU:=Tryz.zeroValue58
 aE:=Tryz.isAgg54
 zE:=Tryz.sizeOf54
section
variable {α:Type} [Inhabited α]
theorem qEo {d:Array α} {i:Nat} (h:i<d.size):d.toList[i]?=some d[i]!:=by
 rw [Array.getElem?_toList,getElem!_pos d i h,Array.getElem?_eq_getElem h]
theorem qNe {d:Array α} {i j:Nat} (hi:i<d.size) (hj:j<d.size):(Go.Sort.swp d i j).toList=Stb.swp d.toList i j:=by
 unfold Stb.swp;rw [qEo hi,qEo hj];simp [Go.Sort.swp]
end
end
section
open Go.Shelf Go.RowKit Go.Lib Go.Sort
variable {P:Program} {k:Nat} {α:Type} [Inhabited α]
theorem qVq (L:StL P k) (enc:α->List Value) (cf:α->α->Int) (g:Nat) (cb:Array Value) (blk off cap:Nat) (d0 d:Array α) (w0 w:World) (a b:Nat) (eg:∀ args w,(callFunc g args).run P w = .ok (.enter g args) w) (hcmp:CmpLays P g cb enc k cf blk off d0.size w0) (R:RowK enc k w0 blk off d0) (hs:d0.size=d.size) (S:SWK enc k w0 blk off d w) (hsz:d.size<1152921504606846976) (hw:Stb.SW (ltOf cf)) (hab:a<=b) (hb:b<=d.size) :
 Calls P 275 #[.slice (some ⟨blk,off,none⟩) d.size cap,.int .i64 a,.int .i64 b,.func (.func g) #[] cb] w fun e w'=>e = .returned (.tuple #[])/\∃ d',d'.size=d.size/\SWK enc k w0 blk off d' w'/\Stb.Loc (ltOf cf) a b d.toList d'.toList/\Stb.Srt (ltOf cf) d'.toList a b:=by
 (have mixed:=L.mixed;have t0:=L.t0;have a0:=L.a0;have z0:=L.z0;have v0:=L.v0;have t3:=L.t3;have a3:=L.a3;have z3:=L.z3;have v3:=L.v3;have t4:=L.t4;have a4:=L.a4;have z4:=L.z4;have v4:=L.v4;have tS:=L.tS;have aS:=L.aS;have zS:=L.zS;have vS:=L.vS;have tF:=L.tF;have aF:=L.aF;have zF:=L.zF;have vF:=L.vF;have tU:=L.tU;have aU:=L.aU;have zU:=L.zU;have vU:=L.vU;have aE:=L.aE;have zE:=L.zE);(have uS:=run_underlying L.tS;have u3:=run_underlying L.t3;have uU:=run_underlying L.tU);have HC:Aside _:=hcmp;have HW:=gH hw;have S0:Aside _:=S;clear hcmp S hw;go_enter L.finsertionSort,Tryz.ntmps275;go_wp2;go_loopg [8] (b-a) (fun kx s8 wr=>∃ (i:Nat) (dk:Array α),s8 = .int .i64 i/\a<i/\i<=b+1/\b+1-i<=kx+1/\dk.size=d.size/\Aside (SWK enc k w0 blk off dk wr)/\Hid (Stb.Loc (ltOf cf) a b d.toList dk.toList)/\Hid (Stb.Srt (ltOf cf) dk.toList a (min i b)))
 case atStart=>exact ⟨a+1,d,by go_num,by omega,by omega,by omega,rfl,S0,(show Hid _ from Stb.Loc.refl _),(show Hid _ from Stb.Srt.one (by omega))⟩
 case round =>
  clear S0;obtain ⟨i,dk,rfl,hai,hib,hkx,hds,S1,HLo,HSr⟩:=hrel
  by_cases hlt:i<b
  . have hltz:(i:Int)<(b:Int):=by omega
    go_wp2_with fail;go_loopg [9] i (fun k2 s9 wr2=>∃ (j:Nat) (dj:Array α),s9 = .int .i64 j/\a<=j/\j<=i/\j<=k2/\dj.size=d.size/\Aside (SWK enc k w0 blk off dj wr2)/\Hid (Stb.Loc (ltOf cf) a b d.toList dj.toList)/\Hid (Stb.Ins (ltOf cf) dj.toList a j i))
    case atStart=>exact ⟨i,dk,rfl,by omega,Nat.le_refl _,Nat.le_refl _,hds,S1,HLo,(show Hid _ from Stb.Ins.start (by have:=HSr.out;rwa [Nat.min_eq_left (by omega)] at this))⟩
    case round =>
     clear S1 HLo HSr;obtain ⟨j,dj,rfl,haj,hji,hk2,hdj,S2,HL2,HI2⟩:=hrel;(have HLn:Hid (dj.toList.length=d.size):=by show _=_;rw [Array.length_toList];exact hdj)
     by_cases hja:a<j
     . have hjaz:(a:Int)<(j:Int):=by omega
       obtain ⟨jm,hjm⟩:∃ jm,jm=j-1:=⟨_,rfl⟩;(have hj1:(j:Int)-1=(jm:Int):=by omega);(have hjl:jm<d.size:=by omega);have HJm:=gH hjm;(have HX:Hid (dj.toList[j-1]?=some dj[jm]!):=by show _=_;rw [hjm];exact qEo (by omega));have HY:Hid (dj.toList[j]?=some dj[j]!):=qEo (by omega);clear hjm
       by_cases hv:cf dj[j]! dj[jm]! < 0
       . have HLt:Hid (ltOf cf dj[j]! dj[jm]! = true):=decide_eq_true hv
         (have ea1:((j:Int)).toNat=j:=by omega);(have pa1:(0:Int)<=(j:Int):=by omega);(have ba1:(j:Int)<(d.size:Int):=by omega);(have ra1:IntKind.i64.wrap ((j:Int))=(j:Int):=by rw [IntKind.wrap_i64];omega);(have ec1:((jm:Int)).toNat=jm:=by omega);(have pc1:(0:Int)<=(jm:Int):=by omega);(have bc1:(jm:Int)<(d.size:Int):=by omega);(have rc1:IntKind.i64.wrap ((jm:Int))=(jm:Int):=by rw [IntKind.wrap_i64];omega);obtain ⟨x1,hx1⟩:∃ x,x=dj[j]!:=⟨_,rfl⟩;obtain ⟨y1,hy1⟩:∃ x,x=dj[jm]!:=⟨_,rfl⟩;have l1a:=S2.out.ld R (by omega) P (j) (by omega);have l1b:=S2.out.ld R (by omega) P (jm) (by omega);rw [← hx1] at l1a;rw [← hy1] at l1b;have hc1:=S2.out.cmp HC.out (by omega) x1 y1;(have hv1:cf x1 y1<0:=by rw [hx1,hy1];exact hv);have hd1:decide (cf x1 y1<0)=true:=decide_eq_true hv1;clear hx1 hy1;go_wp2_with fail;go_quiet_grown (first | (go_at_fn g;refine Calls.grown_of (hc1 _ _)));have S3:Aside (SWK enc k w0 blk off dj (grow (wr.drewN nq) osq)):=S2.out.grown nq osq;clear l1a l1b hc1 S2 hv1 hd1;generalize grow (wr.drewN nq) osq=w3 at S3 ⊢;clear nq osq;clear ea1 pa1 ba1 ra1 ec1 pc1 bc1 rc1;(have ea2:((j:Int)).toNat=j:=by omega);(have pa2:(0:Int)<=(j:Int):=by omega);(have ba2:(j:Int)<(d.size:Int):=by omega);(have ra2:IntKind.i64.wrap ((j:Int))=(j:Int):=by rw [IntKind.wrap_i64];omega);(have ec2:((jm:Int)).toNat=jm:=by omega);(have pc2:(0:Int)<=(jm:Int):=by omega)
         (have bc2:(jm:Int)<(d.size:Int):=by omega);(have rc2:IntKind.i64.wrap ((jm:Int))=(jm:Int):=by rw [IntKind.wrap_i64];omega);have S4:Aside (SWK enc k w0 blk off (swp dj (j) (jm)) ((w3.drew.setCells blk (off+(j)*k) (enc dj[jm]!)).setCells blk (off+(jm)*k) (enc dj[j]!))):=S3.out.swapped R (j) (jm) (by omega) (by omega);have l2a:=S3.out.ld1 R (by omega) P (j) (by omega);have l2b:=S3.out.ld1 R (by omega) P (jm) (by omega);have s2a:=S3.out.st1 R (by omega) P (j) (by omega) dj[jm]!;have s2b:=S3.out.st2 R (by omega) P (j) (jm) (by omega) (by omega) dj[jm]! dj[j]!;have n2a:(enc dj[j]!).length=k:=R.hk _;have n2b:(enc dj[jm]!).length=k:=R.hk _;generalize enc dj[j]! = cI2 at S4 l2a s2b n2a;generalize enc dj[jm]! = cJ2 at S4 l2b s2a s2b n2b;clear S3;go_wp2_with fail;go_big_region_o;clear l2a l2b s2a s2b;generalize (w3.drew.setCells blk (off+(j)*k) cJ2).setCells blk (off+(jm)*k) cI2=w4 at S4 ⊢;clear n2a n2b ea2 pa2 ba2 ra2 ec2 pc2 bc2 rc2;go_wp2;go_roundg (j-1)
         case measure=>omega
         case rel =>
          have hjm:=HJm.out;refine ⟨j-1,swp dj j jm,by rw [show ((j-1:Nat):Int)=(jm:Int) by omega],by omega,by omega,Nat.le_refl _,by rw [size_swp];exact hdj,S4,(show Hid _ from ?_),(show Hid _ from ?_)⟩
          . show Stb.Loc _ _ _ _ _
            rw [qNe (by omega) (by omega),hjm];exact HL2.out.trans ((Stb.Loc.swap HW.out (by omega) (by rw [HLn.out];omega) HX.out HY.out HLt.out).wide (by omega) (by omega))
          . show Stb.Ins _ _ _ _ _
            rw [qNe (by omega) (by omega),hjm];exact HI2.out.step HW.out hja hji (by rw [HLn.out];omega) HX.out HY.out HLt.out
       . have HLt:Hid (ltOf cf dj[j]! dj[jm]! = false):=decide_eq_false hv
         (have ea3:((j:Int)).toNat=j:=by omega);(have pa3:(0:Int)<=(j:Int):=by omega);(have ba3:(j:Int)<(d.size:Int):=by omega);(have ra3:IntKind.i64.wrap ((j:Int))=(j:Int):=by rw [IntKind.wrap_i64];omega);(have ec3:((jm:Int)).toNat=jm:=by omega);(have pc3:(0:Int)<=(jm:Int):=by omega);(have bc3:(jm:Int)<(d.size:Int):=by omega);(have rc3:IntKind.i64.wrap ((jm:Int))=(jm:Int):=by rw [IntKind.wrap_i64];omega);obtain ⟨x3,hx3⟩:∃ x,x=dj[j]!:=⟨_,rfl⟩;obtain ⟨y3,hy3⟩:∃ x,x=dj[jm]!:=⟨_,rfl⟩;have l3a:=S2.out.ld R (by omega) P (j) (by omega);have l3b:=S2.out.ld R (by omega) P (jm) (by omega);rw [← hx3] at l3a;rw [← hy3] at l3b;have hc3:=S2.out.cmp HC.out (by omega) x3 y3;(have hv3:¬ cf x3 y3<0:=by rw [hx3,hy3];exact hv);have hd3:decide (cf x3 y3<0)=false:=decide_eq_false hv3;clear hx3 hy3;go_wp2_with fail;go_quiet_grown (first | (go_at_fn g;refine Calls.grown_of (hc3 _ _)));have S3:Aside (SWK enc k w0 blk off dj (grow (wr.drewN nq) osq)):=S2.out.grown nq osq;clear l3a l3b hc3 S2 hv3 hd3;generalize grow (wr.drewN nq) osq=w3 at S3 ⊢;clear nq osq;clear ea3 pa3 ba3 ra3 ec3 pc3 bc3 rc3;go_wp2;go_roundg (b-(i+1))
         case measure=>omega
         case rel =>
          refine ⟨i+1,dj,by go_num,by omega,by omega,by omega,hdj,S3,HL2,(show Hid _ from ?_)⟩
          show Stb.Srt _ _ _ _
          rw [Nat.min_eq_left (by omega)];refine Stb.Ins.end_ HW.out HI2.out (by rw [HLn.out];omega) hji (.inr fun x y hx hy=>?_);rw [HX.out] at hx;rw [HY.out] at hy
          cases hx
          cases hy
          exact HLt.out
     . have hjaz:decide ((j:Int) > (a:Int))=false:=decide_eq_false (by omega)
       (have hjaz':¬ (a:Int)<(j:Int):=by omega);have S3:Aside (SWK enc k w0 blk off dj wr.drew):=S2.out.drew;go_wp2_with fail;go_big_region_o
       all_goals go_wp2
       go_roundg (b-(i+1))
       case measure=>omega
       case rel =>
        refine ⟨i+1,dj,by go_num,by omega,by omega,by omega,hdj,S3,HL2,(show Hid _ from ?_)⟩
        show Stb.Srt _ _ _ _
        rw [Nat.min_eq_left (by omega)];exact Stb.Ins.end_ HW.out HI2.out (by rw [HLn.out];omega) hji (.inl (by omega))
  . have hltz:¬ (i:Int)<(b:Int):=by omega
    go_wp2;go_end0;exact ⟨rfl,dk,hds,S1.out,HLo.out,by have:=HSr.out;rwa [Nat.min_eq_right (by omega)] at this⟩
end
section
open Go.Shelf Go.RowKit Go.Lib Go.Sort
variable {P:Program} {k:Nat} {α:Type} [Inhabited α]
theorem qWt (L:StL P k) (enc:α->List Value) (cf:α->α->Int) (g:Nat) (cb:Array Value) (blk off cap:Nat) (d0 d:Array α) (w0 w:World) (a b n:Nat) (R:RowK enc k w0 blk off d0) (hs:d0.size=d.size) (S:SWK enc k w0 blk off d w) (hsz:d.size<1152921504606846976) (hn:a+n<=d.size) (hb:b+n<=d.size) :
 Calls P 315 #[.slice (some ⟨blk,off,none⟩) d.size cap,.int .i64 a,.int .i64 b,.int .i64 n,.func (.func g) #[] cb] w fun e w'=>e = .returned (.tuple #[])/\∃ d',d'.size=d.size/\SWK enc k w0 blk off d' w'/\d'.toList=Stb.swr d.toList a b n:=by
 (have mixed:=L.mixed;have t0:=L.t0;have a0:=L.a0;have z0:=L.z0;have v0:=L.v0;have t3:=L.t3;have a3:=L.a3;have z3:=L.z3;have v3:=L.v3;have t4:=L.t4;have a4:=L.a4;have z4:=L.z4;have v4:=L.v4;have tS:=L.tS;have aS:=L.aS;have zS:=L.zS;have vS:=L.vS;have tF:=L.tF;have aF:=L.aF;have zF:=L.zF;have vF:=L.vF;have tU:=L.tU;have aU:=L.aU;have zU:=L.zU;have vU:=L.vU;have aE:=L.aE;have zE:=L.zE);(have uS:=run_underlying L.tS;have u3:=run_underlying L.t3;have uU:=run_underlying L.tU);have S0:Aside _:=S;clear S;go_enter L.fswapRange,Tryz.ntmps315;go_wp2;go_loopg [10] n (fun kx s10 wr=>∃ (i:Nat) (dk:Array α),s10 = .int .i64 i/\i<=n/\n-i<=kx/\dk.size=d.size/\Aside (SWK enc k w0 blk off dk wr)/\Hid (dk.toList=Stb.swr d.toList a b i))
 case atStart=>exact ⟨0,d,rfl,Nat.zero_le _,by omega,rfl,S0,rfl⟩
 case round =>
  clear S0;obtain ⟨i,dk,rfl,hi,hkx,hds,S1,HE⟩:=hrel
  by_cases hlt:i<n
  . have hltz:(i:Int)<(n:Int):=by omega
    (have ea1:((a:Int)+(i:Int)).toNat=a+i:=by omega);(have pa1:(0:Int)<=(a:Int)+(i:Int):=by omega);(have ba1:(a:Int)+(i:Int)<(d.size:Int):=by omega);(have ra1:IntKind.i64.wrap ((a:Int)+(i:Int))=(a:Int)+(i:Int):=by rw [IntKind.wrap_i64];omega);(have ec1:((b:Int)+(i:Int)).toNat=b+i:=by omega);(have pc1:(0:Int)<=(b:Int)+(i:Int):=by omega);(have bc1:(b:Int)+(i:Int)<(d.size:Int):=by omega);(have rc1:IntKind.i64.wrap ((b:Int)+(i:Int))=(b:Int)+(i:Int):=by rw [IntKind.wrap_i64];omega);have S2:Aside (SWK enc k w0 blk off (swp dk (a+i) (b+i)) ((wr.drew.setCells blk (off+(a+i)*k) (enc dk[b+i]!)).setCells blk (off+(b+i)*k) (enc dk[a+i]!))):=S1.out.swapped R (a+i) (b+i) (by omega) (by omega);have l1a:=S1.out.ld1 R (by omega) P (a+i) (by omega);have l1b:=S1.out.ld1 R (by omega) P (b+i) (by omega);have s1a:=S1.out.st1 R (by omega) P (a+i) (by omega) dk[b+i]!;have s1b:=S1.out.st2 R (by omega) P (a+i) (b+i) (by omega) (by omega) dk[b+i]! dk[a+i]!;have n1a:(enc dk[a+i]!).length=k:=R.hk _;have n1b:(enc dk[b+i]!).length=k:=R.hk _;generalize enc dk[a+i]! = cI1 at S2 l1a s1b n1a;generalize enc dk[b+i]! = cJ1 at S2 l1b s1a s1b n1b;clear S1;go_wp2_with fail;go_big_region_o;clear l1a l1b s1a s1b;generalize (wr.drew.setCells blk (off+(a+i)*k) cJ1).setCells blk (off+(b+i)*k) cI1=w2 at S2 ⊢
    clear n1a n1b ea1 pa1 ba1 ra1 ec1 pc1 bc1 rc1;go_wp2;go_roundg (n-(i+1))
    case measure=>omega
    case rel=>exact ⟨i+1,swp dk (a+i) (b+i),by go_num,by omega,Nat.le_refl _,by rw [size_swp];exact hds,S2,(show Hid _ from by show _=_;rw [qNe (by omega) (by omega),HE.out];rfl)⟩
  . have hltz:¬ (i:Int)<(n:Int):=by omega
    go_wp2;go_end0;exact ⟨rfl,dk,hds,S1.out,by rw [HE.out,show i=n by omega]⟩
theorem zHv (L:StL P k) (enc:α->List Value) (cf:α->α->Int) (g:Nat) (cb:Array Value) (blk off cap:Nat) (d0 d:Array α) (w0 w:World) (a m b:Nat) (R:RowK enc k w0 blk off d0) (hs:d0.size=d.size) (S:SWK enc k w0 blk off d w) (hsz:d.size<1152921504606846976) (h1:a<m) (h2:m<b) (h3:b<=d.size) :
 Calls P 301 #[.slice (some ⟨blk,off,none⟩) d.size cap,.int .i64 a,.int .i64 m,.int .i64 b,.func (.func g) #[] cb] w fun e w'=>e = .returned (.tuple #[])/\∃ d',d'.size=d.size/\SWK enc k w0 blk off d' w'/\d'.toList=Stb.rot d.toList a m b:=by
 (have mixed:=L.mixed;have t0:=L.t0;have a0:=L.a0;have z0:=L.z0;have v0:=L.v0;have t3:=L.t3;have a3:=L.a3;have z3:=L.z3;have v3:=L.v3;have t4:=L.t4;have a4:=L.a4;have z4:=L.z4;have v4:=L.v4;have tS:=L.tS;have aS:=L.aS;have zS:=L.zS;have vS:=L.vS;have tF:=L.tF;have aF:=L.aF;have zF:=L.zF;have vF:=L.vF;have tU:=L.tU;have aU:=L.aU;have zU:=L.zU;have vU:=L.vU;have aE:=L.aE;have zE:=L.zE);(have uS:=run_underlying L.tS;have u3:=run_underlying L.t3;have uU:=run_underlying L.tU);have eswapRange:∀ args w,(callFunc 315 args).run P w = .ok (.enter 315 args) w:=enters_of L.fswapRange (by kernel_rfl) rfl;have S0:Aside _:=S;clear S
 have HSw:Aside (∀ (a b n:Nat) (dk:Array α) (w:World),dk.size=d.size->SWK enc k w0 blk off dk w->a+n<=d.size->b+n<=d.size->Calls P 315 #[.slice (some ⟨blk,off,none⟩) d.size cap,.int .i64 a,.int .i64 b,.int .i64 n,.func (.func g) #[] cb] w fun e w'=>e = .returned (.tuple #[])/\∃ d',d'.size=d.size/\SWK enc k w0 blk off d' w'/\d'.toList=Stb.swr dk.toList a b n):=fun a b n dk w hd hS ha hb=>by
  have:=qWt L enc cf g cb blk off cap d0 dk w0 w a b n R (by omega) hS (by omega) (by omega) (by omega)
  rwa [hd] at this
 go_enter L.frotate,Tryz.ntmps301;go_wp2;go_loopg [10,11] (b-a) (fun kx s10 s11 wr=>∃ (i j:Nat) (dk:Array α),s10 = .int .i64 i/\s11 = .int .i64 j/\1<=i/\i<=m/\1<=j/\m+j<=d.size/\i+j<=kx/\dk.size=d.size/\Aside (SWK enc k w0 blk off dk wr)/\Hid (Stb.rot dk.toList (m-i) m (m+j)=Stb.rot d.toList a m b))
 case atStart=>exact ⟨m-a,b-m,d,by go_num,by go_num,by omega,by omega,by omega,by omega,by omega,rfl,S0,(show Hid _ from by show _=_;rw [show m-(m-a)=a by omega,show m+(b-m)=b by omega])⟩
 case round =>
  clear S0;obtain ⟨i,j,dk,rfl,rfl,hi1,him,hj1,hjm,hkx,hds,S1,HE⟩:=hrel;(have HL:Hid (dk.toList.length=d.size):=by show _=_;rw [Array.length_toList];exact hds)
  by_cases heq:i=j
  . subst heq
    (have hne:((i:Int) != (i:Int))=false:=by simp);(have hm1:(m:Int)-(i:Int)=((m-i:Nat):Int):=by omega);have hsw:=HSw.out (m-i) m i dk wr hds S1.out (by omega) (by omega);have HR:Hid (Stb.swr dk.toList (m-i) m i=Stb.rot dk.toList (m-i) m (m+i)):=Stb.rot_eq him (by rw [HL.out];omega);clear HSw;go_wp2_with (go_at_fn 315;refine hsw.mono ?_;rintro e w' ⟨rfl,d',hd',hS',hl'⟩);go_end0;exact ⟨rfl,d',hd',hS',by rw [hl',HR.out,HE.out]⟩
  . have hne:((i:Int) != (j:Int))=true:=by simp;omega
    by_cases hgt:j<i
    . have hgz:(j:Int)<(i:Int):=by omega
      (have hm1:(m:Int)-(i:Int)=((m-i:Nat):Int):=by omega);have hsw:=HSw.out (m-i) m j dk wr hds S1.out (by omega) (by omega);have HR:=gH (Stb.rot_gt (l:=dk.toList) him hgt (by rw [HL.out];omega));clear HSw;go_wp2_with (go_at_fn 315;refine hsw.mono ?_;rintro e w' ⟨rfl,d',hd',hS',hl'⟩);go_roundg (i-j+j)
      case measure=>omega
      case rel=>exact ⟨i-j,j,d',by go_num,rfl,by omega,by omega,hj1,hjm,Nat.le_refl _,hd',hS',(show Hid _ from by show _=_;rw [hl',HR.out];exact HE.out)⟩
    . have hgz:¬ (j:Int)<(i:Int):=by omega
      (have hm1:(m:Int)-(i:Int)=((m-i:Nat):Int):=by omega);(have hm2:(m:Int)+(j:Int)-(i:Int)=((m+j-i:Nat):Int):=by omega);have hsw:=HSw.out (m-i) (m+j-i) i dk wr hds S1.out (by omega) (by omega);have HR:=gH (Stb.rot_lt (l:=dk.toList) him (show i<j by omega) (by rw [HL.out];omega));clear HSw;go_wp2_with (go_at_fn 315;refine hsw.mono ?_;rintro e w' ⟨rfl,d',hd',hS',hl'⟩);go_roundg (i+(j-i))
      case measure=>omega
      case rel=>exact ⟨i,j-i,d',rfl,by go_num,hi1,him,by omega,by omega,Nat.le_refl _,hd',hS',(show Hid _ from by show _=_;rw [hl',HR.out];exact HE.out)⟩
end
end Go.Proofs.YtneffpbodfjceaaGreatDoor