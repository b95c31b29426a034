/- Texts laid together. -/
import Derived.Test.YtablhmobekmflaaGreatDoorCt10
import Derived.RangeFuncNested
import Derived.RangeFuncBound
import Derived.RangeFuncCalls
import Derived.RangeFuncLeaves
import Derived.Shelf.Abstract
import Derived.Shelf.RegionOpen
import Derived.WalkKit
import Derived.OwnWalkIn
import Derived.TacticsInMore
import Derived.LoopNIn
import Derived.LoopIn
import Derived.Maps.AppendAt
import Derived.Test.YtablhmobekmflaaGreatDoorCt01
import Derived.Shelf.SlSortCmp.WholeK
import Derived.Shelf.SlSortCmp.NoneTotal
import Derived.Test.YtablhmobekmflaaGreatDoorCt04
import Derived.Laws.OwnMore
set_option linter.unusedVariables false
set_option linter.unusedSimpArgs false
namespace Go.Proofs.YtablhmobekmflaaGreatDoor
section
structure Spn where
 inn : Int
 out : Int
 deriving DecidableEq
def mgStep (l : List Spn) (s : Spn) : List Spn := match l.getLast? with
 | some x => if s.inn ≤ x.out then l.dropLast ++ [⟨x.inn, max x.out s.out⟩] else l ++ [s]
 | none => [s]
def mg (l : List Spn) : List Spn := l.foldl mgStep []
theorem mg_none (s : Spn) : mgStep [] s = [s] := rfl
theorem mg_snoc (l : List Spn) (x s : Spn) : mgStep (l ++ [x]) s = if s.inn ≤ x.out then l ++ [⟨x.inn, max x.out s.out⟩] else l ++ [x, s] := by
 unfold mgStep
 rw [show (l ++ [x]).getLast? = some x by simp]
 simp only [List.dropLast_concat]
 split
 · rfl
 · simp
theorem mg_swap (l : List Spn) (x y : Spn) (h : x.inn = y.inn) (hx : x.inn < x.out) (hy : y.inn < y.out) : mgStep (mgStep l x) y = mgStep (mgStep l y) x := by
 obtain ⟨xi, xo⟩ := x
 obtain ⟨yi, yo⟩ := y
 simp only at h hx hy
 subst h
 rcases List.eq_nil_or_concat l with rfl | ⟨l, z, e⟩
 · rw [mg_none, mg_none, show ([⟨xi, xo⟩] : List Spn) = [] ++ [⟨xi, xo⟩] from rfl, show ([⟨xi, yo⟩] : List Spn) = [] ++ [⟨xi, yo⟩] from rfl, mg_snoc, mg_snoc, if_pos (by simp only; omega), if_pos (by simp only; omega)]
   simp only [Int.max_comm]
 · rw [List.concat_eq_append] at e; subst e
   rw [mg_snoc, mg_snoc]
   by_cases hz : xi ≤ z.out
   · rw [if_pos hz, if_pos hz, mg_snoc, mg_snoc, if_pos (by simp only; omega), if_pos (by simp only; omega)]
     simp only [Int.max_assoc, Int.max_comm xo yo]
   · rw [if_neg hz, if_neg hz, show l ++ [z, ⟨xi, xo⟩] = (l ++ [z]) ++ [⟨xi, xo⟩] by simp, show l ++ [z, ⟨xi, yo⟩] = (l ++ [z]) ++ [⟨xi, yo⟩] by simp, mg_snoc, mg_snoc, if_pos (by simp only; omega), if_pos (by simp only; omega)]
     simp only [Int.max_comm]
def Full (l : List Spn) : Prop := ∀ s ∈ l, s.inn < s.out
def InAsc (l : List Spn) : Prop := l.Pairwise fun x y => x.inn ≤ y.inn
theorem mg_front : ∀ (A : List Spn) (x : Spn) (B l : List Spn), (∀ a ∈ A, a.inn = x.inn) → Full A → x.inn < x.out → (A ++ x :: B).foldl mgStep l = (x :: (A ++ B)).foldl mgStep l
 | [], x, B, l, _, _, _ => rfl
 | a :: A, x, B, l, h1, h2, h3 => by
  have := mg_front A x B (mgStep l a) (fun b hb => h1 b (by simp [hb])) (fun b hb => h2 b (by simp [hb])) h3
  simp only [List.cons_append, List.foldl_cons] at this ⊢
  rw [this, mg_swap l a x (h1 a (by simp)) (h2 a (by simp)) h3]
theorem mg_perm : ∀ (l m base : List Spn), InAsc l → InAsc m → l.Perm m → Full l → l.foldl mgStep base = m.foldl mgStep base
 | [], m, base, _, _, hp, _ => by rw [List.nil_perm.1 hp]
 | x :: l, m, base, hl, hm, hp, hf => by
  obtain ⟨A, B, rfl⟩ := List.append_of_mem (hp.mem_iff.1 (show x ∈ x :: l by simp))
  have hfm : ∀ s ∈ A ++ x :: B, s.inn < s.out := fun s hs => hf s (hp.mem_iff.2 hs)
  unfold InAsc at hl hm
  rw [List.pairwise_cons] at hl
  rw [List.pairwise_append, List.pairwise_cons] at hm
  have hA : ∀ a ∈ A, a.inn = x.inn := by
   intro a ha
   have h1 := hm.2.2 a ha x (by simp)
   have h2 : a ∈ x :: l := hp.mem_iff.2 (by simp [ha])
   rcases List.mem_cons.1 h2 with rfl | h2
   · rfl
   · have := hl.1 a h2; omega
  rw [mg_front A x B base hA (fun s hs => hfm s (by simp [hs])) (hf x (by simp))]
  have hp' : l.Perm (A ++ B) := (List.perm_cons x).1 (hp.trans List.perm_middle)
  simp only [List.foldl_cons]
  refine mg_perm l (A ++ B) _ hl.2 ?_ hp' (fun s hs => hf s (by simp [hs]))
  unfold InAsc
  rw [List.pairwise_append]
  exact ⟨hm.1, hm.2.1.2, fun a ha b hb => hm.2.2 a ha b (by simp [hb])⟩
def Inn (l : List Spn) (f : Int) : Prop := ∃ s ∈ l, s.inn ≤ f ∧ f < s.out
def SetOk (l : List Spn) : Prop := Full l ∧ l.Pairwise fun x y => x.out < y.inn
theorem inn_snoc (l : List Spn) (x : Spn) (f : Int) : Inn (l ++ [x]) f ↔ Inn l f ∨ (x.inn ≤ f ∧ f < x.out) := by
 unfold Inn
 constructor
 · rintro ⟨s, hs, h⟩
   rcases List.mem_append.1 hs with hs | hs
   · exact .inl ⟨s, hs, h⟩
   · simp at hs; subst hs; exact .inr h
 · rintro (⟨s, hs, h⟩ | h)
   · exact ⟨s, by simp [hs], h⟩
   · exact ⟨x, by simp, h⟩
theorem step_ok {l : List Spn} {s : Spn} (h : SetOk l) (hs : s.inn < s.out) (hl : ∀ x ∈ l, x.inn ≤ s.inn) : SetOk (mgStep l s) ∧ (∀ f, Inn (mgStep l s) f ↔ Inn l f ∨ (s.inn ≤ f ∧ f < s.out)) ∧ (∀ x ∈ mgStep l s, x.inn ≤ s.inn) ∧ (mgStep l s).length ≤ l.length + 1 ∧
 (∀ lo hi : Int, (∀ x ∈ l, lo ≤ x.inn ∧ x.out ≤ hi) → lo ≤ s.inn → s.out ≤ hi → ∀ x ∈ mgStep l s, lo ≤ x.inn ∧ x.out ≤ hi) := by
 rcases List.eq_nil_or_concat l with rfl | ⟨l, z, e⟩
 · rw [mg_none]
   refine ⟨⟨fun x hx => by simp at hx; subst hx; exact hs, by simp⟩, fun f => ?_, fun x hx => by simp at hx; subst hx; exact Int.le_refl _, by simp, fun lo hi _ h1 h2 x hx => by simp at hx; subst hx; exact ⟨h1, h2⟩⟩
   have := inn_snoc [] s f
   simpa using this
 · rw [List.concat_eq_append] at e; subst e
   rw [mg_snoc]
   have hz := hl z (by simp)
   have hzf := h.1 z (by simp)
   have hp := h.2
   rw [List.pairwise_append] at hp
   split
   · rename_i hc
     refine ⟨⟨fun x hx => ?_, ?_⟩, fun f => ?_, fun x hx => ?_, by simp, fun lo hi hb h1 h2 x hx => ?_⟩
     · rcases List.mem_append.1 hx with hx | hx
       · exact h.1 x (by simp [hx])
       · simp at hx; subst hx; simp only; omega
     · rw [List.pairwise_append]
       refine ⟨hp.1, by simp, fun a ha b hb => ?_⟩
       simp at hb; subst hb
       exact hp.2.2 a ha z (by simp)
     · rw [inn_snoc, inn_snoc, or_assoc]
       refine or_congr_right ?_
       simp only
       omega
     · rcases List.mem_append.1 hx with hx | hx
       · exact hl x (by simp [hx])
       · simp at hx; subst hx; exact hz
     · rcases List.mem_append.1 hx with hx | hx
       · exact hb x (by simp [hx])
       · simp at hx; subst hx
         have := hb z (by simp)
         simp only; omega
   · rename_i hc
     have e : l ++ [z, s] = (l ++ [z]) ++ [s] := by simp
     rw [e]
     refine ⟨⟨fun x hx => ?_, ?_⟩, fun f => inn_snoc _ _ _, fun x hx => ?_, by simp, fun lo hi hb h1 h2 x hx => ?_⟩
     · rcases List.mem_append.1 hx with hx | hx
       · exact h.1 x hx
       · simp at hx; subst hx; exact hs
     · rw [List.pairwise_append]
       refine ⟨h.2, by simp, fun a ha b hb => ?_⟩
       simp at hb; subst hb
       rcases List.mem_append.1 ha with ha | ha
       · have h1 := hp.2.2 a ha z (by simp)
         omega
       · simp at ha; subst ha; omega
     · rcases List.mem_append.1 hx with hx | hx
       · exact hl x hx
       · simp at hx; subst hx; exact Int.le_refl _
     · rcases List.mem_append.1 hx with hx | hx
       · exact hb x hx
       · simp at hx; subst hx; exact ⟨h1, h2⟩
theorem mg_fold : ∀ (l m : List Spn), SetOk m → InAsc l → Full l → (∀ x ∈ m, ∀ s ∈ l, x.inn ≤ s.inn) → SetOk (l.foldl mgStep m) ∧ (∀ f, Inn (l.foldl mgStep m) f ↔ Inn m f ∨ Inn l f) ∧ (l.foldl mgStep m).length ≤ m.length + l.length ∧
 (∀ lo hi : Int, (∀ x ∈ m, lo ≤ x.inn ∧ x.out ≤ hi) → (∀ x ∈ l, lo ≤ x.inn ∧ x.out ≤ hi) → ∀ x ∈ l.foldl mgStep m, lo ≤ x.inn ∧ x.out ≤ hi)
 | [], m, h, _, _, _ => ⟨h, fun f => by simp [Inn], by simp, fun lo hi h1 _ => h1⟩
 | s :: l, m, h, ha, hf, hm => by
  unfold InAsc at ha
  rw [List.pairwise_cons] at ha
  obtain ⟨k1, k2, k3, k4, k5⟩ := step_ok h (hf s (by simp)) (fun x hx => hm x hx s (by simp))
  obtain ⟨e1, e2, e3, e4⟩ := mg_fold l (mgStep m s) k1 ha.2 (fun x hx => hf x (by simp [hx])) (fun x hx y hy => by have := k3 x hx; have := ha.1 y hy; omega)
  refine ⟨e1, fun f => ?_, by simp only [List.foldl_cons, List.length_cons]; omega, fun lo hi h1 h2 => ?_⟩
  · rw [List.foldl_cons, e2, k2, or_assoc]
    refine or_congr_right ?_
    unfold Inn
    simp
  · have hs := h2 s (by simp)
    exact e4 lo hi (k5 lo hi h1 hs.1 hs.2) (fun x hx => h2 x (by simp [hx]))
def full (l : List Spn) : List Spn := l.filter fun s => decide (s.inn < s.out)
theorem full_ok (l : List Spn) : Full (full l) := fun s hs => by simpa using (List.mem_filter.1 hs).2
def putS (l : List Spn) (s : Spn) : List Spn := l.take (l.takeWhile fun x => decide (x.inn ≤ s.inn)).length ++ s :: l.drop (l.takeWhile fun x => decide (x.inn ≤ s.inn)).length
def sortS' (l : List Spn) : List Spn := l.foldl putS []
theorem putS_ok {l : List Spn} {s : Spn} (h : InAsc l) : InAsc (putS l s) ∧ (putS l s).Perm (s :: l) := by
 have hs : l.take (l.takeWhile fun x => decide (x.inn ≤ s.inn)).length ++ l.drop (l.takeWhile fun x => decide (x.inn ≤ s.inn)).length = l := List.take_append_drop _ _
 have hA : ∀ x ∈ l.take (l.takeWhile fun x => decide (x.inn ≤ s.inn)).length, x.inn ≤ s.inn := by
  intro x hx
  rw [takeWhile_prefix] at hx
  simpa using mem_takeWhile hx
 have hB0 : ∀ y, (l.drop (l.takeWhile fun x => decide (x.inn ≤ s.inn)).length).head? = some y → s.inn < y.inn := by
  intro y hy
  have := drop_takeWhile_head (p := fun x : Spn => decide (x.inn ≤ s.inn)) (l := l) hy
  simpa using this
 unfold putS
 generalize l.take (l.takeWhile fun x => decide (x.inn ≤ s.inn)).length = A at *
 generalize l.drop (l.takeWhile fun x => decide (x.inn ≤ s.inn)).length = B at *
 subst hs
 unfold InAsc at *
 rw [List.pairwise_append] at h
 refine ⟨?_, List.perm_middle⟩
 rw [List.pairwise_append]
 refine ⟨h.1, List.pairwise_cons.2 ⟨fun y hy => ?_, h.2.1⟩, fun a ha b hb => ?_⟩
 · cases B with
   | nil => simp at hy
   | cons b B =>
    have hb := hB0 b rfl
    rcases List.mem_cons.1 hy with rfl | hy
    · omega
    · have := (List.pairwise_cons.1 h.2.1).1 y hy; omega
 · rcases List.mem_cons.1 hb with rfl | hb
   · exact hA a ha
   · exact h.2.2 a ha b hb
theorem sortS_fold : ∀ (l m : List Spn), InAsc m → InAsc (l.foldl putS m) ∧ (l.foldl putS m).Perm (m ++ l)
 | [], m, h => ⟨h, by simp⟩
 | s :: l, m, h => by
  obtain ⟨h1, h2⟩ := putS_ok (s := s) h
  obtain ⟨k1, k2⟩ := sortS_fold l (putS m s) h1
  refine ⟨k1, k2.trans ?_⟩
  exact ((h2.append_right l).trans (by simpa using (List.perm_middle (a := s) (l₁ := m) (l₂ := l)).symm))
theorem sortS_ok (l : List Spn) : InAsc (sortS' l) ∧ (sortS' l).Perm l := by
 have := sortS_fold l [] (by simp [InAsc])
 simpa [sortS'] using this
def joinS (l : List Spn) : List Spn := mg (sortS' (full l))
theorem merge_join {l m : List Spn} (hp : m.Perm l) (hs : m.Pairwise fun x y => ¬ y.inn < x.inn) : (m.filter fun s => decide (s.inn < s.out)).foldl mgStep [] = joinS l := by
 obtain ⟨h1, h2⟩ := sortS_ok (full l)
 unfold joinS mg
 refine mg_perm _ _ [] ?_ h1 ((hp.filter _).trans h2.symm) (full_ok m)
 unfold InAsc
 exact (hs.imp fun {x y} h => by omega).filter _
theorem joinS_ok (l : List Spn) : SetOk (joinS l) ∧ (∀ f, Inn (joinS l) f ↔ Inn l f) ∧ (joinS l).length ≤ l.length ∧ (∀ lo hi : Int, (∀ x ∈ l, lo ≤ x.inn ∧ x.out ≤ hi) → ∀ x ∈ joinS l, lo ≤ x.inn ∧ x.out ≤ hi) := by
 obtain ⟨h1, h2⟩ := sortS_ok (full l)
 have hf : Full (sortS' (full l)) := fun s hs => full_ok l s (h2.mem_iff.1 hs)
 obtain ⟨k1, k2, k3, k4⟩ := mg_fold (sortS' (full l)) [] ⟨by simp [Full], by simp⟩ h1 hf (by simp)
 refine ⟨k1, fun f => ?_, ?_, fun lo hi h => k4 lo hi (by simp) (fun x hx => h x (List.mem_filter.1 (h2.mem_iff.1 hx)).1)⟩
 · unfold joinS mg
   rw [k2]
   unfold Inn
   constructor
   · rintro (⟨s, hs, _⟩ | ⟨s, hs, h⟩)
     · simp at hs
     · exact ⟨s, (List.mem_filter.1 (h2.mem_iff.1 hs)).1, h⟩
   · rintro ⟨s, hs, h⟩
     exact .inr ⟨s, h2.mem_iff.2 (List.mem_filter.2 ⟨hs, by simp; omega⟩), h⟩
 · have := h2.length_eq
   have := List.length_filter_le (fun s : Spn => decide (s.inn < s.out)) l
   unfold joinS mg full at *
   simp at k3
   omega
end
section
open Go.RowKit Go.Shelf
attribute [local go_sem] Oper.semAt_some
def Spn.vals (s : Spn) : List Value := [.int .i64 s.inn, .int .i64 s.out]
def Spn.enc (s : Spn) : Value := .agg #[.int .i64 s.inn, .int .i64 s.out]
def SpnsAt (w : World) (A : Option Addr) (n : Nat) (l : List Spn) : Prop := Sl w 2 (Cells Spn.vals) A n l
theorem SpnsAt.ext {w w1 : World} {A : Option Addr} {n : Nat} {l : List Spn} (h : SpnsAt w A n l) (k : Ext w w1) : SpnsAt w1 A n l := Sl.ext (Cells.stays _) h k
theorem info_span : (Tryz.prog.info? 60).map (fun i => (i.zero, i.size, i.bytes)) = some (some (.agg #[.int .i64 0, .int .i64 0]), 2, 16) := by kernel_rfl
theorem spn_ones (x : Spn) : ∀ v ∈ x.vals, v.oneCell' = true := by
 intro v hv
 simp only [Spn.vals, List.mem_cons, List.not_mem_nil, or_false] at hv
 rcases hv with rfl | rfl <;> rfl
theorem SpnsAt.below {n₀ : Nat} {w w1 : World} {b off n : Nat} {l : List Spn} (h : SpnsAt w (some ⟨b, off, none⟩) n l) (hb : b < n₀) (k : Below n₀ w w1) : SpnsAt w1 (some ⟨b, off, none⟩) n l :=
 ⟨h.1, fun hn => by
  obtain ⟨b', off', e, hc⟩ := h.2 hn
  cases e
  exact ⟨b, off, rfl, fun i x hx j u hu => (k.cell (p := ⟨b, off + i * 2 + j, none⟩) hb).trans (hc i x hx j u hu)⟩⟩
set_option maxRecDepth 100000 in
set_option maxHeartbeats 2000000 in
theorem SpValues1_in (F : Fence) (n : Nat) (h7 : F.fn 215) (hro : F.round = none) (hn : 1 ≤ n) (l Bs n₀ b off cap : Nat) (zs : List Spn) (hz : zs.length ≤ 1000000) (hb : b < n₀) (J Jx : List Spn → World → Prop)
 (W : World) (hJ : AbidesFrom W.heap.size J)
 (hY : ∀ pre x W, J pre W → pre.length < zs.length → YieldAt F (n - 1) Tryz.prog l #[Spn.enc x] W fun e W' =>
  (e = .returned (.bool true) ∧ J (pre ++ [x]) W' ∧ Below n₀ W W') ∨ (e = .returned (.bool false) ∧ Jx (pre ++ [x]) W'))
 (hBs : W.cell? ⟨Bs, 0, none⟩ = some (.slice (some ⟨b, off, none⟩) zs.length cap)) (hc : SpnsAt W (some ⟨b, off, none⟩) zs.length zs) (hnW : n₀ ≤ W.heap.size) (h0 : J [] W) :
 CallsIn F n Tryz.prog 215 #[.func (.yield l) #[] #[], .pointer (some ⟨Bs, 0, none⟩)] W fun e W' => (∃ v, e = .returned v) ∧
  ((∃ ys, ys = zs ∧ J ys W') ∨ (∃ pre, pre <+: zs ∧ Jx pre W')) := by
 refine callsIn_of_wp Tryz.func215 rfl h7 ?_ hro
 simp only [Tryz.ntmps215, List.size_toArray, List.length_cons, List.length_nil, Nat.reduceAdd, Nat.reduceSub, Array.replicate_succ, Array.replicate_zero, List.push_toArray, List.append_toArray, List.nil_append, List.cons_append]
 gi_wp2
 gi_loopw [7] (fun i wr => ∃ k : Nat, k ≤ zs.length ∧ i = .int .i64 k ∧ J (zs.take k) wr ∧ Below n₀ W wr) (fun i _ => zs.length - (intOf i).toNat)
 case atStart => exact ⟨0, Nat.zero_le _, rfl, h0, Below.refl _ _⟩
 case round =>
  obtain ⟨k, hk, rfl, hJs, hnx⟩ := hrel
  by_cases hlt : k < zs.length
  · obtain ⟨b', off', x, e, hx, hC⟩ := (hc.below hb hnx).at_ hlt
    cases e
    have c0 := hC 0 _ rfl
    have c1 := hC 1 _ rfl
    simp only [Nat.add_zero] at c0
    obtain ⟨fn, tmps, assign, body, hy, hR⟩ := hY (zs.take k) x (wr.alloc (.cells #[.int .i64 x.inn, .int .i64 x.out] 60)) (hJ _ wr _ none hJs (World.grownBy_alloc _ _ none) (fun r e => by cases e)) (by rw [List.length_take]; omega)
    unfold Spn.enc at hy
    gi_wp2
    refine hR.mono ?_
    rintro e W3 (⟨rfl, hJ3, hk3⟩ | ⟨rfl, hJx3⟩)
    · gi_wp2
      go_roundw
      case rel => exact ⟨k + 1, by omega, by go_num, by rw [take_snoc' _ _ _ hx]; exact hJ3, (hnx.alloc (by have := hnx.size; omega) _).trans hk3⟩
      case measure => simp [intOf]; omega
    · gi_wp2
      refine bodyPost_ret (results_none rfl _ _ _) rfl ?_
      exact ⟨⟨_, rfl⟩, .inr ⟨_, by rw [← take_snoc' _ _ _ hx]; exact List.take_prefix _ _, hJx3⟩⟩
  · obtain rfl : k = zs.length := by omega
    gi_wp2
    go_end0
    exact ⟨⟨_, rfl⟩, .inl ⟨_, rfl, by rw [List.take_length] at hJs; exact hJs⟩⟩
set_option maxRecDepth 100000 in
set_option maxHeartbeats 1000000 in
theorem SpValues1_none_in (F : Fence) (n : Nat) (h7 : F.fn 215) (hro : F.round = none) (l Bs : Nat) (A : Option Addr) (cap : Nat) (J : List Spn → World → Prop) (W : World) (hBs : W.cell? ⟨Bs, 0, none⟩ = some (.slice A 0 cap)) (h0 : J [] W) :
 CallsIn F n Tryz.prog 215 #[.func (.yield l) #[] #[], .pointer (some ⟨Bs, 0, none⟩)] W fun e W' => (∃ v, e = .returned v) ∧ J [] W' := by
 refine callsIn_of_wp Tryz.func215 rfl h7 ?_ hro
 simp only [Tryz.ntmps215, List.size_toArray, List.length_cons, List.length_nil, Nat.reduceAdd, Nat.reduceSub, Array.replicate_succ, Array.replicate_zero, List.push_toArray, List.append_toArray, List.nil_append, List.cons_append]
 gi_wp2
 gi_loopw [7] (fun i wr => i = .int .i64 0 ∧ J [] wr) (fun _ _ => 0)
 case atStart => exact ⟨rfl, h0⟩
 case round =>
  obtain ⟨rfl, hJs⟩ := hrel
  gi_wp2
  go_end0
  exact ⟨⟨_, rfl⟩, hJs⟩
set_option maxHeartbeats 1000000 in
theorem SpValues_in (F : Fence) (n : Nat) (h5 : F.fn 161) (hro : F.round = none) (a : Option Addr) (len cap : Nat) (w : World) :
 CallsIn F n Tryz.prog 161 #[.slice a len cap] w fun e w' => e = .returned (.func (.func 215) #[] #[.pointer (some ⟨w.heap.size, 0, none⟩)]) ∧ w' = w.alloc (.cells #[.slice a len cap] 35) := by
 refine callsIn_of_wp Tryz.func161 rfl h5 ?_ hro
 simp only [Tryz.ntmps161, List.size_toArray, List.length_cons, List.length_nil, Nat.reduceAdd, Nat.reduceSub, Array.replicate_succ, Array.replicate_zero, List.push_toArray, List.append_toArray, List.nil_append, List.cons_append]
 gi_wp2
 go_ret
 exact ⟨rfl, rfl⟩
theorem SpValues_stops (F : Fence) (n : Nat) (h7 : F.fn 215) (hro : F.round = none) (hn : 1 ≤ n) (Bs n₀ : Nat) (A : Option Addr) (m cap : Nat) (zs : List Spn) (hz : m ≤ 1000000) (w : World) (hBs : Bs < w.heap.size) (hn₀ : n₀ ≤ w.heap.size)
 (hc : w.cell? ⟨Bs, 0, none⟩ = some (.slice A m cap)) (hI : SpnsAt w A m zs) (hA : ∀ ad, A = some ad → m ≠ 0 → ad.block < n₀) :
 SeqStopsK F n Tryz.prog 215 #[.pointer (some ⟨Bs, 0, none⟩)] (fun x : Spn => #[Spn.enc x]) (Below n₀) (fun ys => ys = zs) (fun pre => pre <+: zs) zs.length w := fun l J Jx W hW hJ _ hY h0 => by
 have hc' := (hW.cell (p := ⟨Bs, 0, none⟩) hBs).trans hc
 have hl := hI.len
 by_cases hm : m = 0
 · subst hm
   obtain rfl : zs = [] := List.eq_nil_of_length_eq_zero hl
   exact (SpValues1_none_in F n h7 hro l Bs A cap J W hc' h0).mono fun e W' ⟨he, hj⟩ => ⟨he, .inl ⟨_, rfl, hj⟩⟩
 · obtain ⟨b, off, rfl, hcs⟩ := hI.2 (by omega)
   have hb := hA _ rfl hm
   subst hl
   exact SpValues1_in F n h7 hro hn l Bs n₀ b off cap zs hz hb J Jx W hJ hY hc' (hI.below (n₀ := n₀) hb (hW.mono hn₀)) (by have := hW.size; omega) h0
end
section
open Go.RowKit Go.Shelf
attribute [local go_sem] Oper.semAt_some
theorem blk_turned {W W' : World} {B : Nat} {T : TypeId} {cs : Array Value} {row : Option Nat} (h : W.heap[B]? = some (.cells cs T (0, 0))) (hg : W.grownBy W' row) (hr : ∀ r, row = some r → ∃ o : Obj, W.heap[r]? = some o ∧ o.isCells = false) : W'.heap[B]? = some (.cells cs T (0, 0)) :=
 (hg.block B (Array.getElem?_eq_some_iff.1 h).1 (fun e => by obtain ⟨o, ho, hc⟩ := hr B e.symm; rw [h] at ho; cases ho; cases hc)).trans h
def SpAx (h0 g : Nat) (lb : Array Value) (x : Spn) (a' : Act) (W : World) : Prop :=
 ∃ Bx, h0 < Bx ∧ Blk W Bx 60 #[.int .i64 x.inn, .int .i64 x.out] ∧
  a' = { tmps := #[.slice none 0 0, .func (.func g) #[] lb, .pointer (some ⟨h0, 0, none⟩), undef, .slice none 0 0, .pointer (some ⟨Bx, 0, none⟩), .func (.func g) #[] lb, Spn.enc x, undef, undef, undef, undef, undef], defers := [] }
theorem flat_snocS (pre : List Spn) (x : Spn) : (pre ++ [x]).flatMap Spn.vals = pre.flatMap Spn.vals ++ [.int .i64 x.inn, .int .i64 x.out] := by
 rw [List.flatMap_append]; rfl
set_option maxRecDepth 100000 in
set_option maxHeartbeats 2000000 in
theorem SpAppendSeq_in (F : Fence) (n : Nat) (h11 : F.fn 256) (hro : F.round = none) (hn : 2 ≤ n) (g : Nat) (lb : Array Value) (hFg : F.fn g) (eg : ∀ args w, (callFunc g args).run Tryz.prog w = .ok (.enter g args) w)
 (zs : List Spn) (hz : zs.length ≤ 1000000) (n₀ : Nat) (w : World) (hn₀ : n₀ ≤ w.heap.size) (hseq : SeqStopsK F (n - 1) Tryz.prog g lb (fun x : Spn => #[Spn.enc x]) (Below n₀) (fun ys => ys = zs) (fun pre => pre <+: zs) zs.length w) :
 CallsIn F n Tryz.prog 256 #[.slice none 0 0, .func (.func g) #[] lb] w fun e w' => ∃ v, e = .returned v ∧ w'.ownsRow w.heap.size 60 2 v zs.length (zs.flatMap Spn.vals) ∧ (v = .slice none 0 0 ↔ zs = []) ∧ Below w.heap.size w w' := by
 have h1 : 1 ≤ n := by omega
 obtain ⟨i0, hi, hz0, hz1, hz2⟩ := info_parts info_span
 refine callsIn_of_wp_marks Tryz.func256 rfl h11 ?_ hro
 simp only [Tryz.ntmps256, List.size_toArray, List.length_cons, List.length_nil, Nat.reduceAdd, Nat.reduceSub, Array.replicate_succ, Array.replicate_zero, List.push_toArray, List.append_toArray, List.nil_append, List.cons_append]
 gi_wp2
 have bO := Boxed.new w 35 (.slice none 0 0)
 have hB0 : Below w.heap.size w (w.alloc (.cells #[.slice none 0 0] 35)) := (Below.refl _ w).alloc (Nat.le_refl _) _
 refine wpIn_rangeFunc_ownH hro h1 (gf := g) (lb := lb) rfl hFg eg hseq (fun h k => belowK_t h k) (belowK_b (by simp; omega)) hB0 (fun _ => rfl)
  (fun pre W => (∃ v, Boxed W w.heap.size 35 v ∧ W.ownsRow w.heap.size 60 2 v pre.length (pre.flatMap Spn.vals) ∧ (v = .slice none 0 0 ↔ pre = [])) ∧ Below w.heap.size w W)
  (fun _ _ _ => False)
  (OwnFrom.and (Own.from (holdsRow_own w.heap.size w.heap.size 35 60 2 (fun pre : List Spn => pre.length) (fun pre => pre.flatMap Spn.vals) (fun pre v => v = .slice none 0 0 ↔ pre = [])) _) (ownFrom_below (Nat.le_refl _) (by simp)))
  (fun _ _ _ _ _ hs _ _ => hs)
  ⟨⟨_, bO, World.ownsRow_nil _ _ _ _, by simp⟩, hB0⟩
  (SpAx w.heap.size g lb)
  (fun x a' _ W W' row hs hg hr => by obtain ⟨Bx, hBx, hb, he⟩ := hs; exact ⟨Bx, hBx, blk_turned hb hg (fun r e => (hr r e).2), he⟩)
  ?assign ?body ?done ?stop
 case assign =>
  rintro l pre x W K ⟨⟨v, hv, hrow, hnil⟩, hB⟩ hK
  have hsz := hB.size
  have hvl := hv.lt
  unfold Spn.enc
  gi_wp2
  exact hK _ _ ((KeepsOthers.alloc _ _).from _) ((Below.refl _ W).alloc (by omega) _) ⟨⟨v, hv.alloc _, hrow.alloc _, hnil⟩, hB.alloc hB.size _⟩ ⟨W.heap.size, hvl, Blk.new W _ _, rfl⟩
 case body =>
  rintro l pre x a' W hl ⟨r, hr⟩ ⟨⟨v, hv, hrow, hnil⟩, hB⟩ ⟨Bx, hBx, bX, rfl⟩ hlt
  have hc := hv.cell
  have x0 := bX.cell 0
  have x1 := bX.cell 1
  simp only [List.getElem?_toArray, List.getElem?_cons_zero, List.getElem?_cons_succ] at x0 x1
  gi_wp2_with (gi_at_builtin; refine wpListIn_append_own _ rfl _ _ 35 rfl w.heap.size 60 i0 (.agg #[.int .i64 0, .int .i64 0]) 2 16 Tryz.underlying35 hi hz0 hz1 hz2 rfl (by decide) _ _ _ rfl (hrow.alloc _) ⟨W.heap.size, 0, none⟩ 1 1 [.int .i64 x.inn, .int .i64 x.out] rfl rfl (news_new _ _ _) (by simp [Value.oneCell']) (by simp [maxLen] <;> omega) (by omega) (by have := hB.size; simp; omega) ?_; intro v' w1 hown' hgrow _; obtain ⟨g', cap', rfl⟩ := ownsRow_succ hown'; obtain ⟨hv1, hv2, hr2, hk2, hb2⟩ := hv.appended (by decide) hrow hB.size (Nat.le_refl _) hown' hgrow; have hc1 := hv1.cell; have hf1 := hv1.frozen)
  exact ⟨hk2.from _, hb2.mono hn₀, ⟨_, hv2, by rw [flat_snocS]; simpa using hr2, by simp⟩, hB.trans hb2⟩
 case done =>
  rintro D ys W hD rfl ⟨⟨v, hv, hrow, hnil⟩, hB⟩ hK
  have hc := hv.cell
  gi_wp2
  refine ⟨by simp, .inl ⟨_, _, rfl, run_takeDeferred hK, ?_⟩⟩
  exact ⟨_, results_tmp rfl _ _ _, v, rfl, ownsRow_putObj hrow _ hK rfl, hnil, hB.trans (belowK_b (w := w) (Nat.le_refl _) W D _ _ (by simp at hD; omega) hK rfl rfl)⟩
 case stop =>
  rintro D c pre W _ _ h _
  exact h.elim
set_option maxHeartbeats 1000000 in
theorem SpCollect_any (A : Option Addr) (m cap : Nat) (zs : List Spn) (w : World) (Bs : Nat) (hz : m ≤ 1000000) (hBs : Bs < w.heap.size) (hc : w.cell? ⟨Bs, 0, none⟩ = some (.slice A m cap)) (hI : SpnsAt w A m zs) :
 Calls Tryz.prog 213 #[.func (.func 215) #[] #[.pointer (some ⟨Bs, 0, none⟩)]] w fun e w' => ∃ v, e = .returned v ∧ w'.ownsRow w.heap.size 60 2 v m (zs.flatMap Spn.vals) ∧ (v = .slice none 0 0 ↔ zs = []) ∧ Ext w w' := by
 have hl := hI.len
 have hap : Calls Tryz.prog 256 #[.slice none 0 0, .func (.func 215) #[] #[.pointer (some ⟨Bs, 0, none⟩)]] w fun e w' => ∃ v, e = .returned v ∧ w'.ownsRow w.heap.size 60 2 v m (zs.flatMap Spn.vals) ∧ (v = .slice none 0 0 ↔ zs = []) ∧ Ext w w' := by
  subst hl
  refine (callsIn_wide (n := 3)).1 ?_
  refine SpAppendSeq_in Fence.wide 3 trivial rfl (by omega) _ _ trivial (enters_of Tryz.func215 (by kernel_rfl) rfl) zs hz w.heap.size w (Nat.le_refl _) ?_
  refine SpValues_stops Fence.wide 2 trivial rfl (by omega) Bs w.heap.size A zs.length cap zs hz w hBs (Nat.le_refl _) hc hI ?_
  intro ad hA h0
  obtain ⟨b, off, hA', hcs⟩ := hI.2 (by omega)
  have hl0 : 0 < zs.length := by omega
  have := World.block_lt_of_cell? w _ (hcs 0 zs[0] (List.getElem?_eq_getElem hl0) 0 _ rfl)
  rw [hA'] at hA
  cases hA
  exact this
 have HA := Lib.hid hap
 clear hap
 go_enter Tryz.func213, Tryz.ntmps213
 go_wp2_with fail
 refine HA.out.mono ?_
 rintro e w' ⟨v, rfl, h1, h2, h3⟩
 have H1 := Lib.hid h1
 have H2 := Lib.hid h2
 have H3 := Lib.hid h3
 clear h1 h2 h3 HA
 go_wp2_with fail
 go_ret
 exact ⟨v, rfl, H1.out, H2.out, H3.out⟩
end
section
open Go.RowKit Go.Shelf Go.Sort
instance : Inhabited Spn := ⟨⟨0, 0⟩⟩
def cmpSp (x y : Spn) : Int := cmpI x.inn y.inn
def ltSp (x y : Spn) : Bool := decide (x.inn < y.inn)
theorem ltOf_Sp : ltOf cmpSp = ltSp := by
 funext x y
 unfold ltOf cmpSp ltSp cmpI
 apply decide_eq_decide.2
 split
 · simp; assumption
 · split <;> omega
theorem ltSp_swo : SWO ltSp where
 irrefl x := by unfold ltSp; simp
 trans x y z h1 h2 := by unfold ltSp at *; simp only [decide_eq_true_eq] at *; omega
 ntrans x y z h1 h2 := by unfold ltSp at *; simp only [decide_eq_false_iff_not] at *; omega
theorem cmpSp_enter : ∀ args w, (callFunc 162 args).run Tryz.prog w = .ok (.enter 162 args) w := Go.Proofs.enters_of Tryz.func162 (by kernel_rfl) rfl
set_option maxRecDepth 100000 in
set_option maxHeartbeats 1000000 in
theorem cmpSp_any (x y : Spn) (w : World) : Calls Tryz.prog 162 #[.agg x.vals.toArray, .agg y.vals.toArray] w fun e w' => e = .returned (.int .i64 (cmpSp x y)) ∧ Extd w w' := by
 show Calls Tryz.prog 162 #[.agg #[.int .i64 x.inn, .int .i64 x.out], .agg #[.int .i64 y.inn, .int .i64 y.out]] w _
 have HX := Lib.hid (((Extd.refl w).alloc (.cells #[.int .i64 x.inn, .int .i64 x.out] 60)).alloc (.cells #[.int .i64 y.inn, .int .i64 y.out] 60))
 have HC := Lib.hid (fun w' => Compare_any x.inn y.inn w')
 unfold cmpSp
 go_enter Tryz.func162, Tryz.ntmps162
 go_wp2_with fail
 refine (HC.out _).mono ?_
 rintro e w1 ⟨rfl, rfl⟩
 go_wp2_with fail
 go_ret
 exact ⟨rfl, HX.out⟩
theorem arr_sortedSp {d : Array Spn} (h : SortedIn ltSp 0 d.size d) : d.toList.Pairwise fun x y => ltSp y x = false := by
 refine List.pairwise_iff_getElem.2 fun i j hi hj hij => ?_
 have hi' : i < d.size := by simpa using hi
 have hj' : j < d.size := by simpa using hj
 have := h i j (Nat.zero_le _) hij hj'
 rw [getElem!_pos d j hj', getElem!_pos d i hi'] at this
 simpa using this
theorem SortNoneSp (F : Value) (w : World) : Calls Tryz.prog 214 #[.slice none 0 0, F] w fun e w' => e = .returned (.tuple #[]) ∧ w' = w := AnyF.slices_SortFunc_none Tryz.srtSp none 0 F w
theorem SortSp_own {w0 w : World} {L g n c : Nat} {l : List Spn} (hx : Ext w0 w) (hL : w0.heap.size ≤ L) (h1 : w.ownsRow L 60 2 (.slice (some ⟨g, 0, none⟩) n c) n (l.flatMap Spn.vals)) (hl : l.length = n) (hn : n < 4611686018427387904) :
 Calls Tryz.prog 214 #[.slice (some ⟨g, 0, none⟩) n c, .func (.func 162) #[] #[]] w fun e w' => e = .returned (.tuple #[]) ∧ Ext w0 w' ∧ ∃ l' : List Spn, l'.Perm l ∧ (l'.Pairwise fun x y => ltSp y x = false) ∧ w'.ownsRow L 60 2 (.slice (some ⟨g, 0, none⟩) n c) n (l'.flatMap Spn.vals) := by
 have hLg : L ≤ g := own_lt h1 g rfl
 have hg : g < w.heap.size := by
  rcases h1.2 with ⟨hv, -⟩ | ⟨g', cap, cur, hv, -, hb, -⟩
  · cases hv
  · cases hv; exact (Array.getElem?_eq_some_iff.1 hb).1
 have hz : l.toArray.size = n := by simp [hl]
 have hH := own_holds (enc := Spn.vals) (k := 2) (fun _ => rfl) h1 hl
 have hcmp : CmpLays Tryz.prog 162 #[] Spn.vals 2 cmpSp g 0 l.toArray.size w := fun m os dk hs x y => (cmpSp_any x y _).mono fun e w' ⟨he, hx⟩ => ⟨he, hx.grow⟩
 have hcon := AnyQ.slices_SortFunc Tryz.srtSp 2 Tryz.isAgg60 Tryz.sizeOf60 Spn.vals (fun _ => rfl) spn_ones cmpSp (by rw [ltOf_Sp]; exact ltSp_swo) 162 #[] g 0 c l.toArray w cmpSp_enter hcmp hH hg (by rw [hz]; exact hn)
 rw [hz, ltOf_Sp] at hcon
 refine Calls.mono hcon ?_
 rintro e w' ⟨rfl, d', m, os, hp, hs, rfl⟩
 obtain ⟨hsz, -, hperm⟩ := hp
 have hd : d'.size = n := by rw [hsz, hz]
 have e1 : d'.extract 0 n = d' := by rw [← hd]; exact Array.extract_size
 have e2 : l.toArray.extract 0 n = l.toArray := by rw [← hz]; exact Array.extract_size
 rw [e1, e2] at hperm
 have hS : SWK Spn.vals 2 w g 0 d'.toList.toArray (sortWorldK Spn.vals 2 w g 0 m d' os) := ⟨m, os, by simp⟩
 have hO := swk_own (enc := Spn.vals) (fun _ => rfl) h1 hS (by simpa using hd)
 exact ⟨rfl, hx.grown (swk_grown (enc := Spn.vals) (k := 2) (g := g) (l := d'.toList) ⟨m, os, by simp⟩) (fun q hq => by cases hq; omega), d'.toList, by simpa using hperm, arr_sortedSp (by rw [hd]; exact hs), hO⟩
set_option maxHeartbeats 1000000 in
theorem SortedFunc_any (A : Option Addr) (m cap : Nat) (zs : List Spn) (w : World) (Bs : Nat) (hz : m ≤ 1000000) (hBs : Bs < w.heap.size) (hc : w.cell? ⟨Bs, 0, none⟩ = some (.slice A m cap)) (hI : SpnsAt w A m zs) :
 Calls Tryz.prog 160 #[.func (.func 215) #[] #[.pointer (some ⟨Bs, 0, none⟩)], .func (.func 162) #[] #[]] w fun e w' =>
  ∃ (v : Value) (l : List Spn), e = .returned v ∧ l.Perm zs ∧ (l.Pairwise fun x y => ltSp y x = false) ∧ w'.ownsRow w.heap.size 60 2 v m (l.flatMap Spn.vals) ∧ Ext w w' := by
 have hl := hI.len
 have HC := Lib.hid (SpCollect_any A m cap zs w Bs hz hBs hc hI)
 have HL := Lib.hid hl
 clear hBs hc hI hl
 go_enter Tryz.func160, Tryz.ntmps160
 go_wp2_with fail
 refine HC.out.mono ?_
 rintro e w1 ⟨v, rfl, h1, h2, h3⟩
 have H1 := Lib.hid h1
 have H3 := Lib.hid h3
 have H2 := Lib.hid h2
 clear h1 h2 h3 HC
 by_cases h0 : zs = []
 · have hv := H2.out.2 h0
   subst hv
   go_wp2_with fail
   refine (SortNoneSp _ _).mono ?_
   rintro e w2 ⟨rfl, rfl⟩
   go_wp2_with fail
   go_ret
   exact ⟨_, zs, rfl, List.Perm.refl _, by rw [h0]; exact List.Pairwise.nil, H1.out, H3.out⟩
 · have hm : 0 < m := by rw [← HL.out]; exact List.length_pos_iff.2 h0
   obtain ⟨g, c, rfl, -⟩ := own_form H1.out hm
   have HS := Lib.hid (SortSp_own H3.out (Nat.le_refl _) H1.out HL.out (by omega))
   clear h0 H2
   go_wp2_with fail
   refine HS.out.mono ?_
   rintro e w2 ⟨rfl, hx, l', hp, hs, ho⟩
   have HR := Lib.hid (And.intro hp (And.intro hs (And.intro ho hx)))
   clear hx hp hs ho HS
   go_wp2_with fail
   go_ret
   exact ⟨_, l', rfl, HR.out.1, HR.out.2.1, HR.out.2.2.1, HR.out.2.2.2⟩
end
section
open Go.RowKit
def mgl (l : List Spn) : List Spn := (l.filter fun s => decide (s.inn < s.out)).foldl mgStep []
theorem mgl_skip {l : List Spn} {x : Spn} (h : ¬ x.inn < x.out) : mgl (l ++ [x]) = mgl l := by
 unfold mgl; rw [List.filter_append]; simp [h]
theorem mgl_add {l : List Spn} {x : Spn} (h : x.inn < x.out) : mgl (l ++ [x]) = mgStep (mgl l) x := by
 unfold mgl; rw [List.filter_append, List.foldl_append]; simp [h]
theorem mgStep_len (l : List Spn) (s : Spn) : (mgStep l s).length ≤ l.length + 1 := by
 unfold mgStep
 split
 · split
   · rename_i x hx _
     have : l ≠ [] := by rintro rfl; simp at hx
     have := List.length_pos_iff.2 this
     simp
   · simp
 · simp
theorem mg_fold_len : ∀ (l m : List Spn), (l.foldl mgStep m).length ≤ m.length + l.length
 | [], m => by simp
 | x :: l, m => by
  have := mg_fold_len l (mgStep m x)
  have := mgStep_len m x
  simp only [List.foldl_cons, List.length_cons]; omega
theorem mgl_len (l : List Spn) : (mgl l).length ≤ l.length := by
 have h := mg_fold_len (l.filter fun s => decide (s.inn < s.out)) []
 have := List.length_filter_le (fun s : Spn => decide (s.inn < s.out)) l
 unfold mgl; simp at h; omega
theorem sp_cell {w : World} {base : Nat} {v : Value} {ps : List Spn} {p : Spn} (h : w.ownsRow base 60 2 v (ps.length + 1) ((ps ++ [p]).flatMap Spn.vals)) : ∃ g cap, v = .slice (some ⟨g, 0, none⟩) (ps.length + 1) cap ∧ base ≤ g ∧ g < w.heap.size ∧ Cells Spn.vals w g (ps.length * 2) p := by
 obtain ⟨g, cap, rfl, h1, h2⟩ := own_form h (by omega)
 obtain ⟨A', c', he, _, _, hS, _⟩ := own_sl (f := Spn.vals) (size := 2) (fun _ => rfl) (l := ps ++ [p]) (by simp) h
 injection he with e1 e2 e3
 subst e1
 obtain ⟨b, off, x, hA, hx, hC⟩ := hS.at_ (i := ps.length) (by omega)
 injection hA with hA
 injection hA with e4 e5
 subst e4 e5
 have : x = p := by simpa using hx.symm
 subst this
 exact ⟨g, cap, rfl, h1, h2, by simpa using hC⟩
theorem sp_set {ps : List Spn} {p : Spn} (o : Int) : ((ps ++ [p]).flatMap Spn.vals).set (ps.length * 2 + 1) (.int .i64 o) = (ps ++ [(⟨p.inn, o⟩ : Spn)]).flatMap Spn.vals := by
 have hl : (ps.flatMap Spn.vals).length = ps.length * 2 := flatMap_len Spn.vals 2 (fun _ => rfl) ps
 rw [List.flatMap_append, List.flatMap_append, List.set_append_right _ _ (by omega), hl]
 congr 1
 rw [show ps.length * 2 + 1 - ps.length * 2 = 1 by omega]
 rfl
theorem snocSp {l : List Spn} (h : l ≠ []) : ∃ ps p, l = ps ++ [p] := by
 rcases List.eq_nil_or_concat l with rfl | ⟨ps, p, e⟩
 · exact absurd rfl h
 · exact ⟨ps, p, by rw [List.concat_eq_append] at e; exact e⟩
def SpnsPost (l : List Spn) (w : World) (en : Ending) (w' : World) : Prop := ∃ A c, en = .returned (.slice A l.length c) ∧ SpnsAt w' A l.length l ∧ l.length ≤ c ∧ Ext w w' ∧ ∀ ad, A = some ad → w.heap.size ≤ ad.block
def MgRel (w1 : World) (m : Nat) (l : List Spn) (v i : Value) (wr : World) : Prop :=
 ∃ k : Nat, k ≤ m ∧ i = .int .i64 k ∧ Ext w1 wr ∧ wr.ownsRow w1.heap.size 60 2 v (mgl (l.take k)).length ((mgl (l.take k)).flatMap Spn.vals)
set_option maxRecDepth 100000 in
set_option maxHeartbeats 8000000 in
theorem Merge_any (A : Option Addr) (n c : Nat) (zs : List Spn) (w : World) (hl : SpnsAt w A n zs) (hn : n ≤ 1000000) :
 Calls Tryz.prog 99 #[.slice A n c] w (SpnsPost (joinS zs) w) := by
 have HV := Lib.hid ((callsIn_wide (n := 1)).1 (SpValues_in Fence.wide 1 trivial rfl A n c w))
 have HXv := Lib.hid ((Ext.refl w).alloc (.cells #[.slice A n c] 35))
 have HSF := Lib.hid (SortedFunc_any A n c zs (w.alloc (.cells #[.slice A n c] 35)) w.heap.size hn (by simp) (by rw [(Blk.new w 35 #[.slice A n c]).cell 0]; rfl) (hl.ext HXv.out))
 have hlen := hl.len
 clear hl
 unfold SpnsPost
 go_enter Tryz.func99, Tryz.ntmps99
 go_wp2_with fail
 refine HV.out.mono ?_
 rintro e w0 ⟨rfl, rfl⟩
 go_wp2_with fail
 refine HSF.out.mono ?_
 rintro e w1 ⟨v, l, rfl, hp, hs, ho, hx⟩
 have hll : l.length = n := by rw [hp.length_eq]; exact hlen
 have HX1 := Lib.hid (HXv.out.trans hx)
 have HMJ : Hid (mgl l = joinS zs) := merge_join hp (hs.imp fun {x y} h => by unfold ltSp at h; simpa using h)
 obtain ⟨SA, sc, rfl, hsc, hscm, hS, hfr⟩ := own_sl (f := Spn.vals) (size := 2) (fun _ => rfl) hll ho
 have HL : Hid (SpnsAt w1 SA n l) := hS
 have hz1 := HX1.out.size
 clear HV HXv HSF hlen hp hs ho hx hS hfr hsc hscm
 go_wp2_with fail
 go_loopw [3, 13] (fun v i wr => MgRel w1 n l v i wr) (fun _ i _ => n - (intOf i).toNat)
 case atStart => exact ⟨0, Nat.zero_le _, rfl, Ext.refl _, ⟨rfl, .inl ⟨rfl, rfl⟩⟩⟩
 case round =>
  obtain ⟨k, hk, rfl, hx, hown⟩ := hrel
  have HX := Lib.hid hx
  have HO := Lib.hid hown
  have hml : (mgl (l.take k)).length ≤ k := by have := mgl_len (l.take k); rw [List.length_take] at this; omega
  have hzr := hx.size
  clear hx hown
  by_cases hlt : k < n
  case neg =>
   have hkn : k = n := by omega
   subst hkn
   have HT : Hid (mgl (l.take k) = joinS zs) := by show _ = _; rw [List.take_of_length_le (by omega)]; exact HMJ.out
   rw [HT.out] at HO
   obtain ⟨A', c', rfl, hc, _, hS, hfr⟩ := own_sl (f := Spn.vals) (size := 2) (fun _ => rfl) rfl HO.out
   have HR := Lib.hid (And.intro hc (And.intro hS (And.intro hfr (HX1.out.trans HX.out))))
   clear hc hS hfr HO HT
   go_wp2_with fail
   go_ret
   exact ⟨A', c', rfl, HR.out.2.1, HR.out.1, HR.out.2.2.2, fun ad h => Nat.le_trans hz1 (HR.out.2.2.1 ad h)⟩
  obtain ⟨b, off, x, rfl, hxk, hC⟩ := (HL.out.ext HX.out).at_ hlt
  have c0 := hC 0 _ rfl
  have c1 := hC 1 _ rfl
  simp only [Nat.add_zero] at c0
  have HTk := Lib.hid (take_snoc' l k x hxk)
  have HBx := Lib.hid (Blk.new wr 60 #[.int .i64 x.inn, .int .i64 x.out])
  have HXx := Lib.hid ((Ext.refl wr).alloc (.cells #[.int .i64 x.inn, .int .i64 x.out] 60))
  clear hC hxk
  by_cases hio : x.inn < x.out
  case neg =>
   have hge : x.inn ≥ x.out := by omega
   have hd1 : decide (x.inn ≥ x.out) = true := by simpa using hge
   have hd2 : decide (x.out ≤ x.inn) = true := by simpa using hge
   have HT2 : Hid (mgl (l.take (k + 1)) = mgl (l.take k)) := by show _ = _; rw [HTk.out, mgl_skip hio]
   clear hio hge
   go_wp2_with fail
   exact ⟨⟨k + 1, by omega, by go_num, HX.out.trans HXx.out, by rw [HT2.out]; exact own_ext HO.out HXx.out⟩, by simp [intOf]; omega⟩
  have hd1 : decide (x.inn ≥ x.out) = false := by simp; omega
  have hd2 : decide (x.out ≤ x.inn) = false := by simp; omega
  have HT2 : Hid (mgl (l.take (k + 1)) = mgStep (mgl (l.take k)) x) := by show _ = _; rw [HTk.out, mgl_add hio]
  clear hio HTk
  generalize mgl (l.take k) = os at *
  rcases Classical.em (os = []) with hos | hos
  · subst hos
    obtain ⟨A', cap', rfl, hcap, hcm, _, _⟩ := own_sl (f := Spn.vals) (size := 2) (l := []) (fun _ => rfl) rfl HO.out
    rw [mg_none] at HT2
    simp only [List.length_nil] at *
    go_wp2_with fail
    go_quiet (fail)
    go_upto_region 10 with fail
    refine wp_drewN ?_
    intro w3 hx3 hs3
    have HXw3 := Lib.hid (HXx.out.trans hx3)
    have HO3 := Lib.hid (own_ext HO.out HXw3.out)
    have HBx3 := Lib.hid (HBx.out.ext hx3)
    have hcl3 := fun o => HBx3.out.cell o
    have hb3 := HXw3.out.size
    clear hx3 hs3
    go_wp2_with (at_builtin; refine wpList_append1 rfl (.tmp 49) (.tmp 51) 35 rfl info_span Tryz.underlying35 rfl (by decide) (HO3.out.alloc _) (by exact rfl) w3.heap.size _ (by exact rfl) (by exact Blk.new' rfl) (by exact rfl) (by simp [Value.oneCell']) (by omega) (by simp [maxLen] <;> omega) (by first | omega | (simp; omega) | simp) ?_; intro v5 w5 hown5 hgr; have HO5 := Lib.hid hown5; have HX5 := Lib.hid (Ext.grown ((HX.out.trans HXw3.out).alloc _) hgr (fun q hq => own_lt HO3.out q hq)); clear hown5 hgr)
    exact ⟨⟨k + 1, by omega, by go_num, HX5.out, by rw [HT2.out]; exact HO5.out⟩, by simp [intOf]; omega⟩
  obtain ⟨ps, p, rfl⟩ := snocSp hos
  clear hos
  have hlen : (ps ++ [p]).length = ps.length + 1 := by simp
  rw [hlen] at HO hml
  clear hlen
  obtain ⟨g, cap, rfl, hg1, hg2, hCp⟩ := sp_cell HO.out
  have p1 := HXx.out.cell (hCp 1 _ rfl)
  rw [mg_snoc] at HT2
  by_cases hjoin : x.inn ≤ p.out
  · rw [if_pos hjoin] at HT2
    have d1 : decide (x.inn ≤ p.out) = true := by simpa using hjoin
    clear hjoin
    go_wp2_with fail
    go_quiet (fail)
    go_upto_region 9 with fail
    refine wp_drewN ?_
    intro w3 hx3 hs3
    have HXw3 := Lib.hid (HXx.out.trans hx3)
    have HO3 := Lib.hid (own_ext HO.out HXw3.out)
    have HBx3 := Lib.hid (HBx.out.ext hx3)
    have q1 := hx3.cell p1
    have b1 := HBx3.out.cell 1
    simp only [List.getElem?_toArray, List.getElem?_cons_zero, List.getElem?_cons_succ] at b1
    have hfg := World.ownsRow.frozenAt HO3.out (ps.length * 2 + 1)
    obtain ⟨hst, hgr⟩ := World.ownsRow.stored HO3.out (ps.length * 2 + 1) (.int .i64 (max p.out x.out))
    have HO5 := Lib.hid hst
    have HX5 := Lib.hid (Ext.grown (HX.out.trans HXw3.out) hgr (fun q hq => by cases hq; exact hg1))
    have HSO := Lib.hid (sp_set (ps := ps) (p := p) (max p.out x.out))
    clear hst hgr hx3 hs3 p1
    go_region
    try simp only [Exit.inBlock, Exit.then]
    have HF := Lib.hid (And.intro (HX5.out.drew) (own_ext HO5.out (Ext.refl _).drew))
    go_wp2_with fail
    exact ⟨⟨k + 1, by omega, by go_num, HF.out.1, by rw [HT2.out, ← HSO.out, show (ps ++ [(⟨p.inn, max p.out x.out⟩ : Spn)]).length = ps.length + 1 by simp]; exact HF.out.2⟩, by simp [intOf]; omega⟩
  · rw [if_neg hjoin] at HT2
    have d1 : decide (x.inn ≤ p.out) = false := by simpa using hjoin
    clear hjoin
    go_wp2_with fail
    go_quiet (fail)
    go_upto_region 10 with fail
    refine wp_drewN ?_
    intro w3 hx3 hs3
    have HXw3 := Lib.hid (HXx.out.trans hx3)
    have HO3 := Lib.hid (own_ext HO.out HXw3.out)
    have HBx3 := Lib.hid (HBx.out.ext hx3)
    have hcl3 := fun o => HBx3.out.cell o
    have hb3 := HXw3.out.size
    clear hx3 hs3 p1
    go_wp2_with (at_builtin; refine wpList_append1 rfl (.tmp 49) (.tmp 51) 35 rfl info_span Tryz.underlying35 rfl (by decide) (HO3.out.alloc _) (by exact rfl) w3.heap.size _ (by exact rfl) (by exact Blk.new' rfl) (by exact rfl) (by simp [Value.oneCell']) (by omega) (by simp [maxLen] <;> omega) (by first | omega | (simp; omega) | simp) ?_; intro v5 w5 hown5 hgr; have HO5 := Lib.hid hown5; have HX5 := Lib.hid (Ext.grown ((HX.out.trans HXw3.out).alloc _) hgr (fun q hq => own_lt HO3.out q hq)); clear hown5 hgr)
    exact ⟨⟨k + 1, by omega, by go_num, HX5.out, by rw [HT2.out, show ps ++ [p, x] = (ps ++ [p]) ++ [x] by simp, List.flatMap_append, show ((ps ++ [p]) ++ [x]).length = ps.length + 1 + 1 by simp]; exact HO5.out⟩, by simp [intOf]; omega⟩
end
section
open Go.RowKit
def putT (l : List Spn) (s : Spn) : Nat := (l.takeWhile fun x => decide (x.inn ≤ s.inn)).length
def PutSPost (l : List Spn) (w : World) (en : Ending) (w' : World) : Prop := ∃ v, en = .returned v ∧ w'.ownsRow w.heap.size 60 2 v l.length (l.flatMap Spn.vals) ∧ Ext w w'
def PutSRel (w0 : World) (l : List Spn) (s : Spn) (i : Value) (wr : World) : Prop := ∃ k : Nat, k ≤ putT l s ∧ i = .int .i64 k ∧ Ext w0 wr
end
section
open Go.RowKit
def srtK (zs : List Spn) (k : Nat) : List Spn := sortS' (full (zs.take k))
def J1Rel (w : World) (n : Nat) (zs : List Spn) (v i : Value) (wr : World) : Prop :=
 ∃ k : Nat, k ≤ n ∧ i = .int .i64 k ∧ Ext w wr ∧ wr.ownsRow w.heap.size 60 2 v (srtK zs k).length ((srtK zs k).flatMap Spn.vals) ∧ (srtK zs k = [] → v = .slice none 0 0)
def J2Rel (w1 : World) (m : Nat) (l : List Spn) (v i : Value) (wr : World) : Prop :=
 ∃ k : Nat, k ≤ m ∧ i = .int .i64 k ∧ Ext w1 wr ∧ wr.ownsRow w1.heap.size 60 2 v (mg (l.take k)).length ((mg (l.take k)).flatMap Spn.vals)
def NmRel (w : World) (n : Nat) (i : Value) (wr : World) : Prop := ∃ k : Nat, k ≤ n ∧ i = .int .i64 k ∧ Ext w wr
def SpnsPost2 (l : List Spn) (w : World) (en : Ending) (w' : World) : Prop := ∃ A c, en = .returned (.tuple #[.slice A l.length c, .int .i64 0]) ∧ SpnsAt w' A l.length l ∧ l.length ≤ c ∧ Ext w w' ∧ ∀ ad, A = some ad → w.heap.size ≤ ad.block
set_option maxRecDepth 100000 in
set_option maxHeartbeats 2000000 in
theorem Norm_ok (A : Option Addr) (n c : Nat) (zs : List Spn) (w : World) (hl : SpnsAt w A n zs) (hn : n ≤ 400) (hr : ∀ s ∈ zs, s.inn < s.out → 0 ≤ s.inn ∧ s.out ≤ 10378368000) :
 Calls Tryz.prog 43 #[.slice A n c] w (SpnsPost2 (joinS zs) w) := by
 have HL := Lib.hid hl
 have HR := Lib.hid hr
 have HM := Lib.hid (fun w' (hx : Ext w w') => Merge_any A n c zs w' (hl.ext hx) (by omega))
 have hb : decide ((n : Int) > 400) = false := by simp; omega
 have hb2 : decide ((400 : Int) < n) = false := by simp; omega
 clear hl hr
 unfold SpnsPost2
 unfold SpnsPost at HM
 go_enter Tryz.func43, Tryz.ntmps43
 go_wp2_with fail
 clear hb hb2
 go_loopw [11] (fun i wr => NmRel w n i wr) (fun i _ => n - (intOf i).toNat)
 case atStart => exact ⟨0, Nat.zero_le _, rfl, Ext.refl _⟩
 case round =>
  obtain ⟨k, hk, rfl, hx⟩ := hrel
  have HX := Lib.hid hx
  clear hx
  by_cases hlt : k < n
  · obtain ⟨b, off, x, rfl, hxk, hC⟩ := (HL.out.ext HX.out).at_ hlt
    have c0 := hC 0 _ rfl
    have c1 := hC 1 _ rfl
    simp only [Nat.add_zero] at c0
    have hxr := HR.out x (List.mem_of_getElem? hxk)
    have HXx := Lib.hid (HX.out.alloc (.cells #[.int .i64 x.inn, .int .i64 x.out] 60))
    clear hC hxk
    by_cases hio : x.inn < x.out
    · obtain ⟨h1, h2⟩ := hxr hio
      have d1 : decide (x.inn < x.out) = true := by simpa using hio
      have d2 : decide (x.inn < 0) = false := by simpa using h1
      have d3 : decide (x.out > 10378368000) = false := by simpa using h2
      have d4 : decide (10378368000 < x.out) = false := by simpa using h2
      clear hio hxr h1 h2
      go_wp2_with fail
      exact ⟨⟨k + 1, by omega, by go_num, HXx.out⟩, by simp [intOf]; omega⟩
    · have d1 : decide (x.inn < x.out) = false := by simpa using hio
      clear hio hxr
      go_wp2_with fail
      exact ⟨⟨k + 1, by omega, by go_num, HXx.out⟩, by simp [intOf]; omega⟩
  · have hkn : k = n := by omega
    subst hkn
    go_wp2_with fail
    refine (HM.out _ HX.out).mono ?_
    rintro e w2 ⟨A', c', rfl, h1, h2, h3, h4⟩
    have HF := Lib.hid (And.intro h1 (And.intro h2 (And.intro (HX.out.trans h3) (fun ad h => Nat.le_trans HX.out.size (h4 ad h)))))
    clear h1 h2 h3 h4
    go_wp2_with fail
    go_ret2
    exact ⟨A', c', rfl, HF.out.1, HF.out.2.1, HF.out.2.2.1, HF.out.2.2.2⟩
end
section
open Go.RowKit Go.Maps
def KB (T : TypeId) (w w' : World) : Prop := ∀ (b : Nat) (cur : Array Value), w.heap[b]? = some (Obj.cells cur T (0, 0)) → w'.heap[b]? = some (Obj.cells cur T (0, 0))
section
variable {T T' : TypeId} {w w1 w2 : World} {L n : Nat} {A : Option Addr}
theorem KB.refl (w : World) : KB T w w := fun _ _ h => h
theorem KB.trans (h : KB T w w1) (k : KB T w1 w2) : KB T w w2 := fun b cur hb => k b cur (h b cur hb)
theorem KB.ext (k : Ext w w1) : KB T w w1 := fun b _ hb => (k.block b (Array.getElem?_eq_some_iff.1 hb).1).trans hb
theorem KB.put {g : Nat} {cs cs' : Array Value} (hB : Blk w g T' cs) (hne : T ≠ T') : KB T w (putB w g T' cs') := fun b cur hb => by
 have hn : g ≠ b := (Typed.ne ⟨cur, hb⟩ hB.typed hne).symm
 unfold putB
 simp only
 rw [Array.getElem?_setIfInBounds_ne hn]
 exact hb
theorem KB.set {p : Addr} {u : Value} (hT : Typed w T' p.block) (hne : T ≠ T') : KB T w (w.setCell p u) := fun b cur hb => by
 have hn : b ≠ p.block := Typed.ne ⟨cur, hb⟩ hT hne
 rw [RowKit.Below.heap_setCell _ _ _ _ hn]
 exact hb
theorem KB.sets {g : Nat} (hne : T ≠ T') : ∀ (vs : List Value) (o : Nat) (w : World), Typed w T' g → KB T w (w.setCells g o vs)
 | [], _, w, _ => KB.refl w
 | v :: vs, o, w, h => (KB.set (p := ⟨g, o, none⟩) h hne).trans (KB.sets hne vs (o + 1) _ (h.setCell _ _))
theorem KB.grown {row : Option Nat} (hg : w.grownBy w1 row) (hr : ∀ q, row = some q → Typed w T' q) (hne : T ≠ T') : KB T w w1 := fun b cur hb => by
 refine (hg.block b (Array.getElem?_eq_some_iff.1 hb).1 (fun e => ?_)).trans hb
 exact Typed.ne ⟨cur, hb⟩ (hr b e.symm) hne rfl
theorem KB.turned {b : Nat} (h : w.mapTurned w1 b) : KB T w w1 := fun c cur hc => by
 obtain ⟨es, cl, es', cl', hb, rfl⟩ := h
 have hn : b ≠ c := fun e => by subst e; rw [hb] at hc; cases hc
 show (w.heap.setIfInBounds b _)[c]? = _
 rw [Array.getElem?_setIfInBounds_ne hn]
 exact hc
theorem Typed.kb (h : Typed w T n) (k : KB T w w1) : Typed w1 T n := h.elim fun cur hb => ⟨cur, k _ _ hb⟩
theorem Typed.sets {g b : Nat} : ∀ (vs : List Value) (o : Nat) (w : World), Typed w T b → Typed (w.setCells g o vs) T b
 | [], _, _, h => h
 | v :: vs, o, w, h => Typed.sets vs (o + 1) _ (h.setCell _ _)
theorem Typed.cell_kb (h : Typed w T n) (k : KB T w w1) (o : Nat) : w1.cell? ⟨n, o, none⟩ = w.cell? ⟨n, o, none⟩ := by
 obtain ⟨cur, hb⟩ := h
 simp [World.cell?, hb, k _ _ hb]
end
def KM (w w' : World) : Prop := ∀ (b : Nat) (es : Array MapEntry) (cl : Nat), w.heap[b]? = some (Obj.map es cl) → w'.heap[b]? = some (Obj.map es cl)
structure Only (T : TypeId) (w w' : World) : Prop where
 kb : ∀ T', T' ≠ T → KB T' w w'
 km : KM w w'
section
variable {T T' : TypeId} {w w1 w2 : World}
theorem Only.refl (w : World) : Only T w w := ⟨fun _ _ => KB.refl w, fun _ _ _ h => h⟩
theorem Only.trans (h : Only T w w1) (k : Only T w1 w2) : Only T w w2 := ⟨fun T' hn => (h.kb T' hn).trans (k.kb T' hn), fun b es cl hb => k.km b es cl (h.km b es cl hb)⟩
theorem Only.ext (k : Ext w w1) : Only T w w1 := ⟨fun _ _ => KB.ext k, fun b _ _ hb => (k.block b (Array.getElem?_eq_some_iff.1 hb).1).trans hb⟩
theorem Only.put {g : Nat} {cs cs' : Array Value} (hB : Blk w g T cs) : Only T w (putB w g T cs') := ⟨fun _ hn => KB.put hB hn, fun b es cl hb => by
 have hn : g ≠ b := fun e => by subst e; rw [show w.heap[g]? = _ from hB] at hb; cases hb
 unfold putB
 simp only
 rw [Array.getElem?_setIfInBounds_ne hn]
 exact hb⟩
theorem Only.set {p : Addr} {u : Value} (hT : Typed w T p.block) : Only T w (w.setCell p u) := ⟨fun _ hn => KB.set hT hn, fun b es cl hb => by
 have hn : b ≠ p.block := fun e => by subst e; obtain ⟨cur, hc⟩ := hT; rw [hc] at hb; cases hb
 rw [RowKit.Below.heap_setCell _ _ _ _ hn]
 exact hb⟩
theorem Only.sets {g : Nat} : ∀ (vs : List Value) (o : Nat) (w : World), Typed w T g → Only T w (w.setCells g o vs)
 | [], _, w, _ => Only.refl w
 | v :: vs, o, w, h => (Only.set (p := ⟨g, o, none⟩) h).trans (Only.sets vs (o + 1) _ (h.setCell _ _))
theorem Only.grown {row : Option Nat} (hg : w.grownBy w1 row) (hr : ∀ q, row = some q → Typed w T q) : Only T w w1 := ⟨fun _ hn => KB.grown hg hr hn, fun b es cl hb => by
 refine (hg.block b (Array.getElem?_eq_some_iff.1 hb).1 (fun e => ?_)).trans hb
 obtain ⟨cur, hc⟩ := hr b e.symm
 rw [hc] at hb; cases hb⟩
theorem Blk.kb {g : Nat} {cs : Array Value} (h : Blk w g T cs) (k : KB T w w1) : Blk w1 g T cs := k g cs h
theorem Blk.only {g : Nat} {cs : Array Value} (h : Blk w g T' cs) (k : Only T w w1) (hn : T' ≠ T) : Blk w1 g T' cs := (k.kb T' hn) g cs h
end
theorem getElem_ltq {α : Type} {l : List α} {p : Nat} (h : p < l.length) : ∃ v, l[p]? = some v := ⟨_, List.getElem?_eq_getElem h⟩
end
end Go.Proofs.YtablhmobekmflaaGreatDoor