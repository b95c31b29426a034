/- The walks of event.Split and of the reference's Split: the parts. -/
import Derived.Test.YtcgflkmkdpgchaaDoorSplit
namespace Go.Proofs.YtcgflkmkdpgchaaDoor
set_option linter.unusedVariables false
set_option linter.unusedSimpArgs false
open Go.RowKit

/-- a world with two of its blocks written -/
def two (w : World) (ga gb : Nat) (ca cb : Array Value) : World := putB (putB w ga 27 ca) gb 27 cb
section
variable {w : World} {ga gb : Nat} {ca cb : Array Value}
theorem putB_comm (w : World) {g g' : Nat} (hne : g ≠ g') (t t' : TypeId) (cs cs' : Array Value) : putB (putB w g t cs) g' t' cs' = putB (putB w g' t' cs') g t cs := by
  unfold putB
  simp only [World.mk.injEq, and_true]
  apply Array.ext_getElem?
  intro i
  simp only [Array.getElem?_setIfInBounds, Array.size_setIfInBounds]
  grind
theorem two_same (ha : Blk w ga 27 ca) (hb : Blk w gb 27 cb) : two w ga gb ca cb = w := by
  unfold two
  rw [putB_same ha, putB_same hb]
theorem Blk.ofLt (h : ga < w.heap.size) (t : TypeId) (cs : Array Value) : Blk (putB w ga t cs) ga t cs := by
  simp [Blk, putB, h]
theorem two_a (hne : ga ≠ gb) (h : ga < w.heap.size) (ca cb : Array Value) : Blk (two w ga gb ca cb) ga 27 ca := (Blk.ofLt h _ _).put_other (Ne.symm hne) _
theorem two_b (h : gb < w.heap.size) (ca cb : Array Value) : Blk (two w ga gb ca cb) gb 27 cb := Blk.ofLt (by rw [putB_size]; exact h) _ _
theorem two_setA (hne : ga ≠ gb) (h : ga < w.heap.size) (ca cb : Array Value) (i : Nat) (u : Value) : (two w ga gb ca cb).setCell ⟨ga, i, none⟩ u = two w ga gb (ca.setIfInBounds i u) cb := by
  rw [setCell_put (two_a hne h ca cb)]
  unfold two
  rw [putB_comm _ (Ne.symm hne), putB_putB]
theorem two_setB (h : gb < w.heap.size) (ca cb : Array Value) (i : Nat) (u : Value) : (two w ga gb ca cb).setCell ⟨gb, i, none⟩ u = two w ga gb ca (cb.setIfInBounds i u) := by
  rw [setCell_put (two_b h ca cb)]
  unfold two
  rw [putB_putB]
end

theorem edge {es : Array Edge} {k : Nat} (h : es.toList.any (fun d => Region.binds .any d && d.on == k) = true) : ∃ d ∈ es, Region.binds .any d = true ∧ d.on = k := by
  obtain ⟨d, hd, h'⟩ := List.any_eq_true.1 h
  simp only [Bool.and_eq_true, beq_iff_eq] at h'
  exact ⟨d, by simpa using hd, h'⟩
def ordB : Nat → List Oper → Bool
  | _, [] => true
  | i, o :: l => o.after.all (fun d => !Region.binds .any d || decide (d.on < i)) && ordB (i + 1) l
theorem ordB_at : ∀ (l : List Oper) (k : Nat), ordB k l = true → ∀ i o, l[i]? = some o → ∀ d ∈ o.after, Region.binds .any d = true → d.on < k + i
  | [], _, _, i, o, h => by simp at h
  | o' :: l, k, hb, 0, o, h => by
    simp only [ordB, Bool.and_eq_true] at hb
    simp at h
    subst h
    intro d hd hbd
    have := (Array.all_eq_true'.1 hb.1) d hd
    simpa [hbd] using this
  | o' :: l, k, hb, i + 1, o, h => by
    simp only [ordB, Bool.and_eq_true] at hb
    intro d hd hbd
    have := ordB_at l (k + 1) hb.2 i o (by simpa using h) d hd hbd
    omega
theorem hordB {ops : Array Oper} (h : ordB 0 ops.toList = true) : ∀ (i : Nat) (o : Oper), ops[i]? = some o → ∀ d ∈ o.after, Region.binds .any d = true → d.on < i := fun i o ho d hd hbd => by
  have := ordB_at ops.toList 0 h i o (by simpa using ho) d hd hbd
  omega

def put3 (a : Act) (x1 x2 x3 : Nat) (v1 v2 v3 : Value) : Act := { a with tmps := ((a.tmps.setIfInBounds x1 v1).setIfInBounds x2 v2).setIfInBounds x3 v3 }
theorem wp_assign {P : Program} {o : Oper} {a : Act} {w : World} {K : Act → World → Prop} {Q : Exit → Act → World → Prop} (k : Value) (ho : o.op = .assign (.const k)) (h : K (a.put o.dst k) w) : o.wp P a w K Q := by
  unfold Oper.wp execOp
  simp [ho, Act.eval, Sem.run_pure]
  exact h

/-- what 'return a, b, k' keeps -/
def R2Inv (mk : Value → Value → Value → Act) (ca cb : Array Value) (g8 g9 : Nat) (k : Value) (W : World) (l : Array Bool) (a : Act) (w : World) : Prop :=
  l.size = 5 ∧ ∃ v1 v2 v3 c8 c9, a = mk v1 v2 v3 ∧ w = two W g8 g9 c8 c9 ∧ c8.size = 7 ∧ c9.size = 7 ∧ (l.getD 0 false = true → v1 = .agg ca) ∧ (l.getD 1 false = true → v2 = .agg cb) ∧ (l.getD 2 false = true → c8 = ca) ∧ (l.getD 3 false = true → c9 = cb) ∧ (l.getD 4 false = true → v3 = k) ∧ True ∧ True

set_option maxHeartbeats 4000000 in
theorem region_ret2 (id : Nat) (ta tb x1 x2 t8 t9 x3 : Nat) (o0 o1 o2 o3 o4 : Oper) (a : Act) (ca cb c8 c9 : Array Value) (ga gb g8 g9 : Nat) (k : Value) (W : World) (Q : Exit → Act → World → Prop)
    (op0 : o0.op = .load 27 (.tmp ta)) (ds0 : o0.dst = some x1) (gd0 : o0.guard = none) (op1 : o1.op = .load 27 (.tmp tb)) (ds1 : o1.dst = some x2) (gd1 : o1.guard = none)
    (op2 : o2.op = .store 27 (.tmp t8) (.tmp x1)) (ds2 : o2.dst = none) (gd2 : o2.guard = none) (op3 : o3.op = .store 27 (.tmp t9) (.tmp x2)) (ds3 : o3.dst = none) (gd3 : o3.guard = none)
    (op4 : o4.op = .assign (.const k)) (ds4 : o4.dst = some x3) (gd4 : o4.guard = none)
    (ea' : a.eval (.tmp ta) = .pointer (some ⟨ga, 0, none⟩)) (eb' : a.eval (.tmp tb) = .pointer (some ⟨gb, 0, none⟩)) (e8' : a.eval (.tmp t8) = .pointer (some ⟨g8, 0, none⟩)) (e9' : a.eval (.tmp t9) = .pointer (some ⟨g9, 0, none⟩))
    (hsz : x1 < a.tmps.size ∧ x2 < a.tmps.size ∧ x3 < a.tmps.size)
    (hnx : ta ≠ x1 ∧ ta ≠ x2 ∧ ta ≠ x3 ∧ tb ≠ x1 ∧ tb ≠ x2 ∧ tb ≠ x3 ∧ t8 ≠ x1 ∧ t8 ≠ x2 ∧ t8 ≠ x3 ∧ t9 ≠ x1 ∧ t9 ≠ x2 ∧ t9 ≠ x3 ∧ x1 ≠ x2 ∧ x1 ≠ x3 ∧ x2 ≠ x3)
    (q2 : ∃ d ∈ o2.after, Region.binds .any d = true ∧ d.on = 0) (q3 : ∃ d ∈ o3.after, Region.binds .any d = true ∧ d.on = 1)
    (hord : ∀ (i : Nat) (o : Oper), (#[o0, o1, o2, o3, o4] : Array Oper)[i]? = some o → ∀ d ∈ o.after, Region.binds .any d = true → d.on < i)
    (hBa : Blk W ga 27 ca) (hBb : Blk W gb 27 cb) (hB8 : Blk W g8 27 c8) (hB9 : Blk W g9 27 c9) (za : ca.size = 7) (zb : cb.size = 7) (z8 : c8.size = 7) (z9 : c9.size = 7)
    (one_a : ca.all (·.oneCell') = true) (one_b : cb.all (·.oneCell') = true) (hne : g8 ≠ g9) (h8a : g8 ≠ ga) (h8b : g8 ≠ gb) (h9a : g9 ≠ ga) (h9b : g9 ≠ gb)
    (hQ : Q .normal (put3 a x1 x2 x3 (.agg ca) (.agg cb) k) (two W.drew g8 g9 ca cb)) :
    (Code.region id #[o0, o1, o2, o3, o4] true).wp Tryd.prog Q a W := by
  obtain ⟨s1, s2, s3⟩ := hsz
  obtain ⟨n1, n2, n3, n4, n5, n6, n7, n8, n9, n10, n11, n12, n13, n14, n15⟩ := hnx
  have h0 : a = put3 a x1 x2 x3 (a.tmps.getD x1 undef) (a.tmps.getD x2 undef) (a.tmps.getD x3 undef) := by simp only [put3, set_own]
  have ea : ∀ v1 v2 v3, (put3 a x1 x2 x3 v1 v2 v3).eval (.tmp ta) = .pointer (some ⟨ga, 0, none⟩) := by intros; rw [← ea']; simp [put3, Act.eval, Array.getElem?_setIfInBounds, n1.symm, n2.symm, n3.symm]
  have eb : ∀ v1 v2 v3, (put3 a x1 x2 x3 v1 v2 v3).eval (.tmp tb) = .pointer (some ⟨gb, 0, none⟩) := by intros; rw [← eb']; simp [put3, Act.eval, Array.getElem?_setIfInBounds, n4.symm, n5.symm, n6.symm]
  have e8 : ∀ v1 v2 v3, (put3 a x1 x2 x3 v1 v2 v3).eval (.tmp t8) = .pointer (some ⟨g8, 0, none⟩) := by intros; rw [← e8']; simp [put3, Act.eval, Array.getElem?_setIfInBounds, n7.symm, n8.symm, n9.symm]
  have e9 : ∀ v1 v2 v3, (put3 a x1 x2 x3 v1 v2 v3).eval (.tmp t9) = .pointer (some ⟨g9, 0, none⟩) := by intros; rw [← e9']; simp [put3, Act.eval, Array.getElem?_setIfInBounds, n10.symm, n11.symm, n12.symm]
  have e1 : ∀ v1 v2 v3, (put3 a x1 x2 x3 v1 v2 v3).eval (.tmp x1) = v1 := by intros; simp [put3, Act.eval, Array.getElem?_setIfInBounds, s1, n13.symm, n14.symm]
  have e2 : ∀ v1 v2 v3, (put3 a x1 x2 x3 v1 v2 v3).eval (.tmp x2) = v2 := by intros; simp [put3, Act.eval, Array.getElem?_setIfInBounds, s2, n15.symm]
  have k1 : ∀ u v1 v2 v3, (put3 a x1 x2 x3 v1 v2 v3).put (some x1) u = put3 a x1 x2 x3 u v2 v3 := by
    intros; simp only [put3, Act.put, Act.mk.injEq, and_true]; apply Array.ext_getElem?; intro i; simp only [Array.getElem?_setIfInBounds, Array.size_setIfInBounds]; grind
  have k2 : ∀ u v1 v2 v3, (put3 a x1 x2 x3 v1 v2 v3).put (some x2) u = put3 a x1 x2 x3 v1 u v3 := by
    intros; simp only [put3, Act.put, Act.mk.injEq, and_true]; apply Array.ext_getElem?; intro i; simp only [Array.getElem?_setIfInBounds, Array.size_setIfInBounds]; grind
  have k3 : ∀ u v1 v2 v3, (put3 a x1 x2 x3 v1 v2 v3).put (some x3) u = put3 a x1 x2 x3 v1 v2 u := by
    intros; simp only [put3, Act.put, Act.mk.injEq, and_true]; apply Array.ext_getElem?; intro i; simp only [Array.getElem?_setIfInBounds, Array.size_setIfInBounds]; grind
  have h8 : g8 < W.drew.heap.size := hB8.lt
  have h9 : g9 < W.drew.heap.size := hB9.lt
  have Ba : ∀ c8 c9, Blk (two W.drew g8 g9 c8 c9) ga 27 ca := fun c8 c9 => (Blk.put_other (hBa.drew) h8a c8).put_other h9a c9
  have Bb : ∀ c8 c9, Blk (two W.drew g8 g9 c8 c9) gb 27 cb := fun c8 c9 => (Blk.put_other (hBb.drew) h8b c8).put_other h9b c9
  have put8 : ∀ c8 c9 cs, putB (two W.drew g8 g9 c8 c9) g8 27 cs = two W.drew g8 g9 cs c9 := fun c8 c9 cs => by unfold two; rw [putB_comm _ (Ne.symm hne), putB_putB]
  have put9 : ∀ c8 c9 cs, putB (two W.drew g8 g9 c8 c9) g9 27 cs = two W.drew g8 g9 c8 cs := fun c8 c9 cs => by unfold two; rw [putB_putB]
  have hstart : R2Inv (put3 a x1 x2 x3) ca cb g8 g9 k W.drew (Array.replicate 5 false) a W.drew := by
    refine ⟨by simp, _, _, _, c8, c9, h0, (two_same hB8.drew hB9.drew).symm, z8, z9, ?_, ?_, ?_, ?_, ?_, ?_, ?_⟩ <;> simp
  clear h0 hB8 hB9 z8 z9 c8 c9
  refine wp_region_any (by kernel_rfl) ?_
  refine wpAny_inv (R2Inv (put3 a x1 x2 x3) ca cb g8 g9 k W.drew) (fun l a w h => h.1.trans rfl) ?_ hord ?_ _ _ _ _ (by simp) hstart
  · intro l a' w hI i o ho hl hall K hK
    obtain ⟨hs, v1, v2, v3, c8, c9, rfl, rfl, z8, z9, f0, f1, f2, f3, f4, f5, f6⟩ := hI
    have hs' : ∀ i, (l.setIfInBounds i true).size = 5 := fun i => by simpa using hs
    match i, ho with
    | 0, ho =>
      obtain rfl : o0 = o := Option.some.inj ho
      rw [if_pos (by simp [Region.wanted, gd0])]
      refine wp_load_mid (P := Tryd.prog) 27 (.tmp ta) op0 ga 0 (ea _ _ _) ca.toList _ (fun j v hv => ?_) Tryd.underlying27 rfl (by simpa [za] using size_event) ?_
      · rw [(Ba c8 c9).cell]; simpa using hv
      · rw [ds0, k1]
        apply hK
        refine ⟨hs' _, _, v2, v3, c8, c9, rfl, rfl, z8, z9, ?_, ?_, ?_, ?_, ?_, ?_, ?_⟩
        all_goals simp only [getD_set_other (show (0 : Nat) ≠ 1 by decide), getD_set_other (show (0 : Nat) ≠ 2 by decide), getD_set_other (show (0 : Nat) ≠ 3 by decide), getD_set_other (show (0 : Nat) ≠ 4 by decide)]
        all_goals first | assumption | (intro _; first | rfl | trivial)
    | 1, ho =>
      obtain rfl : o1 = o := Option.some.inj ho
      rw [if_pos (by simp [Region.wanted, gd1])]
      refine wp_load_mid (P := Tryd.prog) 27 (.tmp tb) op1 gb 0 (eb _ _ _) cb.toList _ (fun j v hv => ?_) Tryd.underlying27 rfl (by simpa [zb] using size_event) ?_
      · rw [(Bb c8 c9).cell]; simpa using hv
      · rw [ds1, k2]
        apply hK
        refine ⟨hs' _, v1, _, v3, c8, c9, rfl, rfl, z8, z9, ?_, ?_, ?_, ?_, ?_, ?_, ?_⟩
        all_goals simp only [getD_set_other (show (1 : Nat) ≠ 0 by decide), getD_set_other (show (1 : Nat) ≠ 2 by decide), getD_set_other (show (1 : Nat) ≠ 3 by decide), getD_set_other (show (1 : Nat) ≠ 4 by decide)]
        all_goals first | assumption | (intro _; first | rfl | trivial)
    | 2, ho =>
      obtain rfl : o2 = o := Option.some.inj ho
      rw [if_pos (by simp [Region.wanted, gd2])]
      have hl0 : l.getD 0 false = true := by
        obtain ⟨d, hd, hb, hon⟩ := q2
        exact hon ▸ hall d hd hb
      refine wp_storeB (P := Tryd.prog) 27 (.tmp t8) (.tmp x1) op2 g8 27 c8 ca (e8 _ _ _) ((e1 _ _ _).trans (f0 hl0)) (by simpa [za] using size_event) one_a (two_a hne h8 c8 c9) (by rw [z8, za]) ?_
      rw [ds2, put8]; show K (put3 a x1 x2 x3 v1 v2 v3) _
      apply hK
      refine ⟨hs' _, v1, v2, v3, ca, c9, rfl, rfl, za, z9, ?_, ?_, ?_, ?_, ?_, ?_, ?_⟩
      all_goals simp only [getD_set_other (show (2 : Nat) ≠ 0 by decide), getD_set_other (show (2 : Nat) ≠ 1 by decide), getD_set_other (show (2 : Nat) ≠ 3 by decide), getD_set_other (show (2 : Nat) ≠ 4 by decide)]
      all_goals first | assumption | (intro _; first | rfl | trivial | assumption)
    | 3, ho =>
      obtain rfl : o3 = o := Option.some.inj ho
      rw [if_pos (by simp [Region.wanted, gd3])]
      have hl0 : l.getD 1 false = true := by
        obtain ⟨d, hd, hb, hon⟩ := q3
        exact hon ▸ hall d hd hb
      refine wp_storeB (P := Tryd.prog) 27 (.tmp t9) (.tmp x2) op3 g9 27 c9 cb (e9 _ _ _) ((e2 _ _ _).trans (f1 hl0)) (by simpa [zb] using size_event) one_b (two_b h9 c8 c9) (by rw [z9, zb]) ?_
      rw [ds3, put9]; show K (put3 a x1 x2 x3 v1 v2 v3) _
      apply hK
      refine ⟨hs' _, v1, v2, v3, c8, cb, rfl, rfl, z8, zb, ?_, ?_, ?_, ?_, ?_, ?_, ?_⟩
      all_goals simp only [getD_set_other (show (3 : Nat) ≠ 0 by decide), getD_set_other (show (3 : Nat) ≠ 1 by decide), getD_set_other (show (3 : Nat) ≠ 2 by decide), getD_set_other (show (3 : Nat) ≠ 4 by decide)]
      all_goals first | assumption | (intro _; first | rfl | trivial | assumption)
    | 4, ho =>
      obtain rfl : o4 = o := Option.some.inj ho
      rw [if_pos (by simp [Region.wanted, gd4])]
      refine wp_assign k op4 ?_
      rw [ds4, k3]
      apply hK
      refine ⟨hs' _, v1, v2, _, c8, c9, rfl, rfl, z8, z9, ?_, ?_, ?_, ?_, ?_, ?_, ?_⟩
      all_goals simp only [getD_set_other (show (4 : Nat) ≠ 0 by decide), getD_set_other (show (4 : Nat) ≠ 1 by decide), getD_set_other (show (4 : Nat) ≠ 2 by decide), getD_set_other (show (4 : Nat) ≠ 3 by decide)]
      all_goals first | assumption | (intro _; first | rfl | trivial)
    | i + 5, ho => simp at ho
  · rintro l a' w ⟨hs, v1, v2, v3, c8, c9, rfl, rfl, z8, z9, f0, f1, f2, f3, f4, f5, f6⟩ hall
    obtain rfl := f0 (hall 0 (by simp))
    obtain rfl := f1 (hall 1 (by simp))
    obtain rfl := f2 (hall 2 (by simp))
    obtain rfl := f3 (hall 3 (by simp))
    obtain rfl := f4 (hall 4 (by simp))
    exact hQ

end Go.Proofs.YtcgflkmkdpgchaaDoor
