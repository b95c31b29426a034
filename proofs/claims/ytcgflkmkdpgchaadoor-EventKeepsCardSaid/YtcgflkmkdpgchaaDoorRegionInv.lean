/- A region that draws its order, by an invariant: each operation is met once, whatever came ahead of it. -/
import Derived.Test.YtcgflkmkdpgchaaDoorECl
import Derived.Orders
namespace Go.Proofs.YtcgflkmkdpgchaaDoor
set_option linter.unusedVariables false
set_option linter.unusedSimpArgs false
open Go.RowKit

theorem count_set (l : Array Bool) (i : Nat) (h : l.getD i true = false) : ((l.setIfInBounds i true).toList.count false) + 1 = l.toList.count false := by
  have hi : i < l.size := by
    rcases Nat.lt_or_ge i l.size with h' | h'
    · exact h'
    · simp [Array.getElem?_eq_none h'] at h
  have hv : l[i] = false := by simpa [hi] using h
  rw [Array.toList_setIfInBounds]
  obtain ⟨l⟩ := l
  simp only at hi hv ⊢
  have hi' : i < l.length := by simpa using hi
  have hv' : l[i] = false := by simpa using hv
  rw [List.set_eq_take_append_cons_drop, if_pos hi']
  conv => rhs; rw [← List.take_append_drop i l, List.drop_eq_getElem_cons hi', hv']
  simp [List.count_append]
  omega

theorem all_listed {md : Region.Mode} {ops : Array Oper} {l : Array Bool} (hord : ∀ (i : Nat) (o : Oper), ops[i]? = some o → ∀ e ∈ o.after, Region.binds md e = true → e.on < i) (hs : l.size = ops.size) (hr : Region.ready md ops l = []) : ∀ i, i < ops.size → l.getD i false = true := by
  intro i
  induction i using Nat.strongRecOn with
  | _ i ih =>
    intro hi
    cases hl : l.getD i false with
    | true => rfl
    | false =>
      exfalso
      have hil : i < l.size := by omega
      have hm : i ∈ Region.ready md ops l := mem_ready.2 ⟨by simpa [hil] using hl, ops[i], by simp [hi], fun e he hb => ih e.on (hord i _ (by simp [hi]) e he hb) (by have := hord i ops[i] (by simp [hi]) e he hb; omega)⟩
      rw [hr] at hm
      cases hm

theorem wpAny_inv {P : Program} {md : Region.Mode} {ops : Array Oper} {Q : Exit → Act → World → Prop} (Inv : Array Bool → Act → World → Prop)
    (hsize : ∀ l a w, Inv l a w → l.size = ops.size)
    (hstep : ∀ l a w, Inv l a w → ∀ i o, ops[i]? = some o → l.getD i true = false → (∀ e ∈ o.after, Region.binds md e = true → l.getD e.on false = true) →
      ∀ K : Act → World → Prop, (∀ a w, Inv (l.setIfInBounds i true) a w → K a w) → if Region.wanted o (yielded ops a.tmps) = true then Oper.wp P o a w K Q else K (a.put o.dst undef) w)
    (hord : ∀ (i : Nat) (o : Oper), ops[i]? = some o → ∀ e ∈ o.after, Region.binds md e = true → e.on < i)
    (hdone : ∀ l a w, Inv l a w → (∀ i, i < ops.size → l.getD i false = true) → Q .normal a w) :
    ∀ (fuel : Nat) (l : Array Bool) (a : Act) (w : World), l.toList.count false ≤ fuel → Inv l a w → wpAny P md ops Q fuel l a w
  | 0, l, a, w, hc, hI => by
    have hr : Region.ready md ops l = [] := by
      apply List.eq_nil_iff_forall_not_mem.2
      intro i hi
      obtain ⟨h0, _⟩ := mem_ready.1 hi
      have := count_set l i h0
      omega
    exact ⟨hr, hdone l a w hI (all_listed hord (hsize l a w hI) hr)⟩
  | fuel + 1, l, a, w, hc, hI => by
    refine ⟨fun hr => hdone l a w hI (all_listed hord (hsize l a w hI) hr), fun i hi => ?_⟩
    obtain ⟨h0, o, ho, hall⟩ := mem_ready.1 hi
    have hs := count_set l i h0
    have h1 := hstep l a w hI i o ho h0 hall (wpAny P md ops Q fuel (l.setIfInBounds i true)) (fun a' w' hI' => wpAny_inv Inv hsize hstep hord hdone fuel _ a' w' (by omega) hI')
    unfold wpOp
    simp only [ho]
    split
    · rename_i hw; rw [if_pos hw] at h1; exact .inl h1
    · rename_i hw; rw [if_neg hw] at h1; exact h1

/-- what the region 'a, b := Clone(e), Clone(e)' keeps, whatever has been done of it -/
def C2Inv (mk : Value → Value → Value → Value → Value → Value → Act) (e : Ev) (A : Option Addr) (n c : Nat) (W : World) (l : Array Bool) (a : Act) (w : World) : Prop :=
  l.size = 8 ∧ Ext W w ∧ ∃ v1 v2 v3 v4 va vb : Value, a = mk v1 v2 v3 v4 va vb ∧ (l.getD 0 false = true → v1 = .agg (e.cells A n c)) ∧ (l.getD 2 false = true → v3 = .agg (e.cells A n c)) ∧
    (l.getD 1 false = true → ∃ A1 c1, v2 = .agg (e.cells A1 n c1) ∧ n ≤ c1 ∧ RowsFresh w W.heap.size A1 n e.rows) ∧ (l.getD 3 false = true → ∃ A1 c1, v4 = .agg (e.cells A1 n c1) ∧ n ≤ c1 ∧ RowsFresh w W.heap.size A1 n e.rows) ∧
    (l.getD 4 false = true → ∃ g cs, va = .pointer (some ⟨g, 0, none⟩) ∧ W.heap.size ≤ g ∧ Blk w g 27 cs ∧ cs.size = 7 ∧ (l.getD 6 false = true → v2 = .agg cs)) ∧
    (l.getD 5 false = true → ∃ g cs, vb = .pointer (some ⟨g, 0, none⟩) ∧ W.heap.size ≤ g ∧ Blk w g 27 cs ∧ cs.size = 7 ∧ (l.getD 7 false = true → v4 = .agg cs)) ∧
    (l.getD 4 false = true → l.getD 5 false = true → va ≠ vb) ∧ (l.getD 6 false = true → l.getD 1 false = true) ∧ (l.getD 7 false = true → l.getD 3 false = true) ∧ (l.getD 6 false = true → l.getD 4 false = true) ∧ (l.getD 7 false = true → l.getD 5 false = true)

theorem getD_set_self {l : Array Bool} {i : Nat} (h : i < l.size) : (l.setIfInBounds i true).getD i false = true := by simp [h]
theorem getD_set_other {l : Array Bool} {i j : Nat} (h : i ≠ j) : (l.setIfInBounds i true).getD j false = l.getD j false := getD_set_ne false h
theorem not_listed {l : Array Bool} {i : Nat} (h : l.getD i true = false) : l.getD i false = false := by
  rcases Nat.lt_or_ge i l.size with h' | h'
  · simpa [h'] using h
  · simp [Array.getElem?_eq_none h'] at h

theorem wp_call1 {P : Program} {o : Oper} {a : Act} {w : World} {K : Act → World → Prop} {Q : Exit → Act → World → Prop} {f : FuncId} {x : Operand} {ts : Array TypeId} {v : Value} (ho : o.op = .call { callee := .value (.func f), args := #[x], argTypes := ts }) (hx : a.eval x = v)
    (hent : ∀ args w, (callFunc f args).run P w = .ok (.enter f args) w) {R : Ending → World → Prop} (hc : Calls P f #[v] w R) (h : ∀ en w', R en w' → ∃ u, en = .returned u ∧ K (a.put o.dst u) w') : o.wp P a w K Q := by
  have h2 : Calls P f #[v] w (fun
      | .returned u, w'' => K (a.put o.dst u) w''
      | .panicked chain, w'' => Q (.panic chain) a w''
      | .outgrown, _ => LetsOut Q) := hc.mono fun en w' hr => by
    obtain ⟨u, rfl, hk⟩ := h en w' hr
    exact hk
  unfold Oper.wp execOp
  simp only [ho]
  have hev : a.eval (.func f) = .func (.func f) #[] #[] := rfl
  simp [resolve, invoke, hev, hx, hent, Sem.run_bind, Deferred.ofValue]
  exact h2

theorem wp_alloc_ev {o : Oper} {a : Act} {w : World} {K : Act → World → Prop} {Q : Exit → Act → World → Prop} (ho : o.op = .alloc 27) (h : K (a.put o.dst (.pointer (some ⟨w.heap.size, 0, none⟩))) (w.alloc (.cells evZero 27))) : o.wp Tryd.prog a w K Q := by
  obtain ⟨dst, op, ty, pos, after, guard⟩ := o
  simp only at ho
  subst ho
  unfold evZero at h
  go_simp
  exact h

theorem wp_storeB {P : Program} {o : Oper} {a : Act} {w : World} {K : Act → World → Prop} {Q : Exit → Act → World → Prop} (ty : TypeId) (x y : Operand) (ho : o.op = .store ty x y) (g : Nat) (t : TypeId) (cs cs' : Array Value) (hx : a.eval x = .pointer (some ⟨g, 0, none⟩)) (hy : a.eval y = .agg cs')
    (hi : (P.info? ty).map (·.size) = some cs'.size) (h1 : cs'.all (·.oneCell') = true) (hB : Blk w g t cs) (hl : cs.size = cs'.size) (h : K (a.put o.dst undef) (putB w g t cs')) : o.wp P a w K Q := by
  refine wp_store_mid ty x y ho g 0 cs' hx hy (fun j hj => ?_) hi h1 (by rw [setCells_all hB cs' hl]; exact h)
  rw [hB.cell, hB.frozen]
  exact ⟨by simp; omega, rfl⟩

set_option maxHeartbeats 4000000 in
theorem region_clone2 (f : FuncId) (id : Nat) (s4 x1 x2 x3 x4 sa sb : Nat) (o0 o1 o2 o3 o4 o5 o6 o7 : Oper)
    (mk : Value → Value → Value → Value → Value → Value → Act) (e : Ev) (A : Option Addr) (n c g0 : Nat) (W : World) (Q : Exit → Act → World → Prop) (u1 u2 u3 u4 ua ub : Value)
    (hent : ∀ args w, (callFunc f args).run Tryd.prog w = .ok (.enter f args) w)
    (hC : ∀ w, EvAt w e A n c → Calls Tryd.prog f #[.agg (e.cells A n c)] w (EClPost e n w)) (he : EvAt W e A n c) (hB0 : Blk W g0 27 (e.cells A n c))
    (op0 : o0.op = .load 27 (.tmp s4)) (ds0 : o0.dst = some x1) (gd0 : o0.guard = none) (op1 : o1.op = .call { callee := .value (.func f), args := #[.tmp x1], argTypes := #[27] }) (ds1 : o1.dst = some x2) (gd1 : o1.guard = none) (op2 : o2.op = .load 27 (.tmp s4)) (ds2 : o2.dst = some x3) (gd2 : o2.guard = none) (op3 : o3.op = .call { callee := .value (.func f), args := #[.tmp x3], argTypes := #[27] }) (ds3 : o3.dst = some x4) (gd3 : o3.guard = none) (op4 : o4.op = .alloc 27) (ds4 : o4.dst = some sa) (gd4 : o4.guard = none) (op5 : o5.op = .alloc 27) (ds5 : o5.dst = some sb) (gd5 : o5.guard = none) (op6 : o6.op = .store 27 (.tmp sa) (.tmp x2)) (ds6 : o6.dst = none) (gd6 : o6.guard = none) (op7 : o7.op = .store 27 (.tmp sb) (.tmp x4)) (ds7 : o7.dst = none) (gd7 : o7.guard = none)
    (e4 : ∀ v1 v2 v3 v4 va vb, (mk v1 v2 v3 v4 va vb).eval (.tmp s4) = .pointer (some ⟨g0, 0, none⟩)) (e1 : ∀ v1 v2 v3 v4 va vb, (mk v1 v2 v3 v4 va vb).eval (.tmp x1) = v1) (e2 : ∀ v1 v2 v3 v4 va vb, (mk v1 v2 v3 v4 va vb).eval (.tmp x2) = v2) (e3 : ∀ v1 v2 v3 v4 va vb, (mk v1 v2 v3 v4 va vb).eval (.tmp x3) = v3) (e5 : ∀ v1 v2 v3 v4 va vb, (mk v1 v2 v3 v4 va vb).eval (.tmp x4) = v4) (ea : ∀ v1 v2 v3 v4 va vb, (mk v1 v2 v3 v4 va vb).eval (.tmp sa) = va) (eb : ∀ v1 v2 v3 v4 va vb, (mk v1 v2 v3 v4 va vb).eval (.tmp sb) = vb)
    (k1 : ∀ u v1 v2 v3 v4 va vb, (mk v1 v2 v3 v4 va vb).put (some x1) u = mk u v2 v3 v4 va vb) (k2 : ∀ u v1 v2 v3 v4 va vb, (mk v1 v2 v3 v4 va vb).put (some x2) u = mk v1 u v3 v4 va vb) (k3 : ∀ u v1 v2 v3 v4 va vb, (mk v1 v2 v3 v4 va vb).put (some x3) u = mk v1 v2 u v4 va vb) (k4 : ∀ u v1 v2 v3 v4 va vb, (mk v1 v2 v3 v4 va vb).put (some x4) u = mk v1 v2 v3 u va vb) (ka : ∀ u v1 v2 v3 v4 va vb, (mk v1 v2 v3 v4 va vb).put (some sa) u = mk v1 v2 v3 v4 u vb) (kb : ∀ u v1 v2 v3 v4 va vb, (mk v1 v2 v3 v4 va vb).put (some sb) u = mk v1 v2 v3 v4 va u)
    (q1 : ∃ d ∈ o1.after, Region.binds .any d = true ∧ d.on = 0) (q3 : ∃ d ∈ o3.after, Region.binds .any d = true ∧ d.on = 2) (q6a : ∃ d ∈ o6.after, Region.binds .any d = true ∧ d.on = 4) (q6b : ∃ d ∈ o6.after, Region.binds .any d = true ∧ d.on = 1) (q7a : ∃ d ∈ o7.after, Region.binds .any d = true ∧ d.on = 5) (q7b : ∃ d ∈ o7.after, Region.binds .any d = true ∧ d.on = 3)
    (hord : ∀ (i : Nat) (o : Oper), (#[o0, o1, o2, o3, o4, o5, o6, o7] : Array Oper)[i]? = some o → ∀ d ∈ o.after, Region.binds .any d = true → d.on < i)
    (hQ : ∀ w' A1 c1 A2 c2 ga gb, Ext W w' → n ≤ c1 → n ≤ c2 → RowsFresh w' W.heap.size A1 n e.rows → RowsFresh w' W.heap.size A2 n e.rows → W.heap.size ≤ ga → W.heap.size ≤ gb → ga ≠ gb → Blk w' ga 27 (e.cells A1 n c1) → Blk w' gb 27 (e.cells A2 n c2) →
      Q .normal (mk (.agg (e.cells A n c)) (.agg (e.cells A1 n c1)) (.agg (e.cells A n c)) (.agg (e.cells A2 n c2)) (.pointer (some ⟨ga, 0, none⟩)) (.pointer (some ⟨gb, 0, none⟩))) w') :
    (Code.region id #[o0, o1, o2, o3, o4, o5, o6, o7] true).wp Tryd.prog Q (mk u1 u2 u3 u4 ua ub) W := by
  refine wp_region_any (by kernel_rfl) ?_
  refine wpAny_inv (C2Inv mk e A n c W) (fun l a w h => h.1.trans rfl) ?_ hord ?_ _ _ _ _ (by simp) ?_
  · intro l a w hI i o ho hl hall K hK
    obtain ⟨hs, hx, v1, v2, v3, v4, va, vb, rfl, f0, f2, f1, f3, f4, f5, f6, f7, f8, hf6, hf7⟩ := hI
    have hs' : ∀ i, (l.setIfInBounds i true).size = 8 := fun i => by simpa using hs
    have hself : ∀ i, i < 8 → (l.setIfInBounds i true).getD i false = true := fun i hi => getD_set_self (by omega)
    have hnl := not_listed hl
    match i, ho with
    | 0, ho =>
      obtain rfl : o0 = o := Option.some.inj ho
      rw [if_pos (by simp [Region.wanted, gd0])]
      refine wp_load_mid (P := Tryd.prog) 27 (.tmp s4) op0 g0 0 (e4 _ _ _ _ _ _) (e.cells A n c).toList _ (fun j v hv => ?_) Tryd.underlying27 rfl size_event ?_
      · rw [(hB0.ext hx).cell]; simpa using hv
      · rw [ds0, k1]
        apply hK
        refine ⟨hs' _, hx, _, v2, v3, v4, va, vb, rfl, ?_, ?_, ?_, ?_, ?_, ?_, ?_, ?_, ?_, ?_, ?_⟩
        all_goals simp only [getD_set_other (show (0 : Nat) ≠ 1 by decide), getD_set_other (show (0 : Nat) ≠ 2 by decide), getD_set_other (show (0 : Nat) ≠ 3 by decide), getD_set_other (show (0 : Nat) ≠ 4 by decide), getD_set_other (show (0 : Nat) ≠ 5 by decide), getD_set_other (show (0 : Nat) ≠ 6 by decide), getD_set_other (show (0 : Nat) ≠ 7 by decide)]
        all_goals first | assumption | (intro _; first | rfl | trivial)
    | 1, ho =>
      obtain rfl : o1 = o := Option.some.inj ho
      rw [if_pos (by simp [Region.wanted, gd1])]
      have hv1 : v1 = .agg (e.cells A n c) := by
        obtain ⟨d, hd, hb, hon⟩ := q1
        exact f0 (hon ▸ hall d hd hb)
      refine wp_call1 op1 ((e1 _ _ _ _ _ _).trans hv1) hent (hC w (he.ext hx)) ?_
      rintro en w' ⟨A1, c1, rfl, hnc, hrf, hx'⟩
      refine ⟨_, rfl, ?_⟩
      rw [ds1, k2]
      apply hK
      refine ⟨hs' _, hx.trans hx', v1, _, v3, v4, va, vb, rfl, ?_, ?_, fun _ => ⟨A1, c1, rfl, hnc, hrf.le hx.size⟩, ?_, ?_, ?_, ?_, fun _ => hself 1 (by omega), ?_, ?_, ?_⟩
      all_goals simp only [getD_set_other (show (1 : Nat) ≠ 0 by decide), getD_set_other (show (1 : Nat) ≠ 2 by decide), getD_set_other (show (1 : Nat) ≠ 3 by decide), getD_set_other (show (1 : Nat) ≠ 4 by decide), getD_set_other (show (1 : Nat) ≠ 5 by decide), getD_set_other (show (1 : Nat) ≠ 6 by decide), getD_set_other (show (1 : Nat) ≠ 7 by decide)]
      · exact f0
      · exact f2
      · exact fun h => (f3 h).elim fun A' h' => h'.elim fun c' h'' => ⟨A', c', h''.1, h''.2.1, h''.2.2.ext hx'⟩
      · intro h
        obtain ⟨g, cs, a1, a2, a3, a4, a5⟩ := f4 h
        exact ⟨g, cs, a1, a2, a3.ext hx', a4, fun h6 => absurd (f7 h6) (by rw [hnl]; simp)⟩
      · exact fun h => (f5 h).elim fun g h' => h'.elim fun cs h'' => ⟨g, cs, h''.1, h''.2.1, h''.2.2.1.ext hx', h''.2.2.2⟩
      · exact f6
      · exact f8
      · exact hf6
      · exact hf7
    | 2, ho =>
      obtain rfl : o2 = o := Option.some.inj ho
      rw [if_pos (by simp [Region.wanted, gd2])]
      refine wp_load_mid (P := Tryd.prog) 27 (.tmp s4) op2 g0 0 (e4 _ _ _ _ _ _) (e.cells A n c).toList _ (fun j v hv => ?_) Tryd.underlying27 rfl size_event ?_
      · rw [(hB0.ext hx).cell]; simpa using hv
      · rw [ds2, k3]
        apply hK
        refine ⟨hs' _, hx, v1, v2, _, v4, va, vb, rfl, ?_, ?_, ?_, ?_, ?_, ?_, ?_, ?_, ?_, ?_, ?_⟩
        all_goals simp only [getD_set_other (show (2 : Nat) ≠ 0 by decide), getD_set_other (show (2 : Nat) ≠ 1 by decide), getD_set_other (show (2 : Nat) ≠ 3 by decide), getD_set_other (show (2 : Nat) ≠ 4 by decide), getD_set_other (show (2 : Nat) ≠ 5 by decide), getD_set_other (show (2 : Nat) ≠ 6 by decide), getD_set_other (show (2 : Nat) ≠ 7 by decide)]
        all_goals first | assumption | (intro _; first | rfl | trivial)
    | 3, ho =>
      obtain rfl : o3 = o := Option.some.inj ho
      rw [if_pos (by simp [Region.wanted, gd3])]
      have hv3 : v3 = .agg (e.cells A n c) := by
        obtain ⟨d, hd, hb, hon⟩ := q3
        exact f2 (hon ▸ hall d hd hb)
      refine wp_call1 op3 ((e3 _ _ _ _ _ _).trans hv3) hent (hC w (he.ext hx)) ?_
      rintro en w' ⟨A1, c1, rfl, hnc, hrf, hx'⟩
      refine ⟨_, rfl, ?_⟩
      rw [ds3, k4]
      apply hK
      refine ⟨hs' _, hx.trans hx', v1, v2, v3, _, va, vb, rfl, ?_, ?_, ?_, fun _ => ⟨A1, c1, rfl, hnc, hrf.le hx.size⟩, ?_, ?_, ?_, ?_, fun _ => hself 3 (by omega), ?_, ?_⟩
      all_goals simp only [getD_set_other (show (3 : Nat) ≠ 0 by decide), getD_set_other (show (3 : Nat) ≠ 1 by decide), getD_set_other (show (3 : Nat) ≠ 2 by decide), getD_set_other (show (3 : Nat) ≠ 4 by decide), getD_set_other (show (3 : Nat) ≠ 5 by decide), getD_set_other (show (3 : Nat) ≠ 6 by decide), getD_set_other (show (3 : Nat) ≠ 7 by decide)]
      · exact f0
      · exact f2
      · exact fun h => (f1 h).elim fun A' h' => h'.elim fun c' h'' => ⟨A', c', h''.1, h''.2.1, h''.2.2.ext hx'⟩
      · exact fun h => (f4 h).elim fun g h' => h'.elim fun cs h'' => ⟨g, cs, h''.1, h''.2.1, h''.2.2.1.ext hx', h''.2.2.2⟩
      · intro h
        obtain ⟨g, cs, a1, a2, a3, a4, a5⟩ := f5 h
        exact ⟨g, cs, a1, a2, a3.ext hx', a4, fun h6 => absurd (f8 h6) (by rw [hnl]; simp)⟩
      · exact f6
      · exact f7
      · exact hf6
      · exact hf7
    | 4, ho =>
      obtain rfl : o4 = o := Option.some.inj ho
      rw [if_pos (by simp [Region.wanted, gd4])]
      refine wp_alloc_ev op4 ?_
      rw [ds4, ka]
      apply hK
      have hx' : Ext w (w.alloc (.cells evZero 27)) := (Ext.refl w).alloc _
      refine ⟨hs' _, hx.trans hx', v1, v2, v3, v4, _, vb, rfl, ?_, ?_, ?_, ?_, ?_, ?_, ?_, ?_, ?_, ?_, ?_⟩
      all_goals simp only [getD_set_other (show (4 : Nat) ≠ 0 by decide), getD_set_other (show (4 : Nat) ≠ 1 by decide), getD_set_other (show (4 : Nat) ≠ 2 by decide), getD_set_other (show (4 : Nat) ≠ 3 by decide), getD_set_other (show (4 : Nat) ≠ 5 by decide), getD_set_other (show (4 : Nat) ≠ 6 by decide), getD_set_other (show (4 : Nat) ≠ 7 by decide)]
      · exact f0
      · exact f2
      · exact fun h => (f1 h).elim fun A' h' => h'.elim fun c' h'' => ⟨A', c', h''.1, h''.2.1, h''.2.2.ext hx'⟩
      · exact fun h => (f3 h).elim fun A' h' => h'.elim fun c' h'' => ⟨A', c', h''.1, h''.2.1, h''.2.2.ext hx'⟩
      · intro _
        refine ⟨w.heap.size, evZero, rfl, hx.size, Blk.new w _ _, rfl, fun h6 => ?_⟩
        exfalso
        obtain ⟨d, hd, hb, hon⟩ := q6a
        exact absurd (hf6 h6) (by rw [hnl]; simp)
      · exact fun h => (f5 h).elim fun g h' => h'.elim fun cs h'' => ⟨g, cs, h''.1, h''.2.1, h''.2.2.1.ext hx', h''.2.2.2⟩
      · intro _ h5 he'
        obtain ⟨g, cs, a1, a2, a3, a4, a5⟩ := f5 h5
        rw [a1] at he'
        injection he' with he'
        injection he' with he'
        have := a3.lt
        injection he' with he' _
        omega
      · exact f7
      · exact f8
      · exact fun _ => hself 4 (by omega)
      · exact hf7
    | 5, ho =>
      obtain rfl : o5 = o := Option.some.inj ho
      rw [if_pos (by simp [Region.wanted, gd5])]
      refine wp_alloc_ev op5 ?_
      rw [ds5, kb]
      apply hK
      have hx' : Ext w (w.alloc (.cells evZero 27)) := (Ext.refl w).alloc _
      refine ⟨hs' _, hx.trans hx', v1, v2, v3, v4, va, _, rfl, ?_, ?_, ?_, ?_, ?_, ?_, ?_, ?_, ?_, ?_, ?_⟩
      all_goals simp only [getD_set_other (show (5 : Nat) ≠ 0 by decide), getD_set_other (show (5 : Nat) ≠ 1 by decide), getD_set_other (show (5 : Nat) ≠ 2 by decide), getD_set_other (show (5 : Nat) ≠ 3 by decide), getD_set_other (show (5 : Nat) ≠ 4 by decide), getD_set_other (show (5 : Nat) ≠ 6 by decide), getD_set_other (show (5 : Nat) ≠ 7 by decide)]
      · exact f0
      · exact f2
      · exact fun h => (f1 h).elim fun A' h' => h'.elim fun c' h'' => ⟨A', c', h''.1, h''.2.1, h''.2.2.ext hx'⟩
      · exact fun h => (f3 h).elim fun A' h' => h'.elim fun c' h'' => ⟨A', c', h''.1, h''.2.1, h''.2.2.ext hx'⟩
      · exact fun h => (f4 h).elim fun g h' => h'.elim fun cs h'' => ⟨g, cs, h''.1, h''.2.1, h''.2.2.1.ext hx', h''.2.2.2⟩
      · intro _
        refine ⟨w.heap.size, evZero, rfl, hx.size, Blk.new w _ _, rfl, fun h6 => ?_⟩
        exfalso
        exact absurd (hf7 h6) (by rw [hnl]; simp)
      · intro h4 _ he'
        obtain ⟨g, cs, a1, a2, a3, a4, a5⟩ := f4 h4
        rw [a1] at he'
        injection he' with he'
        injection he' with he'
        have := a3.lt
        injection he' with he' _
        omega
      · exact f7
      · exact f8
      · exact hf6
      · exact fun _ => hself 5 (by omega)
    | 6, ho =>
      obtain rfl : o6 = o := Option.some.inj ho
      rw [if_pos (by simp [Region.wanted, gd6])]
      have h4 : l.getD 4 false = true := by
        obtain ⟨d, hd, hb, hon⟩ := q6a
        exact hon ▸ hall d hd hb
      have h1 : l.getD 1 false = true := by
        obtain ⟨d, hd, hb, hon⟩ := q6b
        exact hon ▸ hall d hd hb
      obtain ⟨g, cs, a1, a2, a3, a4, -⟩ := f4 h4
      obtain ⟨A1, c1, b1, b2, b3⟩ := f1 h1
      refine wp_storeB (P := Tryd.prog) 27 (.tmp sa) (.tmp x2) op6 g 27 cs (e.cells A1 n c1) ((ea _ _ _ _ _ _).trans a1) ((e2 _ _ _ _ _ _).trans b1) size_event (by simp [Ev.cells, Value.oneCell']) a3 (by rw [a4]; rfl) ?_
      rw [ds6]
      apply hK
      refine ⟨hs' _, hx.put a2 _ _, v1, v2, v3, v4, va, vb, rfl, ?_, ?_, ?_, ?_, ?_, ?_, ?_, ?_, ?_, ?_, ?_⟩
      all_goals simp only [getD_set_other (show (6 : Nat) ≠ 0 by decide), getD_set_other (show (6 : Nat) ≠ 1 by decide), getD_set_other (show (6 : Nat) ≠ 2 by decide), getD_set_other (show (6 : Nat) ≠ 3 by decide), getD_set_other (show (6 : Nat) ≠ 4 by decide), getD_set_other (show (6 : Nat) ≠ 5 by decide), getD_set_other (show (6 : Nat) ≠ 7 by decide)]
      · exact f0
      · exact f2
      · exact fun h => (f1 h).elim fun A' h' => h'.elim fun c' h'' => ⟨A', c', h''.1, h''.2.1, h''.2.2.put a3 _ (by decide) (by decide)⟩
      · exact fun h => (f3 h).elim fun A' h' => h'.elim fun c' h'' => ⟨A', c', h''.1, h''.2.1, h''.2.2.put a3 _ (by decide) (by decide)⟩
      · exact fun _ => ⟨g, e.cells A1 n c1, a1, a2, a3.put _, rfl, fun _ => b1⟩
      · intro h
        obtain ⟨g', cs', d1, d2, d3, d4, d5⟩ := f5 h
        exact ⟨g', cs', d1, d2, d3.put_other (fun he' => f6 h4 h (by rw [a1, d1, he'])) _, d4, d5⟩
      · exact f6
      · exact fun _ => h1
      · exact f8
      · exact fun _ => h4
      · exact hf7
    | 7, ho =>
      obtain rfl : o7 = o := Option.some.inj ho
      rw [if_pos (by simp [Region.wanted, gd7])]
      have h4 : l.getD 5 false = true := by
        obtain ⟨d, hd, hb, hon⟩ := q7a
        exact hon ▸ hall d hd hb
      have h1 : l.getD 3 false = true := by
        obtain ⟨d, hd, hb, hon⟩ := q7b
        exact hon ▸ hall d hd hb
      obtain ⟨g, cs, a1, a2, a3, a4, -⟩ := f5 h4
      obtain ⟨A1, c1, b1, b2, b3⟩ := f3 h1
      refine wp_storeB (P := Tryd.prog) 27 (.tmp sb) (.tmp x4) op7 g 27 cs (e.cells A1 n c1) ((eb _ _ _ _ _ _).trans a1) ((e5 _ _ _ _ _ _).trans b1) size_event (by simp [Ev.cells, Value.oneCell']) a3 (by rw [a4]; rfl) ?_
      rw [ds7]
      apply hK
      refine ⟨hs' _, hx.put a2 _ _, v1, v2, v3, v4, va, vb, rfl, ?_, ?_, ?_, ?_, ?_, ?_, ?_, ?_, ?_, ?_, ?_⟩
      all_goals simp only [getD_set_other (show (7 : Nat) ≠ 0 by decide), getD_set_other (show (7 : Nat) ≠ 1 by decide), getD_set_other (show (7 : Nat) ≠ 2 by decide), getD_set_other (show (7 : Nat) ≠ 3 by decide), getD_set_other (show (7 : Nat) ≠ 4 by decide), getD_set_other (show (7 : Nat) ≠ 5 by decide), getD_set_other (show (7 : Nat) ≠ 6 by decide)]
      · exact f0
      · exact f2
      · exact fun h => (f1 h).elim fun A' h' => h'.elim fun c' h'' => ⟨A', c', h''.1, h''.2.1, h''.2.2.put a3 _ (by decide) (by decide)⟩
      · exact fun h => (f3 h).elim fun A' h' => h'.elim fun c' h'' => ⟨A', c', h''.1, h''.2.1, h''.2.2.put a3 _ (by decide) (by decide)⟩
      · intro h
        obtain ⟨g', cs', d1, d2, d3, d4, d5⟩ := f4 h
        exact ⟨g', cs', d1, d2, d3.put_other (fun he' => f6 h h4 (by rw [a1, d1, he'])) _, d4, d5⟩
      · exact fun _ => ⟨g, e.cells A1 n c1, a1, a2, a3.put _, rfl, fun _ => b1⟩
      · exact f6
      · exact f7
      · exact fun _ => h1
      · exact hf6
      · exact fun _ => h4
    | i + 8, ho => simp at ho
  · rintro l a w ⟨hs, hx, v1, v2, v3, v4, va, vb, rfl, f0, f2, f1, f3, f4, f5, f6, f7, f8, hf6, hf7⟩ hall
    obtain rfl := f0 (hall 0 (by simp))
    obtain rfl := f2 (hall 2 (by simp))
    obtain ⟨A1, c1, rfl, hn1, r1⟩ := f1 (hall 1 (by simp))
    obtain ⟨A2, c2, rfl, hn2, r2⟩ := f3 (hall 3 (by simp))
    obtain ⟨ga, ca, rfl, la, Ba, -, ea'⟩ := f4 (hall 4 (by simp))
    obtain ⟨gb, cb, rfl, lb, Bb, -, eb'⟩ := f5 (hall 5 (by simp))
    have e1' := ea' (hall 6 (by simp))
    have e2' := eb' (hall 7 (by simp))
    injection e1' with e1'
    injection e2' with e2'
    subst e1' e2'
    exact hQ w A1 c1 A2 c2 ga gb hx hn1 hn2 r1 r2 la lb (fun h => f6 (hall 4 (by simp)) (hall 5 (by simp)) (by rw [h])) Ba Bb
  · refine ⟨by simp, (Ext.refl W).drew, u1, u2, u3, u4, ua, ub, rfl, ?_, ?_, ?_, ?_, ?_, ?_, ?_, ?_, ?_, ?_, ?_⟩ <;> simp

/-- a frame with six slots written -/
def put6 (a : Act) (x1 x2 x3 x4 sa sb : Nat) (v1 v2 v3 v4 va vb : Value) : Act :=
  { a with tmps := (((((a.tmps.setIfInBounds x1 v1).setIfInBounds x2 v2).setIfInBounds x3 v3).setIfInBounds x4 v4).setIfInBounds sa va).setIfInBounds sb vb }
theorem set_own (l : Array Value) (x : Nat) : l.setIfInBounds x (l.getD x undef) = l := by
  apply Array.ext_getElem?
  intro i
  rw [Array.getElem?_setIfInBounds]
  split
  · rename_i h
    subst h
    split
    · rename_i h; simp [h]
    · rename_i h; simp [Array.getElem?_eq_none (Nat.le_of_not_lt h)]
  · rfl

set_option maxHeartbeats 1000000 in
theorem region_clone2' (f : FuncId) (id : Nat) (s4 x1 x2 x3 x4 sa sb : Nat) (o0 o1 o2 o3 o4 o5 o6 o7 : Oper)
    (a : Act) (e : Ev) (A : Option Addr) (n c g0 : Nat) (W : World) (Q : Exit → Act → World → Prop)
    (hent : ∀ args w, (callFunc f args).run Tryd.prog w = .ok (.enter f args) w)
    (hC : ∀ w, EvAt w e A n c → Calls Tryd.prog f #[.agg (e.cells A n c)] w (EClPost e n w)) (he : EvAt W e A n c) (hB0 : Blk W g0 27 (e.cells A n c))
    (op0 : o0.op = .load 27 (.tmp s4)) (ds0 : o0.dst = some x1) (gd0 : o0.guard = none) (op1 : o1.op = .call { callee := .value (.func f), args := #[.tmp x1], argTypes := #[27] }) (ds1 : o1.dst = some x2) (gd1 : o1.guard = none) (op2 : o2.op = .load 27 (.tmp s4)) (ds2 : o2.dst = some x3) (gd2 : o2.guard = none) (op3 : o3.op = .call { callee := .value (.func f), args := #[.tmp x3], argTypes := #[27] }) (ds3 : o3.dst = some x4) (gd3 : o3.guard = none) (op4 : o4.op = .alloc 27) (ds4 : o4.dst = some sa) (gd4 : o4.guard = none) (op5 : o5.op = .alloc 27) (ds5 : o5.dst = some sb) (gd5 : o5.guard = none) (op6 : o6.op = .store 27 (.tmp sa) (.tmp x2)) (ds6 : o6.dst = none) (gd6 : o6.guard = none) (op7 : o7.op = .store 27 (.tmp sb) (.tmp x4)) (ds7 : o7.dst = none) (gd7 : o7.guard = none)
    (e4 : a.eval (.tmp s4) = .pointer (some ⟨g0, 0, none⟩)) (hsz : x1 < a.tmps.size ∧ x2 < a.tmps.size ∧ x3 < a.tmps.size ∧ x4 < a.tmps.size ∧ sa < a.tmps.size ∧ sb < a.tmps.size)
    (hne : s4 ≠ x1 ∧ s4 ≠ x2 ∧ s4 ≠ x3 ∧ s4 ≠ x4 ∧ s4 ≠ sa ∧ s4 ≠ sb ∧ x1 ≠ x2 ∧ x1 ≠ x3 ∧ x1 ≠ x4 ∧ x1 ≠ sa ∧ x1 ≠ sb ∧ x2 ≠ x3 ∧ x2 ≠ x4 ∧ x2 ≠ sa ∧ x2 ≠ sb ∧ x3 ≠ x4 ∧ x3 ≠ sa ∧ x3 ≠ sb ∧ x4 ≠ sa ∧ x4 ≠ sb ∧ sa ≠ sb)
    (q1 : ∃ d ∈ o1.after, Region.binds .any d = true ∧ d.on = 0) (q3 : ∃ d ∈ o3.after, Region.binds .any d = true ∧ d.on = 2) (q6a : ∃ d ∈ o6.after, Region.binds .any d = true ∧ d.on = 4) (q6b : ∃ d ∈ o6.after, Region.binds .any d = true ∧ d.on = 1) (q7a : ∃ d ∈ o7.after, Region.binds .any d = true ∧ d.on = 5) (q7b : ∃ d ∈ o7.after, Region.binds .any d = true ∧ d.on = 3)
    (hord : ∀ (i : Nat) (o : Oper), (#[o0, o1, o2, o3, o4, o5, o6, o7] : Array Oper)[i]? = some o → ∀ d ∈ o.after, Region.binds .any d = true → d.on < i)
    (hQ : ∀ w' A1 c1 A2 c2 ga gb, Ext W w' → n ≤ c1 → n ≤ c2 → RowsFresh w' W.heap.size A1 n e.rows → RowsFresh w' W.heap.size A2 n e.rows → W.heap.size ≤ ga → W.heap.size ≤ gb → ga ≠ gb → Blk w' ga 27 (e.cells A1 n c1) → Blk w' gb 27 (e.cells A2 n c2) →
      Q .normal (put6 a x1 x2 x3 x4 sa sb (.agg (e.cells A n c)) (.agg (e.cells A1 n c1)) (.agg (e.cells A n c)) (.agg (e.cells A2 n c2)) (.pointer (some ⟨ga, 0, none⟩)) (.pointer (some ⟨gb, 0, none⟩))) w') :
    (Code.region id #[o0, o1, o2, o3, o4, o5, o6, o7] true).wp Tryd.prog Q a W := by
  obtain ⟨z1, z2, z3, z4, z5, z6⟩ := hsz
  obtain ⟨n1, n2, n3, n4, n5, n6, n7, n8, n9, n10, n11, n12, n13, n14, n15, n16, n17, n18, n19, n20, n21⟩ := hne
  have h0 : a = put6 a x1 x2 x3 x4 sa sb (a.tmps.getD x1 undef) (a.tmps.getD x2 undef) (a.tmps.getD x3 undef) (a.tmps.getD x4 undef) (a.tmps.getD sa undef) (a.tmps.getD sb undef) := by
    simp only [put6, set_own]
  rw [h0]
  refine region_clone2 f id s4 x1 x2 x3 x4 sa sb o0 o1 o2 o3 o4 o5 o6 o7 (put6 a x1 x2 x3 x4 sa sb) e A n c g0 W Q _ _ _ _ _ _ hent hC he hB0 op0 ds0 gd0 op1 ds1 gd1 op2 ds2 gd2 op3 ds3 gd3 op4 ds4 gd4 op5 ds5 gd5 op6 ds6 gd6 op7 ds7 gd7 ?_ ?_ ?_ ?_ ?_ ?_ ?_ ?_ ?_ ?_ ?_ ?_ ?_ q1 q3 q6a q6b q7a q7b hord hQ
  · intros; rw [← e4]; simp [put6, Act.eval, Array.getElem?_setIfInBounds, n1.symm, n2.symm, n3.symm, n4.symm, n5.symm, n6.symm]
  · intros; simp [put6, Act.eval, Array.getElem?_setIfInBounds, z1, n7.symm, n8.symm, n9.symm, n10.symm, n11.symm]
  · intros; simp [put6, Act.eval, Array.getElem?_setIfInBounds, z2, n12.symm, n13.symm, n14.symm, n15.symm]
  · intros; simp [put6, Act.eval, Array.getElem?_setIfInBounds, z3, n16.symm, n17.symm, n18.symm]
  · intros; simp [put6, Act.eval, Array.getElem?_setIfInBounds, z4, n19.symm, n20.symm]
  · intros; simp [put6, Act.eval, Array.getElem?_setIfInBounds, z5, n21.symm]
  · intros; simp [put6, Act.eval, Array.getElem?_setIfInBounds, z6]
  all_goals
    intros
    simp only [put6, Act.put, Act.mk.injEq, and_true]
    apply Array.ext_getElem?
    intro i
    simp only [Array.getElem?_setIfInBounds, Array.size_setIfInBounds]
    grind
end Go.Proofs.YtcgflkmkdpgchaaDoor
