/- A region that draws its order, by an invariant: each operation is met once, whatever came ahead of it. Single operations. -/
import Derived.Test.YtffianmhojiomaaDoorOwn
import Derived.Orders
namespace Go.Proofs.YtffianmhojiomaaDoor
set_option linter.unusedVariables false
set_option linter.unusedSimpArgs false
open Go.RowKit

theorem count_set (l : Array Bool) (i : Nat) (h : l.getD i true = false) : ((l.setIfInBounds i true).toList.count false) + 1 = l.toList.count false := by
  have hi : i < l.size := by
    rcases Nat.lt_or_ge i l.size with h' | h'
    · exact h'
    · simp [Array.getElem?_eq_none h'] at h
  have hv : l[i] = false := by simpa [hi] using h
  rw [Array.toList_setIfInBounds]
  obtain ⟨l⟩ := l
  simp only at hi hv ⊢
  have hi' : i < l.length := by simpa using hi
  have hv' : l[i] = false := by simpa using hv
  rw [List.set_eq_take_append_cons_drop, if_pos hi']
  conv => rhs; rw [← List.take_append_drop i l, List.drop_eq_getElem_cons hi', hv']
  simp [List.count_append]
  omega

theorem all_listed {md : Region.Mode} {ops : Array Oper} {l : Array Bool} (hord : ∀ (i : Nat) (o : Oper), ops[i]? = some o → ∀ e ∈ o.after, Region.binds md e = true → e.on < i) (hs : l.size = ops.size) (hr : Region.ready md ops l = []) : ∀ i, i < ops.size → l.getD i false = true := by
  intro i
  induction i using Nat.strongRecOn with
  | _ i ih =>
    intro hi
    cases hl : l.getD i false with
    | true => rfl
    | false =>
      exfalso
      have hil : i < l.size := by omega
      have hm : i ∈ Region.ready md ops l := mem_ready.2 ⟨by simpa [hil] using hl, ops[i], by simp [hi], fun e he hb => ih e.on (hord i _ (by simp [hi]) e he hb) (by have := hord i ops[i] (by simp [hi]) e he hb; omega)⟩
      rw [hr] at hm
      cases hm

theorem wpAny_inv {P : Program} {md : Region.Mode} {ops : Array Oper} {Q : Exit → Act → World → Prop} (Inv : Array Bool → Act → World → Prop)
    (hsize : ∀ l a w, Inv l a w → l.size = ops.size)
    (hstep : ∀ l a w, Inv l a w → ∀ i o, ops[i]? = some o → l.getD i true = false → (∀ e ∈ o.after, Region.binds md e = true → l.getD e.on false = true) →
      ∀ K : Act → World → Prop, (∀ a w, Inv (l.setIfInBounds i true) a w → K a w) → if Region.wanted o (yielded ops a.tmps) = true then Oper.wp P o a w K Q else K (a.put o.dst undef) w)
    (hord : ∀ (i : Nat) (o : Oper), ops[i]? = some o → ∀ e ∈ o.after, Region.binds md e = true → e.on < i)
    (hdone : ∀ l a w, Inv l a w → (∀ i, i < ops.size → l.getD i false = true) → Q .normal a w) :
    ∀ (fuel : Nat) (l : Array Bool) (a : Act) (w : World), l.toList.count false ≤ fuel → Inv l a w → wpAny P md ops Q fuel l a w
  | 0, l, a, w, hc, hI => by
    have hr : Region.ready md ops l = [] := by
      apply List.eq_nil_iff_forall_not_mem.2
      intro i hi
      obtain ⟨h0, _⟩ := mem_ready.1 hi
      have := count_set l i h0
      omega
    exact ⟨hr, hdone l a w hI (all_listed hord (hsize l a w hI) hr)⟩
  | fuel + 1, l, a, w, hc, hI => by
    refine ⟨fun hr => hdone l a w hI (all_listed hord (hsize l a w hI) hr), fun i hi => ?_⟩
    obtain ⟨h0, o, ho, hall⟩ := mem_ready.1 hi
    have hs := count_set l i h0
    have h1 := hstep l a w hI i o ho h0 hall (wpAny P md ops Q fuel (l.setIfInBounds i true)) (fun a' w' hI' => wpAny_inv Inv hsize hstep hord hdone fuel _ a' w' (by omega) hI')
    unfold wpOp
    simp only [ho]
    split
    · rename_i hw; rw [if_pos hw] at h1; exact .inl h1
    · rename_i hw; rw [if_neg hw] at h1; exact h1

theorem getD_set_self {l : Array Bool} {i : Nat} (h : i < l.size) : (l.setIfInBounds i true).getD i false = true := by simp [h]
theorem getD_set_other {l : Array Bool} {i j : Nat} (h : i ≠ j) : (l.setIfInBounds i true).getD j false = l.getD j false := getD_set_ne false h
theorem not_listed {l : Array Bool} {i : Nat} (h : l.getD i true = false) : l.getD i false = false := by
  rcases Nat.lt_or_ge i l.size with h' | h'
  · simpa [h'] using h
  · simp [Array.getElem?_eq_none h'] at h

theorem wp_call1 {P : Program} {o : Oper} {a : Act} {w : World} {K : Act → World → Prop} {Q : Exit → Act → World → Prop} {f : FuncId} {x : Operand} {ts : Array TypeId} {v : Value} (ho : o.op = .call { callee := .value (.func f), args := #[x], argTypes := ts }) (hx : a.eval x = v)
    (hent : ∀ args w, (callFunc f args).run P w = .ok (.enter f args) w) {R : Ending → World → Prop} (hc : Calls P f #[v] w R) (h : ∀ en w', R en w' → ∃ u, en = .returned u ∧ K (a.put o.dst u) w') : o.wp P a w K Q := by
  have h2 : Calls P f #[v] w (fun
      | .returned u, w'' => K (a.put o.dst u) w''
      | .panicked chain, w'' => Q (.panic chain) a w''
      | .outgrown, _ => LetsOut Q) := hc.mono fun en w' hr => by
    obtain ⟨u, rfl, hk⟩ := h en w' hr
    exact hk
  unfold Oper.wp execOp
  simp only [ho]
  have hev : a.eval (.func f) = .func (.func f) #[] #[] := rfl
  simp [resolve, invoke, hev, hx, hent, Sem.run_bind, Deferred.ofValue]
  exact h2

theorem wp_storeB {P : Program} {o : Oper} {a : Act} {w : World} {K : Act → World → Prop} {Q : Exit → Act → World → Prop} (ty : TypeId) (x y : Operand) (ho : o.op = .store ty x y) (g : Nat) (t : TypeId) (cs cs' : Array Value) (hx : a.eval x = .pointer (some ⟨g, 0, none⟩)) (hy : a.eval y = .agg cs')
    (hi : (P.info? ty).map (·.size) = some cs'.size) (h1 : cs'.all (·.oneCell') = true) (hB : Blk w g t cs) (hl : cs.size = cs'.size) (h : K (a.put o.dst undef) (putB w g t cs')) : o.wp P a w K Q := by
  refine wp_store_mid ty x y ho g 0 cs' hx hy (fun j hj => ?_) hi h1 (by rw [setCells_all hB cs' hl]; exact h)
  rw [hB.cell, hB.frozen]
  exact ⟨by simp; omega, rfl⟩

theorem edge {es : Array Edge} {k : Nat} (h : es.toList.any (fun d => Region.binds .any d && d.on == k) = true) : ∃ d ∈ es, Region.binds .any d = true ∧ d.on = k := by
  obtain ⟨d, hd, h'⟩ := List.any_eq_true.1 h
  simp only [Bool.and_eq_true, beq_iff_eq] at h'
  exact ⟨d, by simpa using hd, h'⟩
def ordB : Nat → List Oper → Bool
  | _, [] => true
  | i, o :: l => o.after.all (fun d => !Region.binds .any d || decide (d.on < i)) && ordB (i + 1) l
theorem ordB_at : ∀ (l : List Oper) (k : Nat), ordB k l = true → ∀ i o, l[i]? = some o → ∀ d ∈ o.after, Region.binds .any d = true → d.on < k + i
  | [], _, _, i, o, h => by simp at h
  | o' :: l, k, hb, 0, o, h => by
    simp only [ordB, Bool.and_eq_true] at hb
    simp at h
    subst h
    intro d hd hbd
    have := (Array.all_eq_true'.1 hb.1) d hd
    simpa [hbd] using this
  | o' :: l, k, hb, i + 1, o, h => by
    simp only [ordB, Bool.and_eq_true] at hb
    intro d hd hbd
    have := ordB_at l (k + 1) hb.2 i o (by simpa using h) d hd hbd
    omega
theorem hordB {ops : Array Oper} (h : ordB 0 ops.toList = true) : ∀ (i : Nat) (o : Oper), ops[i]? = some o → ∀ d ∈ o.after, Region.binds .any d = true → d.on < i := fun i o ho d hd hbd => by
  have := ordB_at ops.toList 0 h i o (by simpa using ho) d hd hbd
  omega

theorem wp_assign {P : Program} {o : Oper} {a : Act} {w : World} {K : Act → World → Prop} {Q : Exit → Act → World → Prop} (k : Value) (ho : o.op = .assign (.const k)) (h : K (a.put o.dst k) w) : o.wp P a w K Q := by
  unfold Oper.wp execOp
  simp [ho, Act.eval, Sem.run_pure]
  exact h

theorem wp_loadB {P : Program} {op : Oper} {a : Act} {w : World} {K : Act → World → Prop} {Q : Exit → Act → World → Prop} (ty : TypeId) (x : Operand) (ho : op.op = .load ty x) (g : Nat) (t : TypeId) (cs : Array Value) (d : TypeDesc) (hx : a.eval x = .pointer (some ⟨g, 0, none⟩))
    (hB : Blk w g t cs) (hu : P.underlying ty = some d) (hd : d.isRow = true) (hi : (P.info? ty).map (·.size) = some cs.size) (h : K (a.put op.dst (.agg cs)) w) : op.wp P a w K Q := by
  refine wp_load_mid ty x ho g 0 hx cs.toList d (fun j v hv => ?_) hu hd (by simpa using hi) (by simpa using h)
  rw [hB.cell]
  simpa using hv

end Go.Proofs.YtffianmhojiomaaDoor
