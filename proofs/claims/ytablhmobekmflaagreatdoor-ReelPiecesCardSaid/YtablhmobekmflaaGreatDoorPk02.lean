/- Laid together: A region that draws its order, by an invariant: each operation is met once, whatever came ahead of it. Single operations. A region that draws its order and whose operations read, reckon and call, each with one value whatever came ahead of it: one walk. Single operations of a drawn region: calls of one argument, operators, loads of one cell. The walks of ratio.known, size, away and Quotient at numbers that are not negative. The walk of lines.Name. The walk of the reference's Name. Cuts of an edit decision list: the walks of edl.last, checkCut, reel.source, and of the reference's Played, single. -/
import Derived.Test.YtablhmobekmflaaGreatDoorPk01
import Derived.Orders

/-! RInv -/
namespace Go.Proofs.YtablhmobekmflaaGreatDoor
set_option linter.unusedVariables false
set_option linter.unusedSimpArgs false
open Go.RowKit
theorem count_set (l : Array Bool) (i : Nat) (h : l.getD i true = false) : ((l.setIfInBounds i true).toList.count false) + 1 = l.toList.count false := by
  have hi : i < l.size := by
    rcases Nat.lt_or_ge i l.size with h' | h'
    · exact h'
    · simp [Array.getElem?_eq_none h'] at h
  have hv : l[i] = false := by simpa [hi] using h
  rw [Array.toList_setIfInBounds]
  obtain ⟨l⟩ := l
  simp only at hi hv ⊢
  have hi' : i < l.length := by simpa using hi
  have hv' : l[i] = false := by simpa using hv
  rw [List.set_eq_take_append_cons_drop, if_pos hi']
  conv => rhs; rw [← List.take_append_drop i l, List.drop_eq_getElem_cons hi', hv']
  simp [List.count_append]
  omega
theorem all_listed {md : Region.Mode} {ops : Array Oper} {l : Array Bool} (hord : ∀ (i : Nat) (o : Oper), ops[i]? = some o → ∀ e ∈ o.after, Region.binds md e = true → e.on < i) (hs : l.size = ops.size) (hr : Region.ready md ops l = []) : ∀ i, i < ops.size → l.getD i false = true := by
  intro i
  induction i using Nat.strongRecOn with
  | _ i ih =>
    intro hi
    cases hl : l.getD i false with
    | true => rfl
    | false =>
      exfalso
      have hil : i < l.size := by omega
      have hm : i ∈ Region.ready md ops l := mem_ready.2 ⟨by simpa [hil] using hl, ops[i], by simp [hi], fun e he hb => ih e.on (hord i _ (by simp [hi]) e he hb) (by have := hord i ops[i] (by simp [hi]) e he hb; omega)⟩
      rw [hr] at hm
      cases hm
theorem wpAny_inv {P : Program} {md : Region.Mode} {ops : Array Oper} {Q : Exit → Act → World → Prop} (Inv : Array Bool → Act → World → Prop)
    (hsize : ∀ l a w, Inv l a w → l.size = ops.size)
    (hstep : ∀ l a w, Inv l a w → ∀ i o, ops[i]? = some o → l.getD i true = false → (∀ e ∈ o.after, Region.binds md e = true → l.getD e.on false = true) →
      ∀ K : Act → World → Prop, (∀ a w, Inv (l.setIfInBounds i true) a w → K a w) → if Region.wanted o (yielded ops a.tmps) = true then Oper.wp P o a w K Q else K (a.put o.dst undef) w)
    (hord : ∀ (i : Nat) (o : Oper), ops[i]? = some o → ∀ e ∈ o.after, Region.binds md e = true → e.on < i)
    (hdone : ∀ l a w, Inv l a w → (∀ i, i < ops.size → l.getD i false = true) → Q .normal a w) :
    ∀ (fuel : Nat) (l : Array Bool) (a : Act) (w : World), l.toList.count false ≤ fuel → Inv l a w → wpAny P md ops Q fuel l a w
  | 0, l, a, w, hc, hI => by
    have hr : Region.ready md ops l = [] := by
      apply List.eq_nil_iff_forall_not_mem.2
      intro i hi
      obtain ⟨h0, _⟩ := mem_ready.1 hi
      have := count_set l i h0
      omega
    exact ⟨hr, hdone l a w hI (all_listed hord (hsize l a w hI) hr)⟩
  | fuel + 1, l, a, w, hc, hI => by
    refine ⟨fun hr => hdone l a w hI (all_listed hord (hsize l a w hI) hr), fun i hi => ?_⟩
    obtain ⟨h0, o, ho, hall⟩ := mem_ready.1 hi
    have hs := count_set l i h0
    have h1 := hstep l a w hI i o ho h0 hall (wpAny P md ops Q fuel (l.setIfInBounds i true)) (fun a' w' hI' => wpAny_inv Inv hsize hstep hord hdone fuel _ a' w' (by omega) hI')
    unfold wpOp
    simp only [ho]
    split
    · rename_i hw; rw [if_pos hw] at h1; exact .inl h1
    · rename_i hw; rw [if_neg hw] at h1; exact h1
theorem getD_set_self {l : Array Bool} {i : Nat} (h : i < l.size) : (l.setIfInBounds i true).getD i false = true := by simp [h]
theorem getD_set_other {l : Array Bool} {i j : Nat} (h : i ≠ j) : (l.setIfInBounds i true).getD j false = l.getD j false := getD_set_ne false h
theorem not_listed {l : Array Bool} {i : Nat} (h : l.getD i true = false) : l.getD i false = false := by
  rcases Nat.lt_or_ge i l.size with h' | h'
  · simpa [h'] using h
  · simp [Array.getElem?_eq_none h'] at h
theorem wp_call1 {P : Program} {o : Oper} {a : Act} {w : World} {K : Act → World → Prop} {Q : Exit → Act → World → Prop} {f : FuncId} {x : Operand} {ts : Array TypeId} {v : Value} (ho : o.op = .call { callee := .value (.func f), args := #[x], argTypes := ts }) (hx : a.eval x = v)
    (hent : ∀ args w, (callFunc f args).run P w = .ok (.enter f args) w) {R : Ending → World → Prop} (hc : Calls P f #[v] w R) (h : ∀ en w', R en w' → ∃ u, en = .returned u ∧ K (a.put o.dst u) w') : o.wp P a w K Q := by
  have h2 : Calls P f #[v] w (fun
      | .returned u, w'' => K (a.put o.dst u) w''
      | .panicked chain, w'' => Q (.panic chain) a w''
      | .outgrown, _ => LetsOut Q) := hc.mono fun en w' hr => by
    obtain ⟨u, rfl, hk⟩ := h en w' hr
    exact hk
  unfold Oper.wp execOp
  simp only [ho]
  have hev : a.eval (.func f) = .func (.func f) #[] #[] := rfl
  simp [resolve, invoke, hev, hx, hent, Sem.run_bind, Deferred.ofValue]
  exact h2
theorem wp_storeB {P : Program} {o : Oper} {a : Act} {w : World} {K : Act → World → Prop} {Q : Exit → Act → World → Prop} (ty : TypeId) (x y : Operand) (ho : o.op = .store ty x y) (g : Nat) (t : TypeId) (cs cs' : Array Value) (hx : a.eval x = .pointer (some ⟨g, 0, none⟩)) (hy : a.eval y = .agg cs')
    (hi : (P.info? ty).map (·.size) = some cs'.size) (h1 : cs'.all (·.oneCell') = true) (hB : Blk w g t cs) (hl : cs.size = cs'.size) (h : K (a.put o.dst undef) (putB w g t cs')) : o.wp P a w K Q := by
  refine wp_store_mid ty x y ho g 0 cs' hx hy (fun j hj => ?_) hi h1 (by rw [setCells_all hB cs' hl]; exact h)
  rw [hB.cell, hB.frozen]
  exact ⟨by simp; omega, rfl⟩
theorem edge {es : Array Edge} {k : Nat} (h : es.toList.any (fun d => Region.binds .any d && d.on == k) = true) : ∃ d ∈ es, Region.binds .any d = true ∧ d.on = k := by
  obtain ⟨d, hd, h'⟩ := List.any_eq_true.1 h
  simp only [Bool.and_eq_true, beq_iff_eq] at h'
  exact ⟨d, by simpa using hd, h'⟩
def ordB : Nat → List Oper → Bool
  | _, [] => true
  | i, o :: l => o.after.all (fun d => !Region.binds .any d || decide (d.on < i)) && ordB (i + 1) l
theorem ordB_at : ∀ (l : List Oper) (k : Nat), ordB k l = true → ∀ i o, l[i]? = some o → ∀ d ∈ o.after, Region.binds .any d = true → d.on < k + i
  | [], _, _, i, o, h => by simp at h
  | o' :: l, k, hb, 0, o, h => by
    simp only [ordB, Bool.and_eq_true] at hb
    simp at h
    subst h
    intro d hd hbd
    have := (Array.all_eq_true'.1 hb.1) d hd
    simpa [hbd] using this
  | o' :: l, k, hb, i + 1, o, h => by
    simp only [ordB, Bool.and_eq_true] at hb
    intro d hd hbd
    have := ordB_at l (k + 1) hb.2 i o (by simpa using h) d hd hbd
    omega
theorem hordB {ops : Array Oper} (h : ordB 0 ops.toList = true) : ∀ (i : Nat) (o : Oper), ops[i]? = some o → ∀ d ∈ o.after, Region.binds .any d = true → d.on < i := fun i o ho d hd hbd => by
  have := ordB_at ops.toList 0 h i o (by simpa using ho) d hd hbd
  omega
theorem wp_assign {P : Program} {o : Oper} {a : Act} {w : World} {K : Act → World → Prop} {Q : Exit → Act → World → Prop} (k : Value) (ho : o.op = .assign (.const k)) (h : K (a.put o.dst k) w) : o.wp P a w K Q := by
  unfold Oper.wp execOp
  simp [ho, Act.eval, Sem.run_pure]
  exact h
theorem wp_loadB {P : Program} {op : Oper} {a : Act} {w : World} {K : Act → World → Prop} {Q : Exit → Act → World → Prop} (ty : TypeId) (x : Operand) (ho : op.op = .load ty x) (g : Nat) (t : TypeId) (cs : Array Value) (d : TypeDesc) (hx : a.eval x = .pointer (some ⟨g, 0, none⟩))
    (hB : Blk w g t cs) (hu : P.underlying ty = some d) (hd : d.isRow = true) (hi : (P.info? ty).map (·.size) = some cs.size) (h : K (a.put op.dst (.agg cs)) w) : op.wp P a w K Q := by
  refine wp_load_mid ty x ho g 0 hx cs.toList d (fun j v hv => ?_) hu hd (by simpa using hi) (by simpa using h)
  rw [hB.cell]
  simpa using hv
end Go.Proofs.YtablhmobekmflaaGreatDoor

/-! RegionDet -/
namespace Go.Proofs.YtablhmobekmflaaGreatDoor
set_option linter.unusedVariables false
set_option linter.unusedSimpArgs false
open Go.RowKit
/-- the slot that operation j writes -/
def dstAt (ops : Array Oper) (j : Nat) : Nat := ((ops[j]?).bind (·.dst)).getD 0
/-- each operation writes a slot of its own, in the frame -/
def dstOK (ops : Array Oper) (n : Nat) : Bool := ops.toList.all (fun o => (o.dst.map (fun s => decide (s < n))).getD false) && decide ((ops.toList.map (fun o => o.dst.getD 0)).Nodup)
def DetInv (ops : Array Oper) (a0 : Act) (W : World) (vals : Nat → Value) (l : Array Bool) (a : Act) (w : World) : Prop :=
  l.size = ops.size ∧ Ext W w ∧ a.defers = a0.defers ∧ a.tmps.size = a0.tmps.size ∧ (∀ s, (∀ j, j < ops.size → dstAt ops j ≠ s) → a.tmps[s]? = a0.tmps[s]?) ∧
    (∀ j, j < ops.size → l.getD j false = true → a.tmps[dstAt ops j]? = some (vals j))
theorem dstOK_lt {ops : Array Oper} {n j : Nat} {o : Oper} (h : dstOK ops n = true) (ho : ops[j]? = some o) : o.dst = some (dstAt ops j) ∧ dstAt ops j < n := by
  simp only [dstOK, Bool.and_eq_true, List.all_eq_true] at h
  have hm : o ∈ ops.toList := by simpa using Array.mem_of_getElem? ho
  have := h.1 o hm
  unfold dstAt
  rw [ho]
  cases hd : o.dst with
  | none => rw [hd] at this; simp at this
  | some s => rw [hd] at this; simp at this; simp [hd, this]
theorem dstOK_inj {ops : Array Oper} {n i j : Nat} (h : dstOK ops n = true) (hi : i < ops.size) (hj : j < ops.size) (he : dstAt ops i = dstAt ops j) : i = j := by
  simp only [dstOK, Bool.and_eq_true, decide_eq_true_eq] at h
  have hn := h.2
  have key : ∀ k (hk : k < ops.size), (ops.toList.map (fun o => o.dst.getD 0))[k]? = some (dstAt ops k) := fun k hk => by
    have ho : ops[k]? = some ops[k] := by simp [hk]
    have := (dstOK_lt (by simp only [dstOK, Bool.and_eq_true, decide_eq_true_eq]; exact h) ho).1
    rw [List.getElem?_map]
    simp [hk, this]
  have hl : (ops.toList.map (fun o => o.dst.getD 0)).length = ops.size := by simp
  refine (List.getElem?_inj (by rw [hl]; exact hi) hn).1 ?_
  rw [key i hi, key j hj, he]
theorem wp_region_det {P : Program} {ops : Array Oper} {Q : Exit → Act → World → Prop} {id : Nat} {a0 : Act} {W : World} (vals : Nat → Value) (hm : P.follows .mixedOrders = true) (hdst : dstOK ops a0.tmps.size = true) (hord : ordB 0 ops.toList = true)
    (hstep : ∀ i o, ops[i]? = some o → ∀ (a : Act) (w : World) (K : Act → World → Prop), Ext W w → (∀ s, (∀ j, j < ops.size → dstAt ops j ≠ s) → a.tmps.getD s undef = a0.tmps.getD s undef) →
      (∀ j, (∃ d ∈ o.after, Region.binds .any d = true ∧ d.on = j) → j < ops.size → a.tmps[dstAt ops j]? = some (vals j)) → (∀ w', Ext w w' → K (a.put o.dst (vals i)) w') →
      if Region.wanted o (yielded ops a.tmps) = true then Oper.wp P o a w K Q else K (a.put o.dst undef) w)
    (hQ : ∀ a w, Ext W w → a.defers = a0.defers → a.tmps.size = a0.tmps.size → (∀ s, (∀ j, j < ops.size → dstAt ops j ≠ s) → a.tmps[s]? = a0.tmps[s]?) → (∀ j, j < ops.size → a.tmps[dstAt ops j]? = some (vals j)) → Q .normal a w) :
    (Code.region id ops true).wp P Q a0 W := by
  refine wp_region_any hm ?_
  refine wpAny_inv (DetInv ops a0 W vals) (fun l a w h => h.1) ?_ (hordB hord) ?_ _ _ _ _ (by simp) ?_
  · intro l a w hI i o ho hl hall K hK
    obtain ⟨hs, hx, hdf, hsz, hnot, hval⟩ := hI
    have hi : i < ops.size := (Array.getElem?_eq_some_iff.1 ho).1
    refine hstep i o ho a w K hx (fun s hsn => ?_) (fun j hj hjl => ?_) (fun w' hx' => ?_)
    · have := hnot s hsn
      simp [this]
    · obtain ⟨d, hd, hb, rfl⟩ := hj
      exact hval _ hjl (hall d hd hb)
    · apply hK
      obtain ⟨hd1, hd2⟩ := dstOK_lt hdst ho
      rw [hd1]
      refine ⟨by simpa using hs, hx.trans hx', hdf, by simpa [Act.put] using hsz, fun s hsn => ?_, fun j hj hjl => ?_⟩
      · simp only [Act.put]
        rw [Array.getElem?_setIfInBounds_ne (hsn i hi)]
        exact hnot s hsn
      · simp only [Act.put]
        by_cases hij : i = j
        · subst hij
          simp [hsz, hd2]
        · rw [Array.getElem?_setIfInBounds_ne (fun h => hij (dstOK_inj hdst hi hj h))]
          rw [getD_set_other hij] at hjl
          exact hval j hj hjl
  · rintro l a w ⟨hs, hx, hdf, hsz, hnot, hval⟩ hall
    exact hQ a w hx hdf hsz hnot (fun j hj => hval j hj (hall j hj))
  · exact ⟨by simp, (Ext.refl W).drew, rfl, rfl, fun _ _ => rfl, fun j hj h => by simp [Array.getElem?_replicate, hj] at h⟩
theorem eval_of {a : Act} {s : Nat} {v : Value} (h : a.tmps[s]? = some v) : a.eval (.tmp s) = v := by simp [Act.eval, h]
theorem want_none {o : Oper} {y : Nat → Option Bool} {A B : Prop} (hg : o.guard = none) (h : A) : if Region.wanted o y = true then A else B := by
  rw [if_pos (by simp [Region.wanted, hg])]; exact h
section
variable {P : Program} {o : Oper} {a : Act} {w : World} {K : Act → World → Prop} {Q : Exit → Act → World → Prop}
theorem wp_move (x : Operand) (v : Value) (ho : o.op = .move x) (hx : a.eval x = v) (h : K (a.put o.dst v) w) : o.wp P a w K Q := by
  unfold Oper.wp execOp
  simp [ho, hx, Sem.run_pure]
  exact h
theorem wp_assignx (x : Operand) (v : Value) (ho : o.op = .assign x) (hx : a.eval x = v) (h : K (a.put o.dst v) w) : o.wp P a w K Q := by
  unfold Oper.wp execOp
  simp [ho, hx, Sem.run_pure]
  exact h
theorem wp_call2 {f : FuncId} {x y : Operand} {ts : Array TypeId} {v u : Value} (ho : o.op = .call { callee := .value (.func f), args := #[x, y], argTypes := ts }) (hx : a.eval x = v) (hy : a.eval y = u)
    (hent : ∀ args w, (callFunc f args).run P w = .ok (.enter f args) w) {r : Value} (hc : Calls P f #[v, u] w fun en w' => en = .returned r ∧ Ext w w') (h : ∀ w', Ext w w' → K (a.put o.dst r) w') : o.wp P a w K Q := by
  have h2 : Calls P f #[v, u] w (fun
      | .returned u, w'' => K (a.put o.dst u) w''
      | .panicked chain, w'' => Q (.panic chain) a w''
      | .outgrown, _ => LetsOut Q) := hc.mono fun en w' hr => by
    obtain ⟨rfl, hk⟩ := hr
    exact h w' hk
  unfold Oper.wp execOp
  simp only [ho]
  have hev : a.eval (.func f) = .func (.func f) #[] #[] := rfl
  simp [resolve, invoke, hev, hx, hy, hent, Sem.run_bind, Deferred.ofValue]
  exact h2
end
/-- the frame behind such a region, written out -/
theorem frame_eq {a0 : Array Value} : ∀ (L : List (Nat × Value)) (a a0 : Array Value), a.size = a0.size → (∀ p ∈ L, a[p.1]? = some p.2) → (∀ s, s ∉ L.map (·.1) → a[s]? = a0[s]?) → a = L.foldl (fun t p => t.setIfInBounds p.1 p.2) a0
  | [], a, a0, _, _, hn => Array.ext_getElem? fun i => hn i (by simp)
  | p :: L, a, a0, hz, hv, hn => by
    rw [List.foldl_cons]
    refine frame_eq (a0 := a0) L a _ (by simpa using hz) (fun q hq => hv q (List.mem_cons_of_mem _ hq)) (fun s hs => ?_)
    have hp := hv p (List.mem_cons_self ..)
    by_cases he : p.1 = s
    · subst he
      have hlt : p.1 < a0.size := by rw [← hz]; exact (Array.getElem?_eq_some_iff.1 hp).1
      rw [hp]
      simp [hlt]
    · rw [Array.getElem?_setIfInBounds_ne he]
      exact hn s (by simp only [List.map_cons, List.mem_cons, not_or]; exact ⟨fun h => he h.symm, hs⟩)
theorem dstAt_of {ops : Array Oper} {j s : Nat} (h : (ops[j]?).bind (·.dst) = some s) : dstAt ops j = s ∧ j < ops.size := by
  unfold dstAt
  rw [h]
  refine ⟨rfl, ?_⟩
  cases ho : ops[j]? with
  | none => rw [ho] at h; cases h
  | some o => exact (Array.getElem?_eq_some_iff.1 ho).1
/-- the same, its conditions as the walks of single operations ask them; the frame behind it is written out -/
theorem wp_region_vals {P : Program} {ops : Array Oper} {Q : Exit → Act → World → Prop} {id : Nat} {a0 : Act} {W : World} (vals : List Value) (L : List (Nat × Value)) (hm : P.follows .mixedOrders = true) (hdst : dstOK ops a0.tmps.size = true) (hord : ordB 0 ops.toList = true)
    (hL : (ops.toList.map (fun o => o.dst.getD 0)).zip vals = L) (hlen : vals.length = ops.size)
    (hstep : ∀ (i : Nat) (o : Oper), ops[i]? = some o → ∀ (a : Act) (w : World) (K : Act → World → Prop), Ext W w → (∀ s : Nat, ops.toList.all (fun o => o.dst != some s) = true → a.eval (.tmp s) = a0.eval (.tmp s)) →
      (∀ (j s : Nat) (v : Value), o.after.toList.any (fun d => Region.binds .any d && d.on == j) = true → (ops[j]?).bind (·.dst) = some s → vals[j]? = some v → a.tmps[s]? = some v) → (∀ v, vals[i]? = some v → ∀ w', Ext w w' → K (a.put o.dst v) w') →
      if Region.wanted o (yielded ops a.tmps) = true then Oper.wp P o a w K Q else K (a.put o.dst undef) w)
    (hQ : ∀ w, Ext W w → Q .normal { a0 with tmps := L.foldl (fun t p => t.setIfInBounds p.1 p.2) a0.tmps } w) :
    (Code.region id ops true).wp P Q a0 W := by
  have hget : ∀ j, j < ops.size → vals[j]? = some (vals.getD j undef) := fun j hj => by simp [hlen, hj]
  refine wp_region_det (fun j => vals.getD j undef) hm hdst hord (fun i o ho a w K hx hn hd hk => ?_) (fun a w hx hdf hsz hnot hval => ?_)
  · refine hstep i o ho a w K hx (fun s hs => ?_) (fun j s v hj hb hv => ?_) (fun v hv w' hx' => ?_)
    · refine hn s fun j hj he => ?_
      have h1 := (dstOK_lt hdst (show ops[j]? = some ops[j] by simp [hj])).1
      have h2 := List.all_eq_true.1 hs ops[j] (by simp)
      rw [h1, he] at h2
      simp at h2
    · obtain ⟨h1, h2⟩ := dstAt_of hb
      have h3 := hd j (edge hj) h2
      rw [h1] at h3
      rw [h3]
      have h4 := hget j h2
      rw [hv] at h4
      exact congrArg some (Option.some.inj h4).symm
    · have h4 := hget i (Array.getElem?_eq_some_iff.1 ho).1
      rw [hv] at h4
      have := hk w' hx'
      rw [← Option.some.inj h4] at this
      exact this
  · have hmem : ∀ p ∈ L, ∃ j, j < ops.size ∧ p = (dstAt ops j, vals.getD j undef) := fun p hp => by
      rw [← hL] at hp
      obtain ⟨j, hj⟩ := List.getElem?_of_mem hp
      rw [List.getElem?_zip_eq_some] at hj
      obtain ⟨h1, h2⟩ := hj
      have hjl : j < ops.size := by rw [← hlen]; exact (List.getElem?_eq_some_iff.1 h2).1
      refine ⟨j, hjl, ?_⟩
      have ho : ops[j]? = some ops[j] := by simp [hjl]
      have hd := (dstOK_lt hdst ho).1
      rw [List.getElem?_map] at h1
      simp [hjl, hd] at h1
      have h4 := hget j hjl
      rw [h2] at h4
      obtain ⟨p1, p2⟩ := p
      simp only at h1 h4
      rw [← h1, Option.some.inj h4]
    have hfr := frame_eq (a0 := a0.tmps) L a.tmps a0.tmps hsz (fun p hp => by
      obtain ⟨j, hj, rfl⟩ := hmem p hp
      exact hval j hj) (fun s hs => hnot s fun j hj he => hs (by
        rw [← hL, List.map_fst_zip (by simp [hlen])]
        have ho : ops[j]? = some ops[j] := by simp [hj]
        have hd := (dstOK_lt hdst ho).1
        rw [List.mem_map]
        exact ⟨ops[j], by simp, by rw [hd, he]; rfl⟩))
    have : a = { a0 with tmps := L.foldl (fun t p => t.setIfInBounds p.1 p.2) a0.tmps } := by
      obtain ⟨at_, ad⟩ := a
      simp only at hfr hdf
      rw [hfr, hdf]
    rw [this]
    exact hQ w hx
end Go.Proofs.YtablhmobekmflaaGreatDoor

/-! Det -/
namespace Go.Proofs.YtablhmobekmflaaGreatDoor
set_option linter.unusedVariables false
set_option linter.unusedSimpArgs false
open Go.RowKit
theorem wrap_i64 {a : Int} (h1 : -9223372036854775808 ≤ a) (h2 : a ≤ 9223372036854775807) : IntKind.i64.wrap a = a := by
  simp [IntKind.wrap, IntKind.bits, IntKind.signed]
  omega
section
variable {P : Program} {o : Oper} {a : Act} {w : World} {K : Act → World → Prop} {Q : Exit → Act → World → Prop}
theorem wp_call1s {f : FuncId} {x : Operand} {ts : Array TypeId} {v : Value} (ho : o.op = .call { callee := .value (.func f), args := #[x], argTypes := ts }) (hx : a.eval x = v)
    (hent : ∀ args w, (callFunc f args).run P w = .ok (.enter f args) w) {r : Value} (hc : Calls P f #[v] w fun en w' => en = .returned r ∧ Ext w w') (h : ∀ w', Ext w w' → K (a.put o.dst r) w') : o.wp P a w K Q :=
  wp_call1 ho hx hent hc fun _ w' hr => ⟨r, hr.1, h w' hr.2⟩
theorem wp_bin {op : BinOp} {x y : Operand} {ty ty' : TypeId} {u v r : Value} (ho : o.op = .binOp op ty x y ty') (hx : a.eval x = u) (hy : a.eval y = v) (hr : (do eqGuard op ty x y u v; binOp op ty u v : Sem Value).run P w = .ok r w) (h : K (a.put o.dst r) w) : o.wp P a w K Q := by
  unfold Oper.wp execOp
  simp only [ho, hx, hy]
  simp only [Sem.run_bind] at hr ⊢
  rw [hr]
  exact h
end
end Go.Proofs.YtablhmobekmflaaGreatDoor

/-! RatioQ -/
namespace Go.Proofs.YtablhmobekmflaaGreatDoor
set_option linter.unusedVariables false
set_option linter.unusedSimpArgs false
open Go.RowKit
theorem size_any (n : Int) (w : World) (h : 0 ≤ n) (h9 : n ≤ 9223372036854775807) : Calls Tryz.prog 164 #[.int .i64 n] w fun e w' => e = .returned (.int .u64 n) ∧ w = w' := by
  go_enter Tryz.func164, Tryz.ntmps164
  go_wp2
  go_ret
  exact ⟨rfl, rfl⟩
theorem known_any (m : Int) (w : World) (h1 : 1 ≤ m) (h3 : m ≤ 3) : Calls Tryz.prog 163 #[.int .u8 m] w fun e w' => e = .returned (.bool true) ∧ w = w' := by
  go_enter Tryz.func163, Tryz.ntmps163
  go_wp2
  go_ret
  exact ⟨rfl, rfl⟩
/-- is a remainder rounded up? (mode 1: down, 2: to the nearest, 3: up) -/
def awayB (r d m : Int) : Bool := if r = 0 then false else if m = 1 then false else if m = 3 then true else decide (d - r ≤ r)
set_option maxRecDepth 100000 in
set_option maxHeartbeats 1000000 in
theorem away_any (r d m : Int) (w : World) (hr : 0 ≤ r) (hd : r < d) (h9 : d ≤ 9223372036854775807) (h1 : 1 ≤ m) (h3 : m ≤ 3) : Calls Tryz.prog 165 #[.bool false, .int .u64 r, .int .u64 d, .int .u8 m] w fun e w' => e = .returned (.bool (awayB r d m)) ∧ w = w' := by
  by_cases h0 : r = 0
  · subst h0
    go_enter Tryz.func165, Tryz.ntmps165
    go_wp2
    go_ret
    exact ⟨rfl, rfl⟩
  · have e0 : (r == 0) = false := by simpa using h0
    have hm : m = 1 ∨ m = 2 ∨ m = 3 := by omega
    rcases hm with rfl | rfl | rfl
    · have HF : Hid (awayB r d 1 = false) := by show _ = _; unfold awayB; rw [if_neg h0]; rfl
      go_enter Tryz.func165, Tryz.ntmps165
      go_wp2
      go_ret
      exact ⟨ret_bool HF.out.symm, rfl⟩
    · have HF : Hid (awayB r d 2 = decide (d - r ≤ r)) := by show _ = _; unfold awayB; rw [if_neg h0]; rfl
      by_cases hg : d - r < r
      · go_enter Tryz.func165, Tryz.ntmps165
        go_wp2
        go_ret
        exact ⟨ret_bool (by rw [HF.out, decide_eq_true (by omega)]), rfl⟩
      · by_cases hq : r = d - r
        · have hq' : (r == d - r) = true := by simpa using hq
          have HQ := Lib.hid hq
          clear hq
          go_enter Tryz.func165, Tryz.ntmps165
          go_wp2
          go_ret
          exact ⟨ret_bool (by rw [HF.out, decide_eq_true (by have := HQ.out; omega)]), rfl⟩
        · have hq' : (r == d - r) = false := by simpa using hq
          go_enter Tryz.func165, Tryz.ntmps165
          go_wp2
          go_ret
          exact ⟨ret_bool (by rw [HF.out, decide_eq_false (by omega)]), rfl⟩
    · have HF : Hid (awayB r d 3 = true) := by show _ = _; unfold awayB; rw [if_neg h0]; rfl
      go_enter Tryz.func165, Tryz.ntmps165
      go_wp2
      go_ret
      exact ⟨ret_bool HF.out.symm, rfl⟩
theorem quo_u64 {n d : Int} {w : World} (hn : 0 ≤ n) (hd : 1 ≤ d) (hn9 : n ≤ 9223372036854775807) (hd9 : d ≤ 9223372036854775807) : (do eqGuard .quo 192 (.tmp 24) (.tmp 26) (.int .u64 n) (.int .u64 d); binOp .quo 192 (.int .u64 n) (.int .u64 d) : Sem Value).run Tryz.prog w = .ok (.int .u64 (n / d)) w := by
  have h1 : 0 ≤ n / d := Int.ediv_nonneg hn (by omega)
  have h2 : n / d ≤ n := Int.ediv_le_self _ hn
  have hd0 : (d == 0) = false := by simp; omega
  have e : n.tdiv d = n / d := Int.tdiv_eq_ediv_of_nonneg hn
  have hz : ¬ d = 0 := by omega
  go_simp
  simp [IntKind.wrap, IntKind.bits, IntKind.signed]
  omega
theorem rem_u64 {n d : Int} {w : World} (hn : 0 ≤ n) (hd : 1 ≤ d) (hn9 : n ≤ 9223372036854775807) (hd9 : d ≤ 9223372036854775807) : (do eqGuard .rem 192 (.tmp 29) (.tmp 31) (.int .u64 n) (.int .u64 d); binOp .rem 192 (.int .u64 n) (.int .u64 d) : Sem Value).run Tryz.prog w = .ok (.int .u64 (n % d)) w := by
  have h1 : 0 ≤ n % d := Int.emod_nonneg _ (by omega)
  have h2 : n % d < d := Int.emod_lt_of_pos _ (by omega)
  have e : n.tmod d = n % d := Int.tmod_eq_emod_of_nonneg hn
  have hz : ¬ d = 0 := by omega
  go_simp
/-- a quotient of numbers that are not negative -/
def quoI (n d m : Int) : Int := if awayB (n % d) d m = true then n / d + 1 else n / d
set_option maxRecDepth 100000 in
set_option maxHeartbeats 2000000 in
theorem Quotient_any (n d m : Int) (w : World) (hn0 : 0 ≤ n) (hn9 : n ≤ 4611686018427387904) (hd1 : 1 ≤ d) (hd9 : d ≤ 9223372036854775807) (h1 : 1 ≤ m) (h3 : m ≤ 3) :
    Calls Tryz.prog 101 #[.int .i64 n, .int .i64 d, .int .u8 m] w fun e w' => e = .returned (.tuple #[.int .i64 (quoI n d m), .int .i64 0]) ∧ Ext w w' := by
  have hq0 : 0 ≤ n / d := Int.ediv_nonneg hn0 (by omega)
  have hq1 : n / d ≤ n := Int.ediv_le_self _ hn0
  have hr0 : 0 ≤ n % d := Int.emod_nonneg _ (by omega)
  have hr1 : n % d < d := Int.emod_lt_of_pos _ (by omega)
  have hd0 : (d == 0) = false := by simp; omega
  have hnl : decide (n < 0) = false := by simp; omega
  have hdl : decide (d < 0) = false := by simp; omega
  go_enter Tryz.func101, Tryz.ntmps101
  go_wp2_with fail
  refine (known_any m _ h1 h3).mono ?_
  rintro e w1 ⟨rfl, rfl⟩
  go_wp2_with fail
--@gen quo
  refine wp_region_vals [.int .i64 (n), .int .u64 (n), .int .i64 (d), .int .u64 (d), .int .u64 (n / d), .int .i64 (n), .int .u64 (n), .int .i64 (d), .int .u64 (d), .int .u64 (n % d), .int .u64 (n / d), .int .u64 (n % d)] [(23, .int .i64 (n)), (24, .int .u64 (n)), (25, .int .i64 (d)), (26, .int .u64 (d)), (27, .int .u64 (n / d)), (28, .int .i64 (n)), (29, .int .u64 (n)), (30, .int .i64 (d)), (31, .int .u64 (d)), (32, .int .u64 (n % d)), (9, .int .u64 (n / d)), (10, .int .u64 (n % d))] (by kernel_rfl) (by kernel_rfl) (by kernel_rfl) rfl rfl ?_ ?_
  · intro i o ho a w' K' hx hn hd hk
    match i, ho with
    | 0, ho =>
      simp only [List.getElem?_toArray, List.getElem?_cons_zero, List.getElem?_cons_succ, Option.some.injEq] at ho
      subst ho
      refine want_none rfl ?_
      exact wp_move _ _ rfl ((hn 0 rfl).trans (show _ = .int .i64 (n) from rfl)) (hk _ rfl w' (Ext.refl _))
    | 1, ho =>
      simp only [List.getElem?_toArray, List.getElem?_cons_zero, List.getElem?_cons_succ, Option.some.injEq] at ho
      subst ho
      refine want_none rfl ?_
      exact wp_call1s rfl (eval_of (hd 0 23 (.int .i64 (n)) rfl rfl rfl)) Tryz.call164 ((size_any n w' hn0 (by omega)).mono fun _ _ h => ⟨h.1, h.2 ▸ Ext.refl _⟩) (hk _ rfl)
    | 2, ho =>
      simp only [List.getElem?_toArray, List.getElem?_cons_zero, List.getElem?_cons_succ, Option.some.injEq] at ho
      subst ho
      refine want_none rfl ?_
      exact wp_move _ _ rfl ((hn 1 rfl).trans (show _ = .int .i64 (d) from rfl)) (hk _ rfl w' (Ext.refl _))
    | 3, ho =>
      simp only [List.getElem?_toArray, List.getElem?_cons_zero, List.getElem?_cons_succ, Option.some.injEq] at ho
      subst ho
      refine want_none rfl ?_
      exact wp_call1s rfl (eval_of (hd 2 25 (.int .i64 (d)) rfl rfl rfl)) Tryz.call164 ((size_any d w' (by omega) hd9).mono fun _ _ h => ⟨h.1, h.2 ▸ Ext.refl _⟩) (hk _ rfl)
    | 4, ho =>
      simp only [List.getElem?_toArray, List.getElem?_cons_zero, List.getElem?_cons_succ, Option.some.injEq] at ho
      subst ho
      refine want_none rfl ?_
      exact wp_bin rfl (eval_of (hd 1 24 (.int .u64 (n)) rfl rfl rfl)) (eval_of (hd 3 26 (.int .u64 (d)) rfl rfl rfl)) (by exact quo_u64 hn0 hd1 (by omega) hd9) (hk _ rfl w' (Ext.refl _))
    | 5, ho =>
      simp only [List.getElem?_toArray, List.getElem?_cons_zero, List.getElem?_cons_succ, Option.some.injEq] at ho
      subst ho
      refine want_none rfl ?_
      exact wp_move _ _ rfl ((hn 0 rfl).trans (show _ = .int .i64 (n) from rfl)) (hk _ rfl w' (Ext.refl _))
    | 6, ho =>
      simp only [List.getElem?_toArray, List.getElem?_cons_zero, List.getElem?_cons_succ, Option.some.injEq] at ho
      subst ho
      refine want_none rfl ?_
      exact wp_call1s rfl (eval_of (hd 5 28 (.int .i64 (n)) rfl rfl rfl)) Tryz.call164 ((size_any n w' hn0 (by omega)).mono fun _ _ h => ⟨h.1, h.2 ▸ Ext.refl _⟩) (hk _ rfl)
    | 7, ho =>
      simp only [List.getElem?_toArray, List.getElem?_cons_zero, List.getElem?_cons_succ, Option.some.injEq] at ho
      subst ho
      refine want_none rfl ?_
      exact wp_move _ _ rfl ((hn 1 rfl).trans (show _ = .int .i64 (d) from rfl)) (hk _ rfl w' (Ext.refl _))
    | 8, ho =>
      simp only [List.getElem?_toArray, List.getElem?_cons_zero, List.getElem?_cons_succ, Option.some.injEq] at ho
      subst ho
      refine want_none rfl ?_
      exact wp_call1s rfl (eval_of (hd 7 30 (.int .i64 (d)) rfl rfl rfl)) Tryz.call164 ((size_any d w' (by omega) hd9).mono fun _ _ h => ⟨h.1, h.2 ▸ Ext.refl _⟩) (hk _ rfl)
    | 9, ho =>
      simp only [List.getElem?_toArray, List.getElem?_cons_zero, List.getElem?_cons_succ, Option.some.injEq] at ho
      subst ho
      refine want_none rfl ?_
      exact wp_bin rfl (eval_of (hd 6 29 (.int .u64 (n)) rfl rfl rfl)) (eval_of (hd 8 31 (.int .u64 (d)) rfl rfl rfl)) (by exact rem_u64 hn0 hd1 (by omega) hd9) (hk _ rfl w' (Ext.refl _))
    | 10, ho =>
      simp only [List.getElem?_toArray, List.getElem?_cons_zero, List.getElem?_cons_succ, Option.some.injEq] at ho
      subst ho
      refine want_none rfl ?_
      exact wp_assignx _ _ rfl (eval_of (hd 4 27 (.int .u64 (n / d)) rfl rfl rfl)) (hk _ rfl w' (Ext.refl _))
    | 11, ho =>
      simp only [List.getElem?_toArray, List.getElem?_cons_zero, List.getElem?_cons_succ, Option.some.injEq] at ho
      subst ho
      refine want_none rfl ?_
      exact wp_assignx _ _ rfl (eval_of (hd 9 32 (.int .u64 (n % d)) rfl rfl rfl)) (hk _ rfl w' (Ext.refl _))
    | i + 12, ho => simp at ho
--@gend quo
  intro w1 hx
  simp only [Act.put, List.foldl_cons, List.foldl_nil, List.setIfInBounds_toArray, List.set_cons_zero, List.set_cons_succ]
  have HQ : Hid (∀ b, awayB (n % d) d m = b → quoI n d m = if b = true then n / d + 1 else n / d) := fun b hb => by unfold quoI; rw [hb]
  go_wp2_with fail
  refine (size_any d _ (by omega) hd9).mono ?_
  rintro e w2 ⟨rfl, rfl⟩
  go_wp2_with fail
  refine (away_any (n % d) d m _ hr0 hr1 hd9 h1 h3).mono ?_
  rintro e w2 ⟨rfl, rfl⟩
  cases hb : awayB (n % d) d m
  · have HB := Lib.hid hb
    clear hb
    go_wp2_with fail
    go_ret2
    exact ⟨by rw [HQ.out _ HB.out]; rfl, hx⟩
  · have HB := Lib.hid hb
    clear hb
    go_wp2_with fail
    go_ret2
    exact ⟨by rw [HQ.out _ HB.out]; rfl, hx⟩
end Go.Proofs.YtablhmobekmflaaGreatDoor

/-! Name -/
namespace Go.Proofs.YtablhmobekmflaaGreatDoor
set_option linter.unusedVariables false
set_option linter.unusedSimpArgs false
open Go.RowKit
/-- may a byte stand in a name? (of its number) -/
def nbI (c : Int) : Bool := decide ((65 ≤ c ∧ c ≤ 90) ∨ (48 ≤ c ∧ c ≤ 57) ∨ c = 95 ∨ c = 45)
def nameB (s : ByteArray) : Bool := decide (1 ≤ s.size ∧ s.size ≤ 16) && (s.data.toList.take 1).all (fun c => decide (65 ≤ (c.toNat : Int) ∧ (c.toNat : Int) ≤ 90)) && s.data.toList.all (fun c => nbI c.toNat)
theorem take_snoc (s : ByteArray) (k : Nat) (h : k < s.size) : s.data.toList.take (k + 1) = s.data.toList.take k ++ [s[k]] := by
  rw [List.take_succ_eq_append_getElem (by simpa using h)]; rfl
theorem nameB_small {s : ByteArray} (h : ¬ (1 ≤ s.size ∧ s.size ≤ 16)) : nameB s = false := by unfold nameB; rw [decide_eq_false h]; rfl
theorem nameB_head {s : ByteArray} (h : 0 < s.size) (hc : ¬ ((65 : Int) ≤ (s[0].toNat : Int) ∧ (s[0].toNat : Int) ≤ 90)) : nameB s = false := by
  unfold nameB
  have e := take_snoc s 0 h
  simp only [Nat.zero_add, List.take_zero, List.nil_append] at e
  rw [e, List.all_cons, decide_eq_false hc]
  simp
theorem nameB_at {s : ByteArray} (k : Nat) (h : k < s.size) (hc : nbI (s[k].toNat : Int) = false) : nameB s = false := by
  unfold nameB
  have : (s.data.toList.all fun c => nbI c.toNat) = false := by
    rw [List.all_eq_false]
    exact ⟨s[k], by simp [ByteArray.getElem_eq_getElem_data], by rw [hc]; simp⟩
  rw [this, Bool.and_false]
theorem nameB_yes {s : ByteArray} (h : 1 ≤ s.size ∧ s.size ≤ 16) (h0 : 0 < s.size) (hc : (65 : Int) ≤ (s[0].toNat : Int) ∧ (s[0].toNat : Int) ≤ 90) (ha : (s.data.toList.take s.size).all (fun c => nbI c.toNat) = true) : nameB s = true := by
  unfold nameB
  have e := take_snoc s 0 h0
  simp only [Nat.zero_add, List.take_zero, List.nil_append] at e
  rw [List.take_of_length_le (by simp)] at ha
  rw [e, List.all_cons, decide_eq_true hc, decide_eq_true h, ha]
  rfl
def NameRel (s : ByteArray) (i : Value) : Prop := ∃ k : Nat, k ≤ s.size ∧ i = .int .i64 k ∧ (s.data.toList.take k).all (fun c => nbI c.toNat) = true
set_option maxHeartbeats 1000000 in
theorem Name_any (s : ByteArray) (w : World) (hs : s.size ≤ 9223372036854775807) :
    Calls Tryz.prog 48 #[.string s] w fun e w' => e = .returned (.bool (nameB s)) ∧ w = w' := by
  by_cases h : 1 ≤ s.size
  · by_cases h' : s.size ≤ 16
    · have h1 : (1 : Int) ≤ (s.size : Int) := by omega
      have h2 : (s.size : Int) ≤ 16 := by omega
      have h0 : 0 < s.size := by omega
      have HS := Lib.hid (And.intro h h')
      by_cases hc1 : (65 : Int) ≤ (s[0].toNat : Int)
      · by_cases hc2 : (s[0].toNat : Int) ≤ 90
        · go_enter Tryz.func48, Tryz.ntmps48
          go_wp2
          go_loop [25] (fun i => NameRel s i) (fun i => s.size - (intOf i).toNat)
          case atStart => exact ⟨0, Nat.zero_le _, rfl, rfl⟩
          case round =>
            obtain ⟨k, hk, rfl, hall⟩ := hrel
            have HA := Lib.hid hall
            clear hall
            by_cases hlt : k < s.size
            · by_cases hb : nbI (s[k].toNat : Int) = true
              · have HA' : Hid ((s.data.toList.take (k + 1)).all (fun c => nbI c.toNat) = true) := by
                  show (s.data.toList.take (k + 1)).all (fun c => nbI c.toNat) = true
                  rw [take_snoc s k hlt, List.all_append, HA.out]
                  simp [hb]
                have hb' : ((65 : Int) ≤ (s[k].toNat : Int) ∧ (s[k].toNat : Int) ≤ 90) ∨ ((48 : Int) ≤ (s[k].toNat : Int) ∧ (s[k].toNat : Int) ≤ 57) ∨ (s[k].toNat : Int) = 95 ∨ (s[k].toNat : Int) = 45 := of_decide_eq_true hb
                clear hb
                go_wp2
                all_goals first
                  | exact ⟨⟨k + 1, by omega, by go_num, HA'.out⟩, by simp [intOf]; omega⟩
                  | (exfalso; simp at *; omega)
              · have HB := Lib.hid (nameB_at k hlt (by simpa using hb))
                have hb' : ¬ (((65 : Int) ≤ (s[k].toNat : Int) ∧ (s[k].toNat : Int) ≤ 90) ∨ ((48 : Int) ≤ (s[k].toNat : Int) ∧ (s[k].toNat : Int) ≤ 57) ∨ (s[k].toNat : Int) = 95 ∨ (s[k].toNat : Int) = 45) := fun x => hb (decide_eq_true x)
                clear hb
                go_wp2
                all_goals first
                  | (go_ret; exact ⟨by rw [HB.out]; rfl, rfl⟩)
                  | (exfalso; simp at *; omega)
            · have ek : k = s.size := by omega
              subst ek
              go_wp2
              go_ret
              exact ⟨by rw [nameB_yes HS.out h0 ⟨hc1, hc2⟩ HA.out]; rfl, rfl⟩
        · have HF := Lib.hid (nameB_head h0 (by omega))
          go_enter Tryz.func48, Tryz.ntmps48
          go_wp2
          go_ret
          exact ⟨by rw [HF.out]; rfl, rfl⟩
      · have HF := Lib.hid (nameB_head h0 (by omega))
        go_enter Tryz.func48, Tryz.ntmps48
        go_wp2
        go_ret
        exact ⟨by rw [HF.out]; rfl, rfl⟩
    · have HF := Lib.hid (nameB_small (s := s) (by omega))
      have h1 : (16 : Int) < (s.size : Int) := by omega
      go_enter Tryz.func48, Tryz.ntmps48
      go_wp2
      go_ret
      exact ⟨by rw [HF.out]; rfl, rfl⟩
  · have HF := Lib.hid (nameB_small (s := s) (by omega))
    have h1 : (s.size : Int) < 1 := by omega
    go_enter Tryz.func48, Tryz.ntmps48
    go_wp2
    go_ret
    exact ⟨by rw [HF.out]; rfl, rfl⟩
end Go.Proofs.YtablhmobekmflaaGreatDoor

/-! NameR -/
namespace Go.Proofs.YtablhmobekmflaaGreatDoor
set_option linter.unusedVariables false
set_option linter.unusedSimpArgs false
open Go.RowKit
theorem digit_any (c : Int) (w : World) : Calls Tryz.prog 106 #[.int .u8 c] w fun e w' => e = .returned (.bool (decide (48 ≤ c ∧ c ≤ 57))) ∧ w = w' := by
  by_cases h1 : 48 ≤ c
  · by_cases h2 : c ≤ 57
    · go_enter Tryz.func106, Tryz.ntmps106
      go_wp2
      go_ret
      exact ⟨ret_bool (by rw [decide_eq_true ⟨h1, h2⟩]), rfl⟩
    · go_enter Tryz.func106, Tryz.ntmps106
      go_wp2
      go_ret
      exact ⟨ret_bool (by rw [decide_eq_false (by omega)]), rfl⟩
  · go_enter Tryz.func106, Tryz.ntmps106
    go_wp2
    go_ret
    exact ⟨ret_bool (by simp; omega), rfl⟩
def NameRelR (s : ByteArray) (i : Value) (w wr : World) : Prop := ∃ k : Nat, k ≤ s.size ∧ i = .int .i64 k ∧ (s.data.toList.take k).all (fun c => nbI c.toNat) = true ∧ (0 < k → ∀ h : 0 < s.size, (65 : Int) ≤ (s[0].toNat : Int) ∧ (s[0].toNat : Int) ≤ 90) ∧ w = wr
theorem nb_step {s : ByteArray} {k : Nat} (hlt : k < s.size) (h : (s.data.toList.take k).all (fun c => nbI c.toNat) = true) (hb : nbI (s[k].toNat : Int) = true) : (s.data.toList.take (k + 1)).all (fun c => nbI c.toNat) = true := by
  rw [take_snoc s k hlt, List.all_append, h]
  simp [hb]
theorem nb_let {c : Int} (h1 : 65 ≤ c) (h2 : c ≤ 90) : nbI c = true := decide_eq_true (.inl ⟨h1, h2⟩)
theorem nb_dig {c : Int} (h1 : 48 ≤ c) (h2 : c ≤ 57) : nbI c = true := decide_eq_true (.inr (.inl ⟨h1, h2⟩))
set_option maxRecDepth 100000 in
set_option maxHeartbeats 4000000 in
theorem RName_any (s : ByteArray) (w : World) (hs : s.size ≤ 9223372036854775807) :
    Calls Tryz.prog 50 #[.string s] w fun e w' => e = .returned (.bool (nameB s)) ∧ Ext w w' := by
  by_cases h : 1 ≤ s.size
  · by_cases h' : s.size ≤ 16
    · have h1 : (1 : Int) ≤ (s.size : Int) := by omega
      have h2 : (s.size : Int) ≤ 16 := by omega
      have h0 : 0 < s.size := by omega
      have HS := Lib.hid (And.intro h h')
      go_enter Tryz.func50, Tryz.ntmps50
      go_wp2
      go_loopw [3] (fun i wr => NameRelR s i w wr) (fun i _ => s.size - (intOf i).toNat)
      case atStart => exact ⟨0, Nat.zero_le _, rfl, rfl, fun h => absurd h (by omega), rfl⟩
      case round =>
        obtain ⟨k, hk, rfl, hall, hhd, rfl⟩ := hrel
        have HA := Lib.hid hall
        have HH := Lib.hid hhd
        clear hall hhd
        by_cases hlt : k < s.size
        · have hki : (k : Int) < (s.size : Int) := by omega
          by_cases hl1 : (65 : Int) ≤ (s[k].toNat : Int)
          · by_cases hl2 : (s[k].toNat : Int) ≤ 90
            · have HB := Lib.hid (nb_step hlt HA.out (nb_let hl1 hl2))
              have HH2 : Hid (∀ h : 0 < s.size, (65 : Int) ≤ (s[0].toNat : Int) ∧ (s[0].toNat : Int) ≤ 90) := fun h => by
                rcases Nat.eq_zero_or_pos k with h0 | h0
                · subst h0; exact ⟨hl1, hl2⟩
                · exact HH.out h0 h
              go_wp2
              exact ⟨⟨k + 1, by omega, by go_num, HB.out, fun _ => HH2.out, rfl⟩, by simp [intOf]; omega⟩
            · by_cases hk0 : k = 0
              · subst hk0
                have HF := Lib.hid (nameB_head h0 (by omega))
                go_wp2_with fail
                go_ret
                exact ⟨by rw [HF.out]; rfl, Ext.refl _⟩
              · have hk0' : ((k : Int) == 0) = false := by simp; omega
                have hd : ¬ ((48 : Int) ≤ (s[k].toNat : Int) ∧ (s[k].toNat : Int) ≤ 57) := by omega
                go_wp2_with fail
                refine (digit_any _ _).mono ?_
                rintro e w1 ⟨rfl, rfl⟩
                rw [decide_eq_false hd]
                by_cases h95 : (s[k].toNat : Int) = 95
                · have HB := Lib.hid (nb_step hlt HA.out (by unfold nbI; rw [h95]; decide))
                  go_wp2_with fail
                  exact ⟨⟨k + 1, by omega, by go_num, HB.out, fun _ => HH.out (by omega), rfl⟩, by simp [intOf]; omega⟩
                · by_cases h45 : (s[k].toNat : Int) = 45
                  · exfalso; omega
                  · have e95 : ((s[k].toNat : Int) != 95) = true := by simpa using h95
                    have e45 : ((s[k].toNat : Int) != 45) = true := by simpa using h45
                    have HF := Lib.hid (nameB_at k hlt (by unfold nbI; rw [decide_eq_false (by omega)]))
                    go_wp2_with fail
                    go_ret
                    exact ⟨by rw [HF.out]; rfl, Ext.refl _⟩
          · by_cases hk0 : k = 0
            · subst hk0
              have HF := Lib.hid (nameB_head h0 (by omega))
              go_wp2_with fail
              go_ret
              exact ⟨by rw [HF.out]; rfl, Ext.refl _⟩
            · have hk0' : ((k : Int) == 0) = false := by simp; omega
              go_wp2_with fail
              refine (digit_any _ _).mono ?_
              rintro e w1 ⟨rfl, rfl⟩
              by_cases hd : (48 : Int) ≤ (s[k].toNat : Int) ∧ (s[k].toNat : Int) ≤ 57
              · rw [decide_eq_true hd]
                have HB := Lib.hid (nb_step hlt HA.out (nb_dig hd.1 hd.2))
                go_wp2_with fail
                exact ⟨⟨k + 1, by omega, by go_num, HB.out, fun _ => HH.out (by omega), rfl⟩, by simp [intOf]; omega⟩
              · rw [decide_eq_false hd]
                by_cases h45 : (s[k].toNat : Int) = 45
                · have HB := Lib.hid (nb_step hlt HA.out (by unfold nbI; rw [h45]; decide))
                  have e95 : ((s[k].toNat : Int) != 95) = true := by rw [h45]; rfl
                  have e45 : ((s[k].toNat : Int) != 45) = false := by rw [h45]; rfl
                  clear h45
                  go_wp2_with fail
                  exact ⟨⟨k + 1, by omega, by go_num, HB.out, fun _ => HH.out (by omega), rfl⟩, by simp [intOf]; omega⟩
                · have e95 : ((s[k].toNat : Int) != 95) = true := by simp; omega
                  have e45 : ((s[k].toNat : Int) != 45) = true := by simpa using h45
                  have HF := Lib.hid (nameB_at k hlt (by unfold nbI; rw [decide_eq_false (by omega)]))
                  go_wp2_with fail
                  go_ret
                  exact ⟨by rw [HF.out]; rfl, Ext.refl _⟩
        · have ek : k = s.size := by omega
          subst ek
          go_wp2
          go_ret
          exact ⟨by rw [nameB_yes HS.out h0 (HH.out h0 h0) HA.out]; rfl, Ext.refl _⟩
    · have HF := Lib.hid (nameB_small (s := s) (by omega))
      have h1 : (16 : Int) < (s.size : Int) := by omega
      go_enter Tryz.func50, Tryz.ntmps50
      go_wp2
      go_ret
      exact ⟨by rw [HF.out]; rfl, Ext.refl _⟩
  · have HF := Lib.hid (nameB_small (s := s) (by omega))
    have h1 : (s.size : Int) < 1 := by omega
    go_enter Tryz.func50, Tryz.ntmps50
    go_wp2
    go_ret
    exact ⟨by rw [HF.out]; rfl, Ext.refl _⟩
end Go.Proofs.YtablhmobekmflaaGreatDoor

/-! EdlA -/
namespace Go.Proofs.YtablhmobekmflaaGreatDoor
set_option linter.unusedVariables false
set_option linter.unusedSimpArgs false
open Go.RowKit
/-- a cut -/
structure Cut where
  num : Int
  reel : ByteArray
  src : Int
  inn : Int
  out : Int
  n : Int
  d : Int
  deriving DecidableEq
def Cut.vals (c : Cut) : List Value := [.int .i64 c.num, .string c.reel, .int .i64 c.src, .int .i64 c.inn, .int .i64 c.out, .int .i64 c.n, .int .i64 c.d]
def Cut.cells (c : Cut) : Array Value := #[.int .i64 c.num, .string c.reel, .int .i64 c.src, .int .i64 c.inn, .int .i64 c.out, .int .i64 c.n, .int .i64 c.d]
/-- integers of 64 bits -/
def I64 (x : Int) : Prop := -9223372036854775808 ≤ x ∧ x ≤ 9223372036854775807
def Cut.Fits (c : Cut) : Prop := I64 c.num ∧ I64 c.src ∧ I64 c.inn ∧ I64 c.out ∧ I64 c.n ∧ I64 c.d ∧ c.reel.size ≤ 140737488351232
def speedB (c : Cut) : Bool := ratioB c.n c.d && decide (0 ≤ c.n ∧ c.n ≤ 8 ∧ c.d ≤ 8)
def srcAt (c : Cut) (t : Int) : Int := c.src + (t - c.inn) * c.n / c.d
/-- a cut whose numbers can be reckoned with -/
def Cut.Sane (c : Cut) : Prop := 0 ≤ c.inn ∧ c.inn < c.out ∧ c.out ≤ 5184000 ∧ 0 ≤ c.n ∧ c.n ≤ 8 ∧ 1 ≤ c.d ∧ c.d ≤ 8 ∧ 0 ≤ c.src ∧ c.src ≤ 5184000
def cutErr (c : Cut) (day : Int) : Int :=
  if nameB c.reel = false then 5 else if c.out ≤ c.inn then 1 else if c.inn < 0 ∨ day ≤ c.out then 2 else if speedB c = false then 3 else if c.src < 0 ∨ day ≤ c.src ∨ day ≤ srcAt c (c.out - 1) then 2 else 0
theorem speedB_true {c : Cut} (h : speedB c = true) : 0 ≤ c.n ∧ c.n ≤ 8 ∧ 1 ≤ c.d ∧ c.d ≤ 8 := by
  unfold speedB ratioB at h
  simp only [Bool.and_eq_true, decide_eq_true_eq] at h
  have := inPartsB_true h.1.1
  omega
theorem quoI_floor (n d : Int) : quoI n d 1 = n / d := by
  have h : awayB (n % d) d 1 = false := by unfold awayB; split <;> rfl
  unfold quoI
  rw [h]
  rfl
theorem mul_bd8 {a n : Int} (h0 : 0 ≤ a) (h1 : a ≤ 5184000) (h2 : 0 ≤ n) (h3 : n ≤ 8) : 0 ≤ a * n ∧ a * n ≤ 41472000 := by
  refine ⟨Int.mul_nonneg h0 h2, ?_⟩
  have h4 : a * n ≤ 5184000 * 8 := Int.mul_le_mul h1 h3 h2 (by omega)
  omega
theorem div_bd {x d : Int} (h0 : 0 ≤ x) (h1 : x ≤ 41472000) (h2 : 1 ≤ d) : 0 ≤ x / d ∧ x / d ≤ 41472000 :=
  ⟨Int.ediv_nonneg h0 (by omega), Int.le_trans (Int.ediv_le_self _ h0) h1⟩
set_option maxRecDepth 100000 in
set_option maxHeartbeats 1000000 in
theorem source_any (c : Cut) (t : Int) (w : World) (hc : c.Sane) (h1 : c.inn ≤ t) (h2 : t < c.out) :
    Calls Tryz.prog 45 #[.agg c.cells, .int .i64 t] w fun e w' => e = .returned (.int .i64 (srcAt c t)) ∧ Ext w w' := by
  obtain ⟨num, rl, src, inn, out, n, d⟩ := c
  obtain ⟨a1, a2, a3, a4, a5, a6, a7, a8, a9⟩ := hc
  dsimp only at *
  have hm := mul_bd8 (a := t - inn) (n := n) (by omega) (by omega) a4 a5
  have hq := div_bd hm.1 hm.2 a6
  have HF : Hid (srcAt ⟨num, rl, src, inn, out, n, d⟩ t = src + (t - inn) * n / d) := rfl
  have HX := Lib.hid ((Ext.refl w).alloc (.cells #[.int .i64 num, .string rl, .int .i64 src, .int .i64 inn, .int .i64 out, .int .i64 n, .int .i64 d] 91))
  unfold Cut.cells
  dsimp only
  go_enter Tryz.func45, Tryz.ntmps45
  go_wp2_with fail
  refine (Quotient_any ((t - inn) * n) d 1 _ hm.1 (by omega) a6 (by omega) (by omega) (by omega)).mono ?_
  rintro e w1 ⟨rfl, hx⟩
  rw [quoI_floor]
  have hB := Blk.ext (Blk.new w 91 #[.int .i64 num, .string rl, .int .i64 src, .int .i64 inn, .int .i64 out, .int .i64 n, .int .i64 d]) hx
  have hcell := fun o => hB.cell o
  have HB := Lib.hid hB
  clear hB
  go_wp2_with fail
  go_ret
  exact ⟨ret_int HF.out.symm, HX.out.trans hx⟩
set_option maxRecDepth 100000 in
set_option maxHeartbeats 1000000 in
theorem last_any (c : Cut) (w : World) (hc : c.Sane) :
    Calls Tryz.prog 151 #[.agg c.cells] w fun e w' => e = .returned (.int .i64 (srcAt c (c.out - 1))) ∧ Ext w w' := by
  obtain ⟨num, rl, src, inn, out, n, d⟩ := c
  obtain ⟨a1, a2, a3, a4, a5, a6, a7, a8, a9⟩ := hc
  dsimp only at *
  have hm := mul_bd8 (a := out - 1 - inn) (n := n) (by omega) (by omega) a4 a5
  have hq := div_bd hm.1 hm.2 a6
  have HF : Hid (srcAt ⟨num, rl, src, inn, out, n, d⟩ (out - 1) = src + (out - 1 - inn) * n / d) := rfl
  have HX := Lib.hid ((Ext.refl w).alloc (.cells #[.int .i64 num, .string rl, .int .i64 src, .int .i64 inn, .int .i64 out, .int .i64 n, .int .i64 d] 91))
  unfold Cut.cells
  dsimp only
  go_enter Tryz.func151, Tryz.ntmps151
  go_wp2_with fail
  refine (Quotient_any ((out - 1 - inn) * n) d 1 _ hm.1 (by omega) a6 (by omega) (by omega) (by omega)).mono ?_
  rintro e w1 ⟨rfl, hx⟩
  rw [quoI_floor]
  have hB := Blk.ext (Blk.new w 91 #[.int .i64 num, .string rl, .int .i64 src, .int .i64 inn, .int .i64 out, .int .i64 n, .int .i64 d]) hx
  have hcell := fun o => hB.cell o
  have HB := Lib.hid hB
  clear hB
  go_wp2_with fail
  go_ret
  exact ⟨ret_int HF.out.symm, HX.out.trans hx⟩
set_option maxRecDepth 100000 in
set_option maxHeartbeats 1000000 in
theorem Played_any (c : Cut) (t : Int) (w : World) (hc : c.Sane) (h1 : c.inn ≤ t) (h2 : t < c.out) :
    Calls Tryz.prog 46 #[.agg c.cells, .int .i64 t] w fun e w' => e = .returned (.int .i64 (srcAt c t)) ∧ Ext w w' := by
  obtain ⟨num, rl, src, inn, out, n, d⟩ := c
  obtain ⟨a1, a2, a3, a4, a5, a6, a7, a8, a9⟩ := hc
  dsimp only at *
  have hm := mul_bd8 (a := t - inn) (n := n) (by omega) (by omega) a4 a5
  have hq := div_bd hm.1 hm.2 a6
  have hd0 : (d == 0) = false := by simp; omega
  have hdz : ¬ d = 0 := by omega
  have HF : Hid (srcAt ⟨num, rl, src, inn, out, n, d⟩ t = src + (t - inn) * n / d) := rfl
  have HX := Lib.hid ((Ext.refl w).alloc (.cells #[.int .i64 num, .string rl, .int .i64 src, .int .i64 inn, .int .i64 out, .int .i64 n, .int .i64 d] 91))
  unfold Cut.cells
  dsimp only
  go_enter Tryz.func46, Tryz.ntmps46
  go_wp2_with fail
  go_quiet (fail)
  go_wp2_with fail
  go_ret
  exact ⟨ret_int HF.out.symm, HX.out.drewN _⟩
end Go.Proofs.YtablhmobekmflaaGreatDoor
