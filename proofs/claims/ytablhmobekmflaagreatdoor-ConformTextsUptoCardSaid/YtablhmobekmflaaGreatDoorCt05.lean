/- Texts laid together. -/
import Derived.Test.YtablhmobekmflaaGreatDoorCt01
import Derived.Orders
set_option linter.unusedVariables false
set_option linter.unusedSimpArgs false
namespace Go.Proofs.YtablhmobekmflaaGreatDoor
section
open Go.RowKit
theorem count_set (l : Array Bool) (i : Nat) (h : l.getD i true = false) : ((l.setIfInBounds i true).toList.count false) + 1 = l.toList.count false := by
 have hi : i < l.size := by
  rcases Nat.lt_or_ge i l.size with h' | h'
  · exact h'
  · simp [Array.getElem?_eq_none h'] at h
 have hv : l[i] = false := by simpa [hi] using h
 rw [Array.toList_setIfInBounds]
 obtain ⟨l⟩ := l
 simp only at hi hv ⊢
 have hi' : i < l.length := by simpa using hi
 have hv' : l[i] = false := by simpa using hv
 rw [List.set_eq_take_append_cons_drop, if_pos hi']
 conv => rhs; rw [← List.take_append_drop i l, List.drop_eq_getElem_cons hi', hv']
 simp [List.count_append]
 omega
theorem all_listed {md : Region.Mode} {ops : Array Oper} {l : Array Bool} (hord : ∀ (i : Nat) (o : Oper), ops[i]? = some o → ∀ e ∈ o.after, Region.binds md e = true → e.on < i) (hs : l.size = ops.size) (hr : Region.ready md ops l = []) : ∀ i, i < ops.size → l.getD i false = true := by
 intro i
 induction i using Nat.strongRecOn with
 | _ i ih =>
  intro hi
  cases hl : l.getD i false with
  | true => rfl
  | false =>
   exfalso
   have hil : i < l.size := by omega
   have hm : i ∈ Region.ready md ops l := mem_ready.2 ⟨by simpa [hil] using hl, ops[i], by simp [hi], fun e he hb => ih e.on (hord i _ (by simp [hi]) e he hb) (by have := hord i ops[i] (by simp [hi]) e he hb; omega)⟩
   rw [hr] at hm
   cases hm
theorem wpAny_inv {P : Program} {md : Region.Mode} {ops : Array Oper} {Q : Exit → Act → World → Prop} (Inv : Array Bool → Act → World → Prop)
 (hsize : ∀ l a w, Inv l a w → l.size = ops.size)
 (hstep : ∀ l a w, Inv l a w → ∀ i o, ops[i]? = some o → l.getD i true = false → (∀ e ∈ o.after, Region.binds md e = true → l.getD e.on false = true) →
  ∀ K : Act → World → Prop, (∀ a w, Inv (l.setIfInBounds i true) a w → K a w) → if Region.wanted o (yielded ops a.tmps) = true then Oper.wp P o a w K Q else K (a.put o.dst undef) w)
 (hord : ∀ (i : Nat) (o : Oper), ops[i]? = some o → ∀ e ∈ o.after, Region.binds md e = true → e.on < i)
 (hdone : ∀ l a w, Inv l a w → (∀ i, i < ops.size → l.getD i false = true) → Q .normal a w) :
 ∀ (fuel : Nat) (l : Array Bool) (a : Act) (w : World), l.toList.count false ≤ fuel → Inv l a w → wpAny P md ops Q fuel l a w
 | 0, l, a, w, hc, hI => by
  have hr : Region.ready md ops l = [] := by
   apply List.eq_nil_iff_forall_not_mem.2
   intro i hi
   obtain ⟨h0, _⟩ := mem_ready.1 hi
   have := count_set l i h0
   omega
  exact ⟨hr, hdone l a w hI (all_listed hord (hsize l a w hI) hr)⟩
 | fuel + 1, l, a, w, hc, hI => by
  refine ⟨fun hr => hdone l a w hI (all_listed hord (hsize l a w hI) hr), fun i hi => ?_⟩
  obtain ⟨h0, o, ho, hall⟩ := mem_ready.1 hi
  have hs := count_set l i h0
  have h1 := hstep l a w hI i o ho h0 hall (wpAny P md ops Q fuel (l.setIfInBounds i true)) (fun a' w' hI' => wpAny_inv Inv hsize hstep hord hdone fuel _ a' w' (by omega) hI')
  unfold wpOp
  simp only [ho]
  split
  · rename_i hw; rw [if_pos hw] at h1; exact .inl h1
  · rename_i hw; rw [if_neg hw] at h1; exact h1
theorem getD_set_self {l : Array Bool} {i : Nat} (h : i < l.size) : (l.setIfInBounds i true).getD i false = true := by simp [h]
theorem getD_set_other {l : Array Bool} {i j : Nat} (h : i ≠ j) : (l.setIfInBounds i true).getD j false = l.getD j false := getD_set_ne false h
theorem not_listed {l : Array Bool} {i : Nat} (h : l.getD i true = false) : l.getD i false = false := by
 rcases Nat.lt_or_ge i l.size with h' | h'
 · simpa [h'] using h
 · simp [Array.getElem?_eq_none h'] at h
theorem wp_call1 {P : Program} {o : Oper} {a : Act} {w : World} {K : Act → World → Prop} {Q : Exit → Act → World → Prop} {f : FuncId} {x : Operand} {ts : Array TypeId} {v : Value} (ho : o.op = .call { callee := .value (.func f), args := #[x], argTypes := ts }) (hx : a.eval x = v)
 (hent : ∀ args w, (callFunc f args).run P w = .ok (.enter f args) w) {R : Ending → World → Prop} (hc : Calls P f #[v] w R) (h : ∀ en w', R en w' → ∃ u, en = .returned u ∧ K (a.put o.dst u) w') : o.wp P a w K Q := by
 have h2 : Calls P f #[v] w (fun
  | .returned u, w'' => K (a.put o.dst u) w''
  | .panicked chain, w'' => Q (.panic chain) a w''
  | .outgrown, _ => LetsOut Q) := hc.mono fun en w' hr => by
  obtain ⟨u, rfl, hk⟩ := h en w' hr
  exact hk
 unfold Oper.wp execOp
 simp only [ho]
 have hev : a.eval (.func f) = .func (.func f) #[] #[] := rfl
 simp [resolve, invoke, hev, hx, hent, Sem.run_bind, Deferred.ofValue]
 exact h2
theorem wp_storeB {P : Program} {o : Oper} {a : Act} {w : World} {K : Act → World → Prop} {Q : Exit → Act → World → Prop} (ty : TypeId) (x y : Operand) (ho : o.op = .store ty x y) (g : Nat) (t : TypeId) (cs cs' : Array Value) (hx : a.eval x = .pointer (some ⟨g, 0, none⟩)) (hy : a.eval y = .agg cs')
 (hi : (P.info? ty).map (·.size) = some cs'.size) (h1 : cs'.all (·.oneCell') = true) (hB : Blk w g t cs) (hl : cs.size = cs'.size) (h : K (a.put o.dst undef) (putB w g t cs')) : o.wp P a w K Q := by
 refine wp_store_mid ty x y ho g 0 cs' hx hy (fun j hj => ?_) hi h1 (by rw [setCells_all hB cs' hl]; exact h)
 rw [hB.cell, hB.frozen]
 exact ⟨by simp; omega, rfl⟩
theorem edge {es : Array Edge} {k : Nat} (h : es.toList.any (fun d => Region.binds .any d && d.on == k) = true) : ∃ d ∈ es, Region.binds .any d = true ∧ d.on = k := by
 obtain ⟨d, hd, h'⟩ := List.any_eq_true.1 h
 simp only [Bool.and_eq_true, beq_iff_eq] at h'
 exact ⟨d, by simpa using hd, h'⟩
def ordB : Nat → List Oper → Bool
 | _, [] => true
 | i, o :: l => o.after.all (fun d => !Region.binds .any d || decide (d.on < i)) && ordB (i + 1) l
theorem ordB_at : ∀ (l : List Oper) (k : Nat), ordB k l = true → ∀ i o, l[i]? = some o → ∀ d ∈ o.after, Region.binds .any d = true → d.on < k + i
 | [], _, _, i, o, h => by simp at h
 | o' :: l, k, hb, 0, o, h => by
  simp only [ordB, Bool.and_eq_true] at hb
  simp at h
  subst h
  intro d hd hbd
  have := (Array.all_eq_true'.1 hb.1) d hd
  simpa [hbd] using this
 | o' :: l, k, hb, i + 1, o, h => by
  simp only [ordB, Bool.and_eq_true] at hb
  intro d hd hbd
  have := ordB_at l (k + 1) hb.2 i o (by simpa using h) d hd hbd
  omega
theorem hordB {ops : Array Oper} (h : ordB 0 ops.toList = true) : ∀ (i : Nat) (o : Oper), ops[i]? = some o → ∀ d ∈ o.after, Region.binds .any d = true → d.on < i := fun i o ho d hd hbd => by
 have := ordB_at ops.toList 0 h i o (by simpa using ho) d hd hbd
 omega
theorem wp_loadB {P : Program} {op : Oper} {a : Act} {w : World} {K : Act → World → Prop} {Q : Exit → Act → World → Prop} (ty : TypeId) (x : Operand) (ho : op.op = .load ty x) (g : Nat) (t : TypeId) (cs : Array Value) (d : TypeDesc) (hx : a.eval x = .pointer (some ⟨g, 0, none⟩))
 (hB : Blk w g t cs) (hu : P.underlying ty = some d) (hd : d.isRow = true) (hi : (P.info? ty).map (·.size) = some cs.size) (h : K (a.put op.dst (.agg cs)) w) : op.wp P a w K Q := by
 refine wp_load_mid ty x ho g 0 hx cs.toList d (fun j v hv => ?_) hu hd (by simpa using hi) (by simpa using h)
 rw [hB.cell]
 simpa using hv
end
section
open Go.RowKit
def dstAt (ops : Array Oper) (j : Nat) : Nat := ((ops[j]?).bind (·.dst)).getD 0
def dstOK (ops : Array Oper) (n : Nat) : Bool := ops.toList.all (fun o => (o.dst.map (fun s => decide (s < n))).getD false) && decide ((ops.toList.map (fun o => o.dst.getD 0)).Nodup)
def DetInv (ops : Array Oper) (a0 : Act) (W : World) (vals : Nat → Value) (l : Array Bool) (a : Act) (w : World) : Prop :=
 l.size = ops.size ∧ Ext W w ∧ a.defers = a0.defers ∧ a.tmps.size = a0.tmps.size ∧ (∀ s, (∀ j, j < ops.size → dstAt ops j ≠ s) → a.tmps[s]? = a0.tmps[s]?) ∧
  (∀ j, j < ops.size → l.getD j false = true → a.tmps[dstAt ops j]? = some (vals j))
theorem dstOK_lt {ops : Array Oper} {n j : Nat} {o : Oper} (h : dstOK ops n = true) (ho : ops[j]? = some o) : o.dst = some (dstAt ops j) ∧ dstAt ops j < n := by
 simp only [dstOK, Bool.and_eq_true, List.all_eq_true] at h
 have hm : o ∈ ops.toList := by simpa using Array.mem_of_getElem? ho
 have := h.1 o hm
 unfold dstAt
 rw [ho]
 cases hd : o.dst with
 | none => rw [hd] at this; simp at this
 | some s => rw [hd] at this; simp at this; simp [hd, this]
theorem dstOK_inj {ops : Array Oper} {n i j : Nat} (h : dstOK ops n = true) (hi : i < ops.size) (hj : j < ops.size) (he : dstAt ops i = dstAt ops j) : i = j := by
 simp only [dstOK, Bool.and_eq_true, decide_eq_true_eq] at h
 have hn := h.2
 have key : ∀ k (hk : k < ops.size), (ops.toList.map (fun o => o.dst.getD 0))[k]? = some (dstAt ops k) := fun k hk => by
  have ho : ops[k]? = some ops[k] := by simp [hk]
  have := (dstOK_lt (by simp only [dstOK, Bool.and_eq_true, decide_eq_true_eq]; exact h) ho).1
  rw [List.getElem?_map]
  simp [hk, this]
 have hl : (ops.toList.map (fun o => o.dst.getD 0)).length = ops.size := by simp
 refine (List.getElem?_inj (by rw [hl]; exact hi) hn).1 ?_
 rw [key i hi, key j hj, he]
theorem wp_region_det {P : Program} {ops : Array Oper} {Q : Exit → Act → World → Prop} {id : Nat} {a0 : Act} {W : World} (vals : Nat → Value) (hm : P.follows .mixedOrders = true) (hdst : dstOK ops a0.tmps.size = true) (hord : ordB 0 ops.toList = true)
 (hstep : ∀ i o, ops[i]? = some o → ∀ (a : Act) (w : World) (K : Act → World → Prop), Ext W w → (∀ s, (∀ j, j < ops.size → dstAt ops j ≠ s) → a.tmps.getD s undef = a0.tmps.getD s undef) →
  (∀ j, (∃ d ∈ o.after, Region.binds .any d = true ∧ d.on = j) → j < ops.size → a.tmps[dstAt ops j]? = some (vals j)) → (∀ w', Ext w w' → K (a.put o.dst (vals i)) w') →
  if Region.wanted o (yielded ops a.tmps) = true then Oper.wp P o a w K Q else K (a.put o.dst undef) w)
 (hQ : ∀ a w, Ext W w → a.defers = a0.defers → a.tmps.size = a0.tmps.size → (∀ s, (∀ j, j < ops.size → dstAt ops j ≠ s) → a.tmps[s]? = a0.tmps[s]?) → (∀ j, j < ops.size → a.tmps[dstAt ops j]? = some (vals j)) → Q .normal a w) :
 (Code.region id ops true).wp P Q a0 W := by
 refine wp_region_any hm ?_
 refine wpAny_inv (DetInv ops a0 W vals) (fun l a w h => h.1) ?_ (hordB hord) ?_ _ _ _ _ (by simp) ?_
 · intro l a w hI i o ho hl hall K hK
   obtain ⟨hs, hx, hdf, hsz, hnot, hval⟩ := hI
   have hi : i < ops.size := (Array.getElem?_eq_some_iff.1 ho).1
   refine hstep i o ho a w K hx (fun s hsn => ?_) (fun j hj hjl => ?_) (fun w' hx' => ?_)
   · have := hnot s hsn
     simp [this]
   · obtain ⟨d, hd, hb, rfl⟩ := hj
     exact hval _ hjl (hall d hd hb)
   · apply hK
     obtain ⟨hd1, hd2⟩ := dstOK_lt hdst ho
     rw [hd1]
     refine ⟨by simpa using hs, hx.trans hx', hdf, by simpa [Act.put] using hsz, fun s hsn => ?_, fun j hj hjl => ?_⟩
     · simp only [Act.put]
       rw [Array.getElem?_setIfInBounds_ne (hsn i hi)]
       exact hnot s hsn
     · simp only [Act.put]
       by_cases hij : i = j
       · subst hij
         simp [hsz, hd2]
       · rw [Array.getElem?_setIfInBounds_ne (fun h => hij (dstOK_inj hdst hi hj h))]
         rw [getD_set_other hij] at hjl
         exact hval j hj hjl
 · rintro l a w ⟨hs, hx, hdf, hsz, hnot, hval⟩ hall
   exact hQ a w hx hdf hsz hnot (fun j hj => hval j hj (hall j hj))
 · exact ⟨by simp, (Ext.refl W).drew, rfl, rfl, fun _ _ => rfl, fun j hj h => by simp [Array.getElem?_replicate, hj] at h⟩
theorem eval_of {a : Act} {s : Nat} {v : Value} (h : a.tmps[s]? = some v) : a.eval (.tmp s) = v := by simp [Act.eval, h]
theorem want_of {ops : Array Oper} {o : Oper} {a : Act} {k s : Nat} {b b' : Bool} (hg : o.guard = some (k, b)) (hk : (ops[k]?).bind (·.dst) = some s) (hv : a.tmps[s]? = some (.bool b')) : Region.wanted o (yielded ops a.tmps) = (b' == b) := by
 unfold Region.wanted yielded
 rw [hg]
 simp only [hk, Option.bind_some, hv]
 cases b <;> cases b' <;> rfl
theorem want_none {o : Oper} {y : Nat → Option Bool} {A B : Prop} (hg : o.guard = none) (h : A) : if Region.wanted o y = true then A else B := by
 rw [if_pos (by simp [Region.wanted, hg])]; exact h
theorem want_yes {ops : Array Oper} {o : Oper} {a : Act} {k s : Nat} {b b' : Bool} {A B : Prop} (hg : o.guard = some (k, b)) (hk : (ops[k]?).bind (·.dst) = some s) (hv : a.tmps[s]? = some (.bool b')) (he : (b' == b) = true) (h : A) : if Region.wanted o (yielded ops a.tmps) = true then A else B := by
 rw [if_pos (by rw [want_of hg hk hv]; exact he)]; exact h
theorem want_no {ops : Array Oper} {o : Oper} {a : Act} {k s : Nat} {b b' : Bool} {A B : Prop} (hg : o.guard = some (k, b)) (hk : (ops[k]?).bind (·.dst) = some s) (hv : a.tmps[s]? = some (.bool b')) (he : (b' == b) = false) (h : B) : if Region.wanted o (yielded ops a.tmps) = true then A else B := by
 rw [if_neg (by rw [want_of hg hk hv, he]; simp)]; exact h
section
variable {P : Program} {o : Oper} {a : Act} {w : World} {K : Act → World → Prop} {Q : Exit → Act → World → Prop}
theorem wp_move (x : Operand) (v : Value) (ho : o.op = .move x) (hx : a.eval x = v) (h : K (a.put o.dst v) w) : o.wp P a w K Q := by
 unfold Oper.wp execOp
 simp [ho, hx, Sem.run_pure]
 exact h
theorem wp_assignx (x : Operand) (v : Value) (ho : o.op = .assign x) (hx : a.eval x = v) (h : K (a.put o.dst v) w) : o.wp P a w K Q := by
 unfold Oper.wp execOp
 simp [ho, hx, Sem.run_pure]
 exact h
theorem wp_pick (c x y : Operand) (b : Bool) (v : Value) (ho : o.op = .pick c x y) (hc : a.eval c = .bool b) (hx : (if b then a.eval x else a.eval y) = v) (h : K (a.put o.dst v) w) : o.wp P a w K Q := by
 unfold Oper.wp execOp
 simp [ho, hc, asBool, Sem.run_pure, Sem.run_bind]
 rw [hx]
 exact h
theorem wp_call2 {f : FuncId} {x y : Operand} {ts : Array TypeId} {v u : Value} (ho : o.op = .call { callee := .value (.func f), args := #[x, y], argTypes := ts }) (hx : a.eval x = v) (hy : a.eval y = u)
 (hent : ∀ args w, (callFunc f args).run P w = .ok (.enter f args) w) {r : Value} (hc : Calls P f #[v, u] w fun en w' => en = .returned r ∧ Ext w w') (h : ∀ w', Ext w w' → K (a.put o.dst r) w') : o.wp P a w K Q := by
 have h2 : Calls P f #[v, u] w (fun
  | .returned u, w'' => K (a.put o.dst u) w''
  | .panicked chain, w'' => Q (.panic chain) a w''
  | .outgrown, _ => LetsOut Q) := hc.mono fun en w' hr => by
  obtain ⟨rfl, hk⟩ := hr
  exact h w' hk
 unfold Oper.wp execOp
 simp only [ho]
 have hev : a.eval (.func f) = .func (.func f) #[] #[] := rfl
 simp [resolve, invoke, hev, hx, hy, hent, Sem.run_bind, Deferred.ofValue]
 exact h2
end
theorem frame_eq {a0 : Array Value} : ∀ (L : List (Nat × Value)) (a a0 : Array Value), a.size = a0.size → (∀ p ∈ L, a[p.1]? = some p.2) → (∀ s, s ∉ L.map (·.1) → a[s]? = a0[s]?) → a = L.foldl (fun t p => t.setIfInBounds p.1 p.2) a0
 | [], a, a0, _, _, hn => Array.ext_getElem? fun i => hn i (by simp)
 | p :: L, a, a0, hz, hv, hn => by
  rw [List.foldl_cons]
  refine frame_eq (a0 := a0) L a _ (by simpa using hz) (fun q hq => hv q (List.mem_cons_of_mem _ hq)) (fun s hs => ?_)
  have hp := hv p (List.mem_cons_self ..)
  by_cases he : p.1 = s
  · subst he
    have hlt : p.1 < a0.size := by rw [← hz]; exact (Array.getElem?_eq_some_iff.1 hp).1
    rw [hp]
    simp [hlt]
  · rw [Array.getElem?_setIfInBounds_ne he]
    exact hn s (by simp only [List.map_cons, List.mem_cons, not_or]; exact ⟨fun h => he h.symm, hs⟩)
theorem dstAt_of {ops : Array Oper} {j s : Nat} (h : (ops[j]?).bind (·.dst) = some s) : dstAt ops j = s ∧ j < ops.size := by
 unfold dstAt
 rw [h]
 refine ⟨rfl, ?_⟩
 cases ho : ops[j]? with
 | none => rw [ho] at h; cases h
 | some o => exact (Array.getElem?_eq_some_iff.1 ho).1
theorem wp_region_vals {P : Program} {ops : Array Oper} {Q : Exit → Act → World → Prop} {id : Nat} {a0 : Act} {W : World} (vals : List Value) (L : List (Nat × Value)) (hm : P.follows .mixedOrders = true) (hdst : dstOK ops a0.tmps.size = true) (hord : ordB 0 ops.toList = true)
 (hL : (ops.toList.map (fun o => o.dst.getD 0)).zip vals = L) (hlen : vals.length = ops.size)
 (hstep : ∀ (i : Nat) (o : Oper), ops[i]? = some o → ∀ (a : Act) (w : World) (K : Act → World → Prop), Ext W w → (∀ s : Nat, ops.toList.all (fun o => o.dst != some s) = true → a.eval (.tmp s) = a0.eval (.tmp s)) →
  (∀ (j s : Nat) (v : Value), o.after.toList.any (fun d => Region.binds .any d && d.on == j) = true → (ops[j]?).bind (·.dst) = some s → vals[j]? = some v → a.tmps[s]? = some v) → (∀ v, vals[i]? = some v → ∀ w', Ext w w' → K (a.put o.dst v) w') →
  if Region.wanted o (yielded ops a.tmps) = true then Oper.wp P o a w K Q else K (a.put o.dst undef) w)
 (hQ : ∀ w, Ext W w → Q .normal { a0 with tmps := L.foldl (fun t p => t.setIfInBounds p.1 p.2) a0.tmps } w) :
 (Code.region id ops true).wp P Q a0 W := by
 have hget : ∀ j, j < ops.size → vals[j]? = some (vals.getD j undef) := fun j hj => by simp [hlen, hj]
 refine wp_region_det (fun j => vals.getD j undef) hm hdst hord (fun i o ho a w K hx hn hd hk => ?_) (fun a w hx hdf hsz hnot hval => ?_)
 · refine hstep i o ho a w K hx (fun s hs => ?_) (fun j s v hj hb hv => ?_) (fun v hv w' hx' => ?_)
   · refine hn s fun j hj he => ?_
     have h1 := (dstOK_lt hdst (show ops[j]? = some ops[j] by simp [hj])).1
     have h2 := List.all_eq_true.1 hs ops[j] (by simp)
     rw [h1, he] at h2
     simp at h2
   · obtain ⟨h1, h2⟩ := dstAt_of hb
     have h3 := hd j (edge hj) h2
     rw [h1] at h3
     rw [h3]
     have h4 := hget j h2
     rw [hv] at h4
     exact congrArg some (Option.some.inj h4).symm
   · have h4 := hget i (Array.getElem?_eq_some_iff.1 ho).1
     rw [hv] at h4
     have := hk w' hx'
     rw [← Option.some.inj h4] at this
     exact this
 · have hmem : ∀ p ∈ L, ∃ j, j < ops.size ∧ p = (dstAt ops j, vals.getD j undef) := fun p hp => by
    rw [← hL] at hp
    obtain ⟨j, hj⟩ := List.getElem?_of_mem hp
    rw [List.getElem?_zip_eq_some] at hj
    obtain ⟨h1, h2⟩ := hj
    have hjl : j < ops.size := by rw [← hlen]; exact (List.getElem?_eq_some_iff.1 h2).1
    refine ⟨j, hjl, ?_⟩
    have ho : ops[j]? = some ops[j] := by simp [hjl]
    have hd := (dstOK_lt hdst ho).1
    rw [List.getElem?_map] at h1
    simp [hjl, hd] at h1
    have h4 := hget j hjl
    rw [h2] at h4
    obtain ⟨p1, p2⟩ := p
    simp only at h1 h4
    rw [← h1, Option.some.inj h4]
   have hfr := frame_eq (a0 := a0.tmps) L a.tmps a0.tmps hsz (fun p hp => by
    obtain ⟨j, hj, rfl⟩ := hmem p hp
    exact hval j hj) (fun s hs => hnot s fun j hj he => hs (by
     rw [← hL, List.map_fst_zip (by simp [hlen])]
     have ho : ops[j]? = some ops[j] := by simp [hj]
     have hd := (dstOK_lt hdst ho).1
     rw [List.mem_map]
     exact ⟨ops[j], by simp, by rw [hd, he]; rfl⟩))
   have : a = { a0 with tmps := L.foldl (fun t p => t.setIfInBounds p.1 p.2) a0.tmps } := by
    obtain ⟨at_, ad⟩ := a
    simp only at hfr hdf
    rw [hfr, hdf]
   rw [this]
   exact hQ w hx
end
section
open Go.RowKit
def dstO (ops : Array Oper) (j : Nat) : Option Nat := (ops[j]?).bind Oper.dst
def dstOK2 (ops : Array Oper) (n : Nat) : Bool := (ops.toList.filterMap Oper.dst).all (fun s => decide (s < n)) && decide ((ops.toList.filterMap Oper.dst).Nodup)
def edgeB (o : Oper) (j : Nat) : Bool := o.after.toList.any (fun d => Region.binds .any d && d.on == j)
def reachB (ops : Array Oper) : Nat → Oper → Nat → Bool
 | 0, o, c => edgeB o c
 | f + 1, o, c => edgeB o c || o.after.toList.any (fun d => Region.binds .any d && ((ops[d.on]?).map (fun o' => reachB ops f o' c)).getD false)
def chainB (ops : Array Oper) : List Nat → Bool
 | [] => true
 | [c] => decide (c < ops.size)
 | c :: c' :: l => decide (c < ops.size) && ((ops[c']?).map (fun o => reachB ops 6 o c)).getD false && chainB ops (c' :: l)
def valOf (chain : List Nat) (pv us : List Value) (j : Nat) : Value := match chain.idxOf? j with | some i => us.getD i undef | none => pv.getD j undef
theorem chainB_lt {ops : Array Oper} : ∀ {l : List Nat} {p c : Nat}, chainB ops l = true → l[p]? = some c → c < ops.size
 | [], _, _, _, h => by simp at h
 | [x], 0, c, h, hc => by simp [chainB] at h hc; omega
 | [x], p + 1, c, _, hc => by simp at hc
 | x :: y :: l, 0, c, h, hc => by simp [chainB] at h hc; omega
 | x :: y :: l, p + 1, c, h, hc => by
  simp only [chainB, Bool.and_eq_true] at h
  exact chainB_lt (p := p) h.2 (by simpa using hc)
theorem chainB_edge {ops : Array Oper} : ∀ {l : List Nat} {p c c' : Nat}, chainB ops l = true → l[p]? = some c → l[p + 1]? = some c' → ∃ o, ops[c']? = some o ∧ reachB ops 6 o c = true
 | [], _, _, _, _, h, _ => by simp at h
 | [x], p, c, c', _, _, h => by simp at h
 | x :: y :: l, 0, c, c', h, hc, hc' => by
  simp only [chainB, Bool.and_eq_true] at h
  simp at hc hc'
  subst hc hc'
  cases ho : ops[y]? with
  | none => rw [ho] at h; simp at h
  | some o => rw [ho] at h; exact ⟨o, rfl, by simpa using h.1.2⟩
 | x :: y :: l, p + 1, c, c', h, hc, hc' => by
  simp only [chainB, Bool.and_eq_true] at h
  exact chainB_edge (p := p) h.2 (by simpa using hc) (by simpa using hc')
theorem idxOf_some {l : List Nat} (hn : l.Nodup) {p c : Nat} (h : l[p]? = some c) : l.idxOf? c = some p := by
 have hp := (List.getElem?_eq_some_iff.1 h).1
 have hc : l[p] = c := (List.getElem?_eq_some_iff.1 h).2
 subst hc
 rw [List.idxOf?_eq_some_iff]
 exact ⟨hp, rfl, fun j hj he => by
  have := (List.getElem_inj hn).1 he
  omega⟩
theorem idxOf_none {l : List Nat} {c : Nat} (h : c ∉ l) : l.idxOf? c = none := List.idxOf?_eq_none_iff.2 h
theorem dst_inj {ops : Array Oper} {n i j s : Nat} (h : dstOK2 ops n = true) (hi : dstO ops i = some s) (hj : dstO ops j = some s) : i = j := by
 simp only [dstOK2, Bool.and_eq_true, decide_eq_true_eq] at h
 obtain ⟨_, hnd⟩ := h
 have key : ∀ (l : List Oper) (i j : Nat), (l.filterMap Oper.dst).Nodup → (l[i]?).bind Oper.dst = some s → (l[j]?).bind Oper.dst = some s → i = j := by
  intro l
  induction l with
  | nil => intro i j _ h; simp at h
  | cons o l ih =>
   intro i j hn h1 h2
   have mem : ∀ k, (l[k]?).bind Oper.dst = some s → s ∈ l.filterMap Oper.dst := fun k hk => by
    rw [Option.bind_eq_some_iff] at hk
    obtain ⟨o', h3, h4⟩ := hk
    exact List.mem_filterMap.2 ⟨o', List.mem_of_getElem? h3, h4⟩
   cases hd : o.dst with
   | none =>
    have hn' : (l.filterMap Oper.dst).Nodup := by simpa [List.filterMap_cons, hd] using hn
    match i, j with
    | 0, _ => simp [hd] at h1
    | _ + 1, 0 => simp [hd] at h2
    | i + 1, j + 1 => have := ih i j hn' (by simpa using h1) (by simpa using h2); omega
   | some s' =>
    have hn' : s' ∉ l.filterMap Oper.dst ∧ (l.filterMap Oper.dst).Nodup := by
     rw [List.filterMap_cons, hd] at hn
     exact List.nodup_cons.1 hn
    match i, j with
    | 0, 0 => rfl
    | 0, j + 1 =>
     simp [hd] at h1
     subst h1
     exact absurd (mem j (by simpa using h2)) hn'.1
    | i + 1, 0 =>
     simp [hd] at h2
     subst h2
     exact absurd (mem i (by simpa using h1)) hn'.1
    | i + 1, j + 1 => have := ih i j hn'.2 (by simpa using h1) (by simpa using h2); omega
 exact key ops.toList i j hnd (by simpa [dstO] using hi) (by simpa [dstO] using hj)
theorem dst_lt {ops : Array Oper} {n i s : Nat} (h : dstOK2 ops n = true) (hi : dstO ops i = some s) : s < n := by
 simp only [dstOK2, Bool.and_eq_true, List.all_eq_true] at h
 unfold dstO at hi
 rw [Option.bind_eq_some_iff] at hi
 obtain ⟨o, ho, hd⟩ := hi
 have := h.1 s (List.mem_filterMap.2 ⟨o, by simpa using Array.mem_of_getElem? ho, hd⟩)
 simpa using this
theorem edge_of {o : Oper} {j : Nat} (h : edgeB o j = true) : ∃ d ∈ o.after, Region.binds .any d = true ∧ d.on = j := edge h
theorem reach_done {ops : Array Oper} {l : Array Bool} (hcl : ∀ j o, l.getD j false = true → ops[j]? = some o → ∀ d ∈ o.after, Region.binds .any d = true → l.getD d.on false = true) {c : Nat} :
 ∀ (f : Nat) (o : Oper), (∀ d ∈ o.after, Region.binds .any d = true → l.getD d.on false = true) → reachB ops f o c = true → l.getD c false = true
 | 0, o, hall, h => by
  obtain ⟨d, hd1, hd2, hd3⟩ := edge_of (show edgeB o c = true from h)
  rw [← hd3]; exact hall d hd1 hd2
 | f + 1, o, hall, h => by
  unfold reachB at h
  rcases Bool.or_eq_true_iff.1 h with h | h
  · obtain ⟨d, hd1, hd2, hd3⟩ := edge_of h
    rw [← hd3]; exact hall d hd1 hd2
  · obtain ⟨d, hd1, hd2⟩ := List.any_eq_true.1 h
    rw [Bool.and_eq_true] at hd2
    have hdm : d ∈ o.after := by simpa using hd1
    have hdone := hall d hdm hd2.1
    cases ho' : ops[d.on]? with
    | none => rw [ho'] at hd2; simp at hd2
    | some o' =>
     rw [ho'] at hd2
     exact reach_done hcl f o' (hcl _ _ hdone ho') (by simpa using hd2.2)
theorem chain_done {ops : Array Oper} {l : Array Bool} {chain : List Nat} {q c c' : Nat} {o : Oper} (hcl : ∀ j o, l.getD j false = true → ops[j]? = some o → ∀ d ∈ o.after, Region.binds .any d = true → l.getD d.on false = true)
 (hall : ∀ d ∈ o.after, Region.binds .any d = true → l.getD d.on false = true) (hch : chainB ops chain = true) (hq : chain[q]? = some c) (hp : chain[q + 1]? = some c') (ho : ops[c']? = some o) : l.getD c false = true := by
 obtain ⟨o', ho', he⟩ := chainB_edge hch hq hp
 rw [ho] at ho'
 cases ho'
 exact reach_done hcl 6 o hall he
def ChInv (ops : Array Oper) (chain : List Nat) (pv : List Value) (a0 : Act) (J : List Value → World → Prop) (l : Array Bool) (a : Act) (w : World) : Prop :=
 l.size = ops.size ∧ a.defers = a0.defers ∧ a.tmps.size = a0.tmps.size ∧ (∀ s, (∀ j, dstO ops j = some s → l.getD j false = false) → a.tmps[s]? = a0.tmps[s]?) ∧
 (∀ j o, l.getD j false = true → ops[j]? = some o → ∀ d ∈ o.after, Region.binds .any d = true → l.getD d.on false = true) ∧
 ∃ us : List Value, us.length ≤ chain.length ∧ (∀ i c, chain[i]? = some c → (l.getD c false = true ↔ i < us.length)) ∧ (∀ j s, l.getD j false = true → dstO ops j = some s → a.tmps[s]? = some (valOf chain pv us j)) ∧ J us w
structure Finds (ops : Array Oper) (chain : List Nat) (pv us : List Value) (a0 a : Act) (o : Oper) : Prop where
 old : ∀ s : Nat, ops.toList.all (fun o => o.dst != some s) = true → a.eval (.tmp s) = a0.eval (.tmp s)
 pure : ∀ (j s : Nat) (v : Value), edgeB o j = true → dstO ops j = some s → chain.contains j = false → pv[j]? = some v → a.tmps[s]? = some v
 link : ∀ (p j s : Nat) (v : Value), chain[p]? = some j → edgeB o j = true → dstO ops j = some s → us[p]? = some v → a.tmps[s]? = some v
 did : ∀ (p j : Nat), chain[p]? = some j → edgeB o j = true → p < us.length
 olds : ∀ (p j s : Nat), chain[p]? = some j → dstO ops j = some s → us.length ≤ p → a.tmps[s]? = a0.tmps[s]?
def frameL (ops : Array Oper) (chain : List Nat) (pv us : List Value) : List (Nat × Value) := (List.range ops.size).filterMap fun j => (dstO ops j).map fun s => (s, valOf chain pv us j)
theorem wp_region_chain {P : Program} {ops : Array Oper} {Q : Exit → Act → World → Prop} {id : Nat} {a0 : Act} {W : World} (chain : List Nat) (pv : List Value) (J : List Value → World → Prop) (hm : P.follows .mixedOrders = true) (hdst : dstOK2 ops a0.tmps.size = true) (hord : ordB 0 ops.toList = true)
 (hch : chainB ops chain = true) (hnd : chain.Nodup) (h0 : J [] W.drew)
 (hpure : ∀ (i : Nat) (o : Oper), ops[i]? = some o → chain.contains i = false → ∀ (a : Act) (w : World) (us : List Value) (K : Act → World → Prop), J us w → Finds ops chain pv us a0 a o → (∀ p c oc, chain[p]? = some c → ops[c]? = some oc → edgeB oc i = true → us.length ≤ p) → K (a.put o.dst (pv.getD i undef)) w →
  if Region.wanted o (yielded ops a.tmps) = true then Oper.wp P o a w K Q else K (a.put o.dst undef) w)
 (hlink : ∀ (p c : Nat) (o : Oper), chain[p]? = some c → ops[c]? = some o → ∀ (a : Act) (w : World) (us : List Value) (K : Act → World → Prop), us.length = p → J us w → Finds ops chain pv us a0 a o → (∀ v w', J (us ++ [v]) w' → K (a.put o.dst v) w') →
  if Region.wanted o (yielded ops a.tmps) = true then Oper.wp P o a w K Q else K (a.put o.dst undef) w)
 (hQ : ∀ us w, us.length = chain.length → J us w → Q .normal { a0 with tmps := (frameL ops chain pv us).foldl (fun t p => t.setIfInBounds p.1 p.2) a0.tmps } w) :
 (Code.region id ops true).wp P Q a0 W := by
 refine wp_region_any hm ?_
 refine wpAny_inv (ChInv ops chain pv a0 J) (fun l a w h => h.1) ?_ (hordB hord) ?_ _ _ _ _ (by simp) ?_
 · intro l a w hI i o ho hl hall K hK
   obtain ⟨hs, hdf, hsz, hnot, hcl, us, hul, hcu, hval, hJ⟩ := hI
   have hi : i < ops.size := (Array.getElem?_eq_some_iff.1 ho).1
   have hnl := not_listed hl
   have hself : (l.setIfInBounds i true).getD i false = true := getD_set_self (by omega)
   have hfind : Finds ops chain pv us a0 a o := by
    refine ⟨fun s hsn => ?_, fun j s v he hd hc hv => ?_, fun p j s v hp he hd hv => ?_, fun p j hp he => by obtain ⟨d, hd1, hd2, rfl⟩ := edge_of he; exact (hcu p _ hp).1 (hall d hd1 hd2), fun p j s hp hj hl0 => hnot s fun j' hj' => by
     have e : j' = j := dst_inj hdst hj' hj
     subst e
     cases hx : l.getD j' false
     · rfl
     · exact absurd ((hcu p _ hp).1 hx) (by omega)⟩
    · have := hnot s (fun j hj => by
       unfold dstO at hj
       rw [Option.bind_eq_some_iff] at hj
       obtain ⟨o', h1, h2⟩ := hj
       have h3 := List.all_eq_true.1 hsn o' (by simpa using Array.mem_of_getElem? h1)
       rw [h2] at h3
       simp at h3)
      simp [Act.eval, this]
    · obtain ⟨d, hd1, hd2, rfl⟩ := edge_of he
      rw [hval _ s (hall d hd1 hd2) hd]
      have : chain.idxOf? d.on = none := idxOf_none (by simpa using hc)
      simp only [valOf, this]
      simp [hv]
    · obtain ⟨d, hd1, hd2, rfl⟩ := edge_of he
      rw [hval _ s (hall d hd1 hd2) hd]
      have : chain.idxOf? d.on = some p := idxOf_some hnd hp
      simp only [valOf, this]
      simp [hv]
   have hclosed : ∀ j o', (l.setIfInBounds i true).getD j false = true → ops[j]? = some o' → ∀ d ∈ o'.after, Region.binds .any d = true → (l.setIfInBounds i true).getD d.on false = true := by
    intro j o' hj ho' d hd hb
    have mono : ∀ k, l.getD k false = true → (l.setIfInBounds i true).getD k false = true := fun k hk => by
     by_cases hik : i = k
     · subst hik; exact hself
     · rw [getD_set_other hik]; exact hk
    by_cases hij : i = j
    · subst hij
      rw [ho] at ho'
      cases ho'
      exact mono _ (hall d hd hb)
    · rw [getD_set_other hij] at hj
      exact mono _ (hcl j o' hj ho' d hd hb)
   have hput : ∀ v s, (∀ j, dstO ops j = some s → (l.setIfInBounds i true).getD j false = false) → (a.put o.dst v).tmps[s]? = a0.tmps[s]? := fun v s hsn => by
    have hsn' : ∀ j, dstO ops j = some s → l.getD j false = false := fun j hj => by
     have h1 := hsn j hj
     by_cases hij : i = j
     · subst hij; rw [hself] at h1; cases h1
     · rwa [getD_set_other hij] at h1
    cases hd : o.dst with
    | none => simp only [Act.put]; exact hnot s hsn'
    | some t =>
     have : dstO ops i = some t := by unfold dstO; rw [ho]; exact hd
     have hts : t ≠ s := fun e => by
      have h1 := hsn i (by rw [this, e])
      rw [hself] at h1; cases h1
     simp only [Act.put]
     rw [Array.getElem?_setIfInBounds_ne hts]
     exact hnot s hsn'
   have hputd : ∀ v, (a.put o.dst v).defers = a0.defers ∧ (a.put o.dst v).tmps.size = a0.tmps.size := fun v => by
    cases hd : o.dst with
    | none => exact ⟨hdf, hsz⟩
    | some t => exact ⟨hdf, by simpa [Act.put] using hsz⟩
   have hputv : ∀ us' v, valOf chain pv us' i = v → (∀ j, l.getD j false = true → valOf chain pv us' j = valOf chain pv us j) → ∀ j s, (l.setIfInBounds i true).getD j false = true → dstO ops j = some s → (a.put o.dst v).tmps[s]? = some (valOf chain pv us' j) := by
    intro us' v hv hsame j s hj hd
    by_cases hij : i = j
    · subst hij
      have hod : o.dst = some s := by unfold dstO at hd; rw [ho] at hd; exact hd
      rw [hod, hv]
      have := dst_lt hdst hd
      simp [Act.put, hsz, this]
    · rw [getD_set_other hij] at hj
      rw [hsame j hj]
      cases hod : o.dst with
      | none => simp only [Act.put]; exact hval j s hj hd
      | some t =>
       have h1 : dstO ops i = some t := by unfold dstO; rw [ho]; exact hod
       have hts : t ≠ s := fun e => hij (dst_inj hdst h1 (by rw [hd, e]))
       simp only [Act.put]
       rw [Array.getElem?_setIfInBounds_ne hts]
       exact hval j s hj hd
   by_cases hc : i ∈ chain
   · obtain ⟨p, hp⟩ := List.getElem?_of_mem hc
     have hle : us.length ≤ p := by
      rcases Nat.lt_or_ge p us.length with h | h
      · have := (hcu p i hp).2 h
        rw [hnl] at this
        cases this
      · exact h
     have hge : p ≤ us.length := by
      cases p with
      | zero => omega
      | succ q =>
       have hpl := (List.getElem?_eq_some_iff.1 hp).1
       have hq : chain[q]? = some chain[q] := List.getElem?_eq_getElem (by omega)
       have := (hcu q _ hq).1 (chain_done hcl hall hch hq hp ho)
       omega
     have hpl := (List.getElem?_eq_some_iff.1 hp).1
     refine hlink p i o hp ho a w us K (by omega) hJ hfind (fun v w' hJ' => ?_)
     apply hK
     have hlen : (us ++ [v]).length = us.length + 1 := by simp
     refine ⟨by simpa using hs, (hputd v).1, (hputd v).2, hput v, hclosed, us ++ [v], by rw [hlen]; omega, fun q c hq => ?_, hputv _ v ?_ ?_, hJ'⟩
     · rw [hlen]
       by_cases hic : i = c
       · subst hic
         have : q = p := by
          have h1 := idxOf_some hnd hq
          have h2 := idxOf_some hnd hp
          rw [h1] at h2
          exact Option.some.inj h2
         rw [hself]
         simp
         omega
       · rw [getD_set_other hic, hcu q c hq]
         have : q ≠ p := fun e => hic (by rw [e, hp] at hq; exact Option.some.inj hq)
         omega
     · simp only [valOf, idxOf_some hnd hp]
       rw [List.getD_eq_getElem?_getD, List.getElem?_append_right (by omega)]
       have : p - us.length = 0 := by omega
       simp [this]
     · intro j hj
       unfold valOf
       cases hx : chain.idxOf? j with
       | none => rfl
       | some q =>
        have hq : chain[q]? = some j := by
         obtain ⟨h1, h2, _⟩ := List.idxOf?_eq_some_iff.1 hx
         rw [List.getElem?_eq_getElem h1, h2]
        have := (hcu q j hq).1 hj
        simp only [List.getD_eq_getElem?_getD]
        rw [List.getElem?_append_left this]
   · refine hpure i o ho (by simpa using hc) a w us K hJ hfind (fun p c oc hp hoc he => ?_) ?_
     · rcases Nat.lt_or_ge p us.length with h | h
       · obtain ⟨d, hd1, hd2, hd3⟩ := edge_of he
         have := hcl c oc ((hcu p c hp).2 h) hoc d hd1 hd2
         rw [hd3, hnl] at this
         cases this
       · exact h
     · apply hK
       refine ⟨by simpa using hs, (hputd _).1, (hputd _).2, hput _, hclosed, us, hul, fun q c hq => ?_, hputv us _ ?_ (fun _ _ => rfl), hJ⟩
       · have : i ≠ c := fun e => hc (by rw [e]; exact List.mem_of_getElem? hq)
         rw [getD_set_other this]
         exact hcu q c hq
       · simp only [valOf, idxOf_none hc]
 · rintro l a w ⟨hs, hdf, hsz, hnot, hcl, us, hul, hcu, hval, hJ⟩ hall
   have hlen : us.length = chain.length := by
    rcases Nat.lt_or_ge us.length chain.length with h | h
    · have hq : chain[us.length]? = some chain[us.length] := List.getElem?_eq_getElem h
      have := (hcu _ _ hq).1 (hall _ (chainB_lt hch hq))
      omega
    · omega
   have hfr := frame_eq (a0 := a0.tmps) (frameL ops chain pv us) a.tmps a0.tmps hsz (fun p hp => by
    obtain ⟨j, hj, hv⟩ := List.mem_filterMap.1 hp
    rw [Option.map_eq_some_iff] at hv
    obtain ⟨s, hd, rfl⟩ := hv
    exact hval j s (hall j (by simpa using hj)) hd) (fun s hsn => hnot s fun j hj => absurd (by
     have hjl : j < ops.size := by
      unfold dstO at hj
      rw [Option.bind_eq_some_iff] at hj
      obtain ⟨o', h1, _⟩ := hj
      exact (Array.getElem?_eq_some_iff.1 h1).1
     rw [List.mem_map]
     exact ⟨(s, valOf chain pv us j), List.mem_filterMap.2 ⟨j, by simpa using hjl, by rw [hj]; rfl⟩, rfl⟩) hsn)
   have : a = { a0 with tmps := (frameL ops chain pv us).foldl (fun t p => t.setIfInBounds p.1 p.2) a0.tmps } := by
    obtain ⟨at_, ad⟩ := a
    simp only at hfr hdf
    rw [hfr, hdf]
   rw [this]
   exact hQ us w hlen hJ
 · refine ⟨by simp, rfl, rfl, fun _ _ => rfl, fun j o h => ?_, [], by simp, fun i c hc => ?_, fun j s h => ?_, h0⟩
   · simp [Array.getElem?_replicate] at h
     split at h <;> simp at h
   · have : (Array.replicate ops.size false).getD c false = false := by
      simp [Array.getElem?_replicate]
      split <;> rfl
     rw [this]
     simp
   · simp [Array.getElem?_replicate] at h
     split at h <;> simp at h
theorem wp_loadBk {P : Program} {op : Oper} {a : Act} {w : World} {K : Act → World → Prop} {Q : Exit → Act → World → Prop} (ty : TypeId) (x : Operand) (ho : op.op = .load ty x) (g : Nat) (t : TypeId) (cs : Array Value) (d : TypeDesc) (hx : a.eval x = .pointer (some ⟨g, 0, none⟩))
 (hB : Blk w g t cs) (hu : P.underlying ty = some d) (hd : d.isRow = true) (hi : (P.info? ty).map (·.size) = some cs.size) (h : K (a.put op.dst (.agg cs)) w) : op.wp P a w K Q := by
 refine wp_load_mid ty x ho g 0 hx cs.toList d (fun j v hv => ?_) hu hd (by simpa using hi) (by simpa using h)
 rw [hB.cell]
 simpa using hv
def depsOf (o : Oper) : List Nat := (o.after.toList.filter (fun d => Region.binds .any d)).map (·.on)
theorem edge_deps {o : Oper} {j : Nat} (h : (depsOf o).contains j = true) : edgeB o j = true := by
 have h' : j ∈ depsOf o := by simpa using h
 obtain ⟨d, hd, rfl⟩ := List.mem_map.1 h'
 rw [List.mem_filter] at hd
 exact List.any_eq_true.2 ⟨d, hd.1, by simp [hd.2]⟩
structure Sees (slots : List (Option Nat)) (deps : List (List Nat)) (chain : List Nat) (pv us : List Value) (a0 a : Act) (i : Nat) : Prop where
 old : ∀ (s : Nat) (v : Value), slots.contains (some s) = false → a0.eval (.tmp s) = v → a.eval (.tmp s) = v
 pure : ∀ (j s : Nat) (v : Value), (deps.getD i []).contains j = true → slots[j]? = some (some s) → chain.contains j = false → pv[j]? = some v → a.eval (.tmp s) = v
 link : ∀ (p j s : Nat) (v : Value), chain[p]? = some j → (deps.getD i []).contains j = true → slots[j]? = some (some s) → us[p]? = some v → a.eval (.tmp s) = v
 did : ∀ (p j : Nat), chain[p]? = some j → (deps.getD i []).contains j = true → p < us.length
 olds : ∀ (p j s : Nat) (v : Value), chain[p]? = some j → slots[j]? = some (some s) → us.length ≤ p → a0.eval (.tmp s) = v → a.eval (.tmp s) = v
theorem Finds.sees {ops : Array Oper} {chain : List Nat} {pv us : List Value} {a0 a : Act} {o : Oper} {slots : List (Option Nat)} {deps : List (List Nat)} {i : Nat} (hs : ops.toList.map (·.dst) = slots) (hd : ops.toList.map depsOf = deps) (ho : ops[i]? = some o) (h : Finds ops chain pv us a0 a o) : Sees slots deps chain pv us a0 a i := by
 have hdo : deps.getD i [] = depsOf o := by
  rw [← hd, List.getD_eq_getElem?_getD, List.getElem?_map]
  have : ops.toList[i]? = some o := by simpa using ho
  rw [this]; rfl
 have hsl : ∀ j s, slots[j]? = some (some s) → dstO ops j = some s := fun j s h => by
  rw [← hs, List.getElem?_map, Option.map_eq_some_iff] at h
  obtain ⟨o', h1, h2⟩ := h
  have h1' : ops[j]? = some o' := by simpa using h1
  simp [dstO, h1', h2]
 refine ⟨fun s v hc hv => (h.old s ?_).trans hv, fun j s v he hj hc hv => eval_of (h.pure j s v (edge_deps (by rw [← hdo]; exact he)) (hsl j s hj) hc hv), fun p j s v hp he hj hv => eval_of (h.link p j s v hp (edge_deps (by rw [← hdo]; exact he)) (hsl j s hj) hv), fun p j hp he => h.did p j hp (edge_deps (by rw [← hdo]; exact he)), fun p j s v hp hj hl0 hv => by rw [← hv]; simp [Act.eval, h.olds p j s hp (hsl j s hj) hl0]⟩
 have hn : some s ∉ ops.toList.map (·.dst) := by rw [hs]; simpa using hc
 refine List.all_eq_true.2 fun o' ho' => ?_
 have : o'.dst ≠ some s := fun e => hn (List.mem_map.2 ⟨o', ho', e⟩)
 simp [this]
theorem wp_region_links {P : Program} {ops : Array Oper} {Q : Exit → Act → World → Prop} {id : Nat} {a0 : Act} {W : World} (slots : List (Option Nat)) (deps : List (List Nat)) (chain : List Nat) (pv : List Value) (J : List Value → World → Prop) (hm : P.follows .mixedOrders = true) (hdst : dstOK2 ops a0.tmps.size = true) (hord : ordB 0 ops.toList = true)
 (hs : ops.toList.map (·.dst) = slots) (hd : ops.toList.map depsOf = deps) (hg : ops.toList.all (fun o => o.guard.isNone) = true) (hch : chainB ops chain = true) (hnd : chain.Nodup) (h0 : J [] W.drew)
 (hpure : ∀ (i : Nat) (o : Oper), ops[i]? = some o → chain.contains i = false → ∀ (a : Act) (w : World) (us : List Value) (K : Act → World → Prop), J us w → Sees slots deps chain pv us a0 a i → (∀ p c, chain[p]? = some c → (deps.getD c []).contains i = true → us.length ≤ p) → K (a.put o.dst (pv.getD i undef)) w → Oper.wp P o a w K Q)
 (hlink : ∀ (p c : Nat) (o : Oper), chain[p]? = some c → ops[c]? = some o → ∀ (a : Act) (w : World) (us : List Value) (K : Act → World → Prop), us.length = p → J us w → Sees slots deps chain pv us a0 a c → (∀ v w', J (us ++ [v]) w' → K (a.put o.dst v) w') → Oper.wp P o a w K Q)
 (hQ : ∀ us w, us.length = chain.length → J us w → Q .normal { a0 with tmps := (frameL ops chain pv us).foldl (fun t p => t.setIfInBounds p.1 p.2) a0.tmps } w) :
 (Code.region id ops true).wp P Q a0 W := by
 have hgd : ∀ (i : Nat) (o : Oper), ops[i]? = some o → o.guard = none := fun i o ho => by
  have := List.all_eq_true.1 hg o (by simpa using Array.mem_of_getElem? ho)
  simpa using this
 refine wp_region_chain chain pv J hm hdst hord hch hnd h0 (fun i o ho hc a w us K hJ hF hl hk => ?_) (fun p c o hp ho a w us K hl hJ hF hk => ?_) hQ
 · refine want_none (hgd i o ho) (hpure i o ho hc a w us K hJ (hF.sees hs hd ho) (fun p c hp he => ?_) hk)
   have hcl := chainB_lt hch hp
   have hoc : ops[c]? = some ops[c] := by simp [hcl]
   refine hl p c _ hp hoc (edge_deps ?_)
   have : deps.getD c [] = depsOf ops[c] := by
    rw [← hd, List.getD_eq_getElem?_getD, List.getElem?_map]
    have : ops.toList[c]? = some ops[c] := by simp [hcl]
    rw [this]; rfl
   rw [← this]
   exact he
 · exact want_none (hgd c o ho) (hlink p c o hp ho a w us K hl hJ (hF.sees hs hd ho) hk)
end
section
open Go.RowKit
theorem wrap_i64 {a : Int} (h1 : -9223372036854775808 ≤ a) (h2 : a ≤ 9223372036854775807) : IntKind.i64.wrap a = a := by
 simp [IntKind.wrap, IntKind.bits, IntKind.signed]
 omega
section
variable {P : Program} {o : Oper} {a : Act} {w : World} {K : Act → World → Prop} {Q : Exit → Act → World → Prop}
theorem wp_call1s {f : FuncId} {x : Operand} {ts : Array TypeId} {v : Value} (ho : o.op = .call { callee := .value (.func f), args := #[x], argTypes := ts }) (hx : a.eval x = v)
 (hent : ∀ args w, (callFunc f args).run P w = .ok (.enter f args) w) {r : Value} (hc : Calls P f #[v] w fun en w' => en = .returned r ∧ Ext w w') (h : ∀ w', Ext w w' → K (a.put o.dst r) w') : o.wp P a w K Q :=
 wp_call1 ho hx hent hc fun _ w' hr => ⟨r, hr.1, h w' hr.2⟩
theorem wp_bin {op : BinOp} {x y : Operand} {ty ty' : TypeId} {u v r : Value} (ho : o.op = .binOp op ty x y ty') (hx : a.eval x = u) (hy : a.eval y = v) (hr : (do eqGuard op ty x y u v; binOp op ty u v : Sem Value).run P w = .ok r w) (h : K (a.put o.dst r) w) : o.wp P a w K Q := by
 unfold Oper.wp execOp
 simp only [ho, hx, hy]
 simp only [Sem.run_bind] at hr ⊢
 rw [hr]
 exact h
theorem wp_un {op : UnOp} {x : Operand} {ty : TypeId} {u r : Value} (ho : o.op = .unOp op ty x) (hx : a.eval x = u) (hr : (Op.unary op u).run P w = .ok r w) (h : K (a.put o.dst r) w) : o.wp P a w K Q := by
 unfold Oper.wp execOp
 simp only [ho, hx, Sem.run_bind]
 rw [hr]
 exact h
end
end
end Go.Proofs.YtablhmobekmflaaGreatDoor