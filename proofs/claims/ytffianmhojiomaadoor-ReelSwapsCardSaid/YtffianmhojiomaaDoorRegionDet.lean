/- A region that draws its order and whose operations read, reckon and call, each with one value whatever came ahead of it: one walk. -/
import Derived.Test.YtffianmhojiomaaDoorRInv
namespace Go.Proofs.YtffianmhojiomaaDoor
set_option linter.unusedVariables false
set_option linter.unusedSimpArgs false
open Go.RowKit

/-- the slot that operation j writes -/
def dstAt (ops : Array Oper) (j : Nat) : Nat := ((ops[j]?).bind (·.dst)).getD 0
/-- each operation writes a slot of its own, in the frame -/
def dstOK (ops : Array Oper) (n : Nat) : Bool := ops.toList.all (fun o => (o.dst.map (fun s => decide (s < n))).getD false) && decide ((ops.toList.map (fun o => o.dst.getD 0)).Nodup)

def DetInv (ops : Array Oper) (a0 : Act) (W : World) (vals : Nat → Value) (l : Array Bool) (a : Act) (w : World) : Prop :=
  l.size = ops.size ∧ Ext W w ∧ a.defers = a0.defers ∧ a.tmps.size = a0.tmps.size ∧ (∀ s, (∀ j, j < ops.size → dstAt ops j ≠ s) → a.tmps[s]? = a0.tmps[s]?) ∧
    (∀ j, j < ops.size → l.getD j false = true → a.tmps[dstAt ops j]? = some (vals j))

theorem dstOK_lt {ops : Array Oper} {n j : Nat} {o : Oper} (h : dstOK ops n = true) (ho : ops[j]? = some o) : o.dst = some (dstAt ops j) ∧ dstAt ops j < n := by
  simp only [dstOK, Bool.and_eq_true, List.all_eq_true] at h
  have hm : o ∈ ops.toList := by simpa using Array.mem_of_getElem? ho
  have := h.1 o hm
  unfold dstAt
  rw [ho]
  cases hd : o.dst with
  | none => rw [hd] at this; simp at this
  | some s => rw [hd] at this; simp at this; simp [hd, this]
theorem dstOK_inj {ops : Array Oper} {n i j : Nat} (h : dstOK ops n = true) (hi : i < ops.size) (hj : j < ops.size) (he : dstAt ops i = dstAt ops j) : i = j := by
  simp only [dstOK, Bool.and_eq_true, decide_eq_true_eq] at h
  have hn := h.2
  have key : ∀ k (hk : k < ops.size), (ops.toList.map (fun o => o.dst.getD 0))[k]? = some (dstAt ops k) := fun k hk => by
    have ho : ops[k]? = some ops[k] := by simp [hk]
    have := (dstOK_lt (by simp only [dstOK, Bool.and_eq_true, decide_eq_true_eq]; exact h) ho).1
    rw [List.getElem?_map]
    simp [hk, this]
  have hl : (ops.toList.map (fun o => o.dst.getD 0)).length = ops.size := by simp
  refine (List.getElem?_inj (by rw [hl]; exact hi) hn).1 ?_
  rw [key i hi, key j hj, he]

theorem wp_region_det {P : Program} {ops : Array Oper} {Q : Exit → Act → World → Prop} {id : Nat} {a0 : Act} {W : World} (vals : Nat → Value) (hm : P.follows .mixedOrders = true) (hdst : dstOK ops a0.tmps.size = true) (hord : ordB 0 ops.toList = true)
    (hstep : ∀ i o, ops[i]? = some o → ∀ (a : Act) (w : World) (K : Act → World → Prop), Ext W w → (∀ s, (∀ j, j < ops.size → dstAt ops j ≠ s) → a.tmps.getD s undef = a0.tmps.getD s undef) →
      (∀ j, (∃ d ∈ o.after, Region.binds .any d = true ∧ d.on = j) → j < ops.size → a.tmps[dstAt ops j]? = some (vals j)) → (∀ w', Ext w w' → K (a.put o.dst (vals i)) w') →
      if Region.wanted o (yielded ops a.tmps) = true then Oper.wp P o a w K Q else K (a.put o.dst undef) w)
    (hQ : ∀ a w, Ext W w → a.defers = a0.defers → a.tmps.size = a0.tmps.size → (∀ s, (∀ j, j < ops.size → dstAt ops j ≠ s) → a.tmps[s]? = a0.tmps[s]?) → (∀ j, j < ops.size → a.tmps[dstAt ops j]? = some (vals j)) → Q .normal a w) :
    (Code.region id ops true).wp P Q a0 W := by
  refine wp_region_any hm ?_
  refine wpAny_inv (DetInv ops a0 W vals) (fun l a w h => h.1) ?_ (hordB hord) ?_ _ _ _ _ (by simp) ?_
  · intro l a w hI i o ho hl hall K hK
    obtain ⟨hs, hx, hdf, hsz, hnot, hval⟩ := hI
    have hi : i < ops.size := (Array.getElem?_eq_some_iff.1 ho).1
    refine hstep i o ho a w K hx (fun s hsn => ?_) (fun j hj hjl => ?_) (fun w' hx' => ?_)
    · have := hnot s hsn
      simp [this]
    · obtain ⟨d, hd, hb, rfl⟩ := hj
      exact hval _ hjl (hall d hd hb)
    · apply hK
      obtain ⟨hd1, hd2⟩ := dstOK_lt hdst ho
      rw [hd1]
      refine ⟨by simpa using hs, hx.trans hx', hdf, by simpa [Act.put] using hsz, fun s hsn => ?_, fun j hj hjl => ?_⟩
      · simp only [Act.put]
        rw [Array.getElem?_setIfInBounds_ne (hsn i hi)]
        exact hnot s hsn
      · simp only [Act.put]
        by_cases hij : i = j
        · subst hij
          simp [hsz, hd2]
        · rw [Array.getElem?_setIfInBounds_ne (fun h => hij (dstOK_inj hdst hi hj h))]
          rw [getD_set_other hij] at hjl
          exact hval j hj hjl
  · rintro l a w ⟨hs, hx, hdf, hsz, hnot, hval⟩ hall
    exact hQ a w hx hdf hsz hnot (fun j hj => hval j hj (hall j hj))
  · exact ⟨by simp, (Ext.refl W).drew, rfl, rfl, fun _ _ => rfl, fun j hj h => by simp [Array.getElem?_replicate, hj] at h⟩

theorem eval_of {a : Act} {s : Nat} {v : Value} (h : a.tmps[s]? = some v) : a.eval (.tmp s) = v := by simp [Act.eval, h]
theorem want_of {ops : Array Oper} {o : Oper} {a : Act} {k s : Nat} {b b' : Bool} (hg : o.guard = some (k, b)) (hk : (ops[k]?).bind (·.dst) = some s) (hv : a.tmps[s]? = some (.bool b')) : Region.wanted o (yielded ops a.tmps) = (b' == b) := by
  unfold Region.wanted yielded
  rw [hg]
  simp only [hk, Option.bind_some, hv]
  cases b <;> cases b' <;> rfl
theorem want_none {o : Oper} {y : Nat → Option Bool} {A B : Prop} (hg : o.guard = none) (h : A) : if Region.wanted o y = true then A else B := by
  rw [if_pos (by simp [Region.wanted, hg])]; exact h
theorem want_yes {ops : Array Oper} {o : Oper} {a : Act} {k s : Nat} {b b' : Bool} {A B : Prop} (hg : o.guard = some (k, b)) (hk : (ops[k]?).bind (·.dst) = some s) (hv : a.tmps[s]? = some (.bool b')) (he : (b' == b) = true) (h : A) : if Region.wanted o (yielded ops a.tmps) = true then A else B := by
  rw [if_pos (by rw [want_of hg hk hv]; exact he)]; exact h
theorem want_no {ops : Array Oper} {o : Oper} {a : Act} {k s : Nat} {b b' : Bool} {A B : Prop} (hg : o.guard = some (k, b)) (hk : (ops[k]?).bind (·.dst) = some s) (hv : a.tmps[s]? = some (.bool b')) (he : (b' == b) = false) (h : B) : if Region.wanted o (yielded ops a.tmps) = true then A else B := by
  rw [if_neg (by rw [want_of hg hk hv, he]; simp)]; exact h
section
variable {P : Program} {o : Oper} {a : Act} {w : World} {K : Act → World → Prop} {Q : Exit → Act → World → Prop}
theorem wp_move (x : Operand) (v : Value) (ho : o.op = .move x) (hx : a.eval x = v) (h : K (a.put o.dst v) w) : o.wp P a w K Q := by
  unfold Oper.wp execOp
  simp [ho, hx, Sem.run_pure]
  exact h
theorem wp_assignx (x : Operand) (v : Value) (ho : o.op = .assign x) (hx : a.eval x = v) (h : K (a.put o.dst v) w) : o.wp P a w K Q := by
  unfold Oper.wp execOp
  simp [ho, hx, Sem.run_pure]
  exact h
theorem wp_pick (c x y : Operand) (b : Bool) (v : Value) (ho : o.op = .pick c x y) (hc : a.eval c = .bool b) (hx : (if b then a.eval x else a.eval y) = v) (h : K (a.put o.dst v) w) : o.wp P a w K Q := by
  unfold Oper.wp execOp
  simp [ho, hc, asBool, Sem.run_pure, Sem.run_bind]
  rw [hx]
  exact h
theorem wp_call2 {f : FuncId} {x y : Operand} {ts : Array TypeId} {v u : Value} (ho : o.op = .call { callee := .value (.func f), args := #[x, y], argTypes := ts }) (hx : a.eval x = v) (hy : a.eval y = u)
    (hent : ∀ args w, (callFunc f args).run P w = .ok (.enter f args) w) {r : Value} (hc : Calls P f #[v, u] w fun en w' => en = .returned r ∧ Ext w w') (h : ∀ w', Ext w w' → K (a.put o.dst r) w') : o.wp P a w K Q := by
  have h2 : Calls P f #[v, u] w (fun
      | .returned u, w'' => K (a.put o.dst u) w''
      | .panicked chain, w'' => Q (.panic chain) a w''
      | .outgrown, _ => LetsOut Q) := hc.mono fun en w' hr => by
    obtain ⟨rfl, hk⟩ := hr
    exact h w' hk
  unfold Oper.wp execOp
  simp only [ho]
  have hev : a.eval (.func f) = .func (.func f) #[] #[] := rfl
  simp [resolve, invoke, hev, hx, hy, hent, Sem.run_bind, Deferred.ofValue]
  exact h2
theorem wp_neqB {x y : Operand} {ty ty' : TypeId} {b b' : Bool} (ho : o.op = .binOp .neq ty x y ty') (hx : a.eval x = .bool b) (hy : a.eval y = .bool b') (hr : (do eqGuard .neq ty x y (.bool b) (.bool b'); binOp .neq ty (.bool b) (.bool b') : Sem Value).run P w = .ok (.bool (b != b')) w) (h : K (a.put o.dst (.bool (b != b'))) w) : o.wp P a w K Q := by
  unfold Oper.wp execOp
  simp only [ho, hx, hy]
  simp only [Sem.run_bind] at hr ⊢
  rw [hr]
  exact h
end

/-- the frame behind such a region, written out -/
theorem frame_eq {a0 : Array Value} : ∀ (L : List (Nat × Value)) (a a0 : Array Value), a.size = a0.size → (∀ p ∈ L, a[p.1]? = some p.2) → (∀ s, s ∉ L.map (·.1) → a[s]? = a0[s]?) → a = L.foldl (fun t p => t.setIfInBounds p.1 p.2) a0
  | [], a, a0, _, _, hn => Array.ext_getElem? fun i => hn i (by simp)
  | p :: L, a, a0, hz, hv, hn => by
    rw [List.foldl_cons]
    refine frame_eq (a0 := a0) L a _ (by simpa using hz) (fun q hq => hv q (List.mem_cons_of_mem _ hq)) (fun s hs => ?_)
    have hp := hv p (List.mem_cons_self ..)
    by_cases he : p.1 = s
    · subst he
      have hlt : p.1 < a0.size := by rw [← hz]; exact (Array.getElem?_eq_some_iff.1 hp).1
      rw [hp]
      simp [hlt]
    · rw [Array.getElem?_setIfInBounds_ne he]
      exact hn s (by simp only [List.map_cons, List.mem_cons, not_or]; exact ⟨fun h => he h.symm, hs⟩)

theorem dstAt_of {ops : Array Oper} {j s : Nat} (h : (ops[j]?).bind (·.dst) = some s) : dstAt ops j = s ∧ j < ops.size := by
  unfold dstAt
  rw [h]
  refine ⟨rfl, ?_⟩
  cases ho : ops[j]? with
  | none => rw [ho] at h; cases h
  | some o => exact (Array.getElem?_eq_some_iff.1 ho).1

/-- the same, its conditions as the walks of single operations ask them; the frame behind it is written out -/
theorem wp_region_vals {P : Program} {ops : Array Oper} {Q : Exit → Act → World → Prop} {id : Nat} {a0 : Act} {W : World} (vals : List Value) (L : List (Nat × Value)) (hm : P.follows .mixedOrders = true) (hdst : dstOK ops a0.tmps.size = true) (hord : ordB 0 ops.toList = true)
    (hL : (ops.toList.map (fun o => o.dst.getD 0)).zip vals = L) (hlen : vals.length = ops.size)
    (hstep : ∀ (i : Nat) (o : Oper), ops[i]? = some o → ∀ (a : Act) (w : World) (K : Act → World → Prop), Ext W w → (∀ s : Nat, ops.toList.all (fun o => o.dst != some s) = true → a.eval (.tmp s) = a0.eval (.tmp s)) →
      (∀ (j s : Nat) (v : Value), o.after.toList.any (fun d => Region.binds .any d && d.on == j) = true → (ops[j]?).bind (·.dst) = some s → vals[j]? = some v → a.tmps[s]? = some v) → (∀ v, vals[i]? = some v → ∀ w', Ext w w' → K (a.put o.dst v) w') →
      if Region.wanted o (yielded ops a.tmps) = true then Oper.wp P o a w K Q else K (a.put o.dst undef) w)
    (hQ : ∀ w, Ext W w → Q .normal { a0 with tmps := L.foldl (fun t p => t.setIfInBounds p.1 p.2) a0.tmps } w) :
    (Code.region id ops true).wp P Q a0 W := by
  have hget : ∀ j, j < ops.size → vals[j]? = some (vals.getD j undef) := fun j hj => by simp [hlen, hj]
  refine wp_region_det (fun j => vals.getD j undef) hm hdst hord (fun i o ho a w K hx hn hd hk => ?_) (fun a w hx hdf hsz hnot hval => ?_)
  · refine hstep i o ho a w K hx (fun s hs => ?_) (fun j s v hj hb hv => ?_) (fun v hv w' hx' => ?_)
    · refine hn s fun j hj he => ?_
      have h1 := (dstOK_lt hdst (show ops[j]? = some ops[j] by simp [hj])).1
      have h2 := List.all_eq_true.1 hs ops[j] (by simp)
      rw [h1, he] at h2
      simp at h2
    · obtain ⟨h1, h2⟩ := dstAt_of hb
      have h3 := hd j (edge hj) h2
      rw [h1] at h3
      rw [h3]
      have h4 := hget j h2
      rw [hv] at h4
      exact congrArg some (Option.some.inj h4).symm
    · have h4 := hget i (Array.getElem?_eq_some_iff.1 ho).1
      rw [hv] at h4
      have := hk w' hx'
      rw [← Option.some.inj h4] at this
      exact this
  · have hmem : ∀ p ∈ L, ∃ j, j < ops.size ∧ p = (dstAt ops j, vals.getD j undef) := fun p hp => by
      rw [← hL] at hp
      obtain ⟨j, hj⟩ := List.getElem?_of_mem hp
      rw [List.getElem?_zip_eq_some] at hj
      obtain ⟨h1, h2⟩ := hj
      have hjl : j < ops.size := by rw [← hlen]; exact (List.getElem?_eq_some_iff.1 h2).1
      refine ⟨j, hjl, ?_⟩
      have ho : ops[j]? = some ops[j] := by simp [hjl]
      have hd := (dstOK_lt hdst ho).1
      rw [List.getElem?_map] at h1
      simp [hjl, hd] at h1
      have h4 := hget j hjl
      rw [h2] at h4
      obtain ⟨p1, p2⟩ := p
      simp only at h1 h4
      rw [← h1, Option.some.inj h4]
    have hfr := frame_eq (a0 := a0.tmps) L a.tmps a0.tmps hsz (fun p hp => by
      obtain ⟨j, hj, rfl⟩ := hmem p hp
      exact hval j hj) (fun s hs => hnot s fun j hj he => hs (by
        rw [← hL, List.map_fst_zip (by simp [hlen])]
        have ho : ops[j]? = some ops[j] := by simp [hj]
        have hd := (dstOK_lt hdst ho).1
        rw [List.mem_map]
        exact ⟨ops[j], by simp, by rw [hd, he]; rfl⟩))
    have : a = { a0 with tmps := L.foldl (fun t p => t.setIfInBounds p.1 p.2) a0.tmps } := by
      obtain ⟨at_, ad⟩ := a
      simp only at hfr hdf
      rw [hfr, hdf]
    rw [this]
    exact hQ w hx
end Go.Proofs.YtffianmhojiomaaDoor
