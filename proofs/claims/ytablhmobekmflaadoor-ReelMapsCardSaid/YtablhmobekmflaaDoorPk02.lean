/- Laid together: A region that draws its order and whose operations read, reckon and call, each with one value whatever came ahead of it: one walk. Single operations of a drawn region: calls of one argument, operators, loads of one cell. The walks of ratio.known, size, away and Quotient at numbers that are not negative. The walk of lines.Name. The walk of the reference's Name. Cuts of an edit decision list: the walks of edl.last, checkCut, reel.source, and of the reference's Played, single. The walks of edl.checkCut and of the reference's single. The walks of the packages timebase and timecode (of, Valid, CanDrop, Nominal, rateError, dropped, Day) and of their references. The walks of timebase.Valid, CanDrop, Nominal, timecode.rateError, dropped, Day, and of the references' Valid, CanDrop, Nominal, Dropped, Day. Plain: how many different names a list of names has, by sorting and by inserting. No program in sight. -/
import Derived.Test.YtablhmobekmflaaDoorPk01
import Derived.Lib.SlicesCompact
import Derived.Lib.RowBridge
import Derived.Sort.KeysCollected

/-! RegionDet -/
namespace Go.Proofs.YtablhmobekmflaaDoor
set_option linter.unusedVariables false
set_option linter.unusedSimpArgs false
open Go.RowKit
/-- the slot that operation j writes -/
def dstAt (ops : Array Oper) (j : Nat) : Nat := ((ops[j]?).bind (·.dst)).getD 0
/-- each operation writes a slot of its own, in the frame -/
def dstOK (ops : Array Oper) (n : Nat) : Bool := ops.toList.all (fun o => (o.dst.map (fun s => decide (s < n))).getD false) && decide ((ops.toList.map (fun o => o.dst.getD 0)).Nodup)
def DetInv (ops : Array Oper) (a0 : Act) (W : World) (vals : Nat → Value) (l : Array Bool) (a : Act) (w : World) : Prop :=
  l.size = ops.size ∧ Ext W w ∧ a.defers = a0.defers ∧ a.tmps.size = a0.tmps.size ∧ (∀ s, (∀ j, j < ops.size → dstAt ops j ≠ s) → a.tmps[s]? = a0.tmps[s]?) ∧
    (∀ j, j < ops.size → l.getD j false = true → a.tmps[dstAt ops j]? = some (vals j))
theorem dstOK_lt {ops : Array Oper} {n j : Nat} {o : Oper} (h : dstOK ops n = true) (ho : ops[j]? = some o) : o.dst = some (dstAt ops j) ∧ dstAt ops j < n := by
  simp only [dstOK, Bool.and_eq_true, List.all_eq_true] at h
  have hm : o ∈ ops.toList := by simpa using Array.mem_of_getElem? ho
  have := h.1 o hm
  unfold dstAt
  rw [ho]
  cases hd : o.dst with
  | none => rw [hd] at this; simp at this
  | some s => rw [hd] at this; simp at this; simp [hd, this]
theorem dstOK_inj {ops : Array Oper} {n i j : Nat} (h : dstOK ops n = true) (hi : i < ops.size) (hj : j < ops.size) (he : dstAt ops i = dstAt ops j) : i = j := by
  simp only [dstOK, Bool.and_eq_true, decide_eq_true_eq] at h
  have hn := h.2
  have key : ∀ k (hk : k < ops.size), (ops.toList.map (fun o => o.dst.getD 0))[k]? = some (dstAt ops k) := fun k hk => by
    have ho : ops[k]? = some ops[k] := by simp [hk]
    have := (dstOK_lt (by simp only [dstOK, Bool.and_eq_true, decide_eq_true_eq]; exact h) ho).1
    rw [List.getElem?_map]
    simp [hk, this]
  have hl : (ops.toList.map (fun o => o.dst.getD 0)).length = ops.size := by simp
  refine (List.getElem?_inj (by rw [hl]; exact hi) hn).1 ?_
  rw [key i hi, key j hj, he]
theorem wp_region_det {P : Program} {ops : Array Oper} {Q : Exit → Act → World → Prop} {id : Nat} {a0 : Act} {W : World} (vals : Nat → Value) (hm : P.follows .mixedOrders = true) (hdst : dstOK ops a0.tmps.size = true) (hord : ordB 0 ops.toList = true)
    (hstep : ∀ i o, ops[i]? = some o → ∀ (a : Act) (w : World) (K : Act → World → Prop), Ext W w → (∀ s, (∀ j, j < ops.size → dstAt ops j ≠ s) → a.tmps.getD s undef = a0.tmps.getD s undef) →
      (∀ j, (∃ d ∈ o.after, Region.binds .any d = true ∧ d.on = j) → j < ops.size → a.tmps[dstAt ops j]? = some (vals j)) → (∀ w', Ext w w' → K (a.put o.dst (vals i)) w') →
      if Region.wanted o (yielded ops a.tmps) = true then Oper.wp P o a w K Q else K (a.put o.dst undef) w)
    (hQ : ∀ a w, Ext W w → a.defers = a0.defers → a.tmps.size = a0.tmps.size → (∀ s, (∀ j, j < ops.size → dstAt ops j ≠ s) → a.tmps[s]? = a0.tmps[s]?) → (∀ j, j < ops.size → a.tmps[dstAt ops j]? = some (vals j)) → Q .normal a w) :
    (Code.region id ops true).wp P Q a0 W := by
  refine wp_region_any hm ?_
  refine wpAny_inv (DetInv ops a0 W vals) (fun l a w h => h.1) ?_ (hordB hord) ?_ _ _ _ _ (by simp) ?_
  · intro l a w hI i o ho hl hall K hK
    obtain ⟨hs, hx, hdf, hsz, hnot, hval⟩ := hI
    have hi : i < ops.size := (Array.getElem?_eq_some_iff.1 ho).1
    refine hstep i o ho a w K hx (fun s hsn => ?_) (fun j hj hjl => ?_) (fun w' hx' => ?_)
    · have := hnot s hsn
      simp [this]
    · obtain ⟨d, hd, hb, rfl⟩ := hj
      exact hval _ hjl (hall d hd hb)
    · apply hK
      obtain ⟨hd1, hd2⟩ := dstOK_lt hdst ho
      rw [hd1]
      refine ⟨by simpa using hs, hx.trans hx', hdf, by simpa [Act.put] using hsz, fun s hsn => ?_, fun j hj hjl => ?_⟩
      · simp only [Act.put]
        rw [Array.getElem?_setIfInBounds_ne (hsn i hi)]
        exact hnot s hsn
      · simp only [Act.put]
        by_cases hij : i = j
        · subst hij
          simp [hsz, hd2]
        · rw [Array.getElem?_setIfInBounds_ne (fun h => hij (dstOK_inj hdst hi hj h))]
          rw [getD_set_other hij] at hjl
          exact hval j hj hjl
  · rintro l a w ⟨hs, hx, hdf, hsz, hnot, hval⟩ hall
    exact hQ a w hx hdf hsz hnot (fun j hj => hval j hj (hall j hj))
  · exact ⟨by simp, (Ext.refl W).drew, rfl, rfl, fun _ _ => rfl, fun j hj h => by simp [Array.getElem?_replicate, hj] at h⟩
theorem eval_of {a : Act} {s : Nat} {v : Value} (h : a.tmps[s]? = some v) : a.eval (.tmp s) = v := by simp [Act.eval, h]
theorem want_none {o : Oper} {y : Nat → Option Bool} {A B : Prop} (hg : o.guard = none) (h : A) : if Region.wanted o y = true then A else B := by
  rw [if_pos (by simp [Region.wanted, hg])]; exact h
section
variable {P : Program} {o : Oper} {a : Act} {w : World} {K : Act → World → Prop} {Q : Exit → Act → World → Prop}
theorem wp_move (x : Operand) (v : Value) (ho : o.op = .move x) (hx : a.eval x = v) (h : K (a.put o.dst v) w) : o.wp P a w K Q := by
  unfold Oper.wp execOp
  simp [ho, hx, Sem.run_pure]
  exact h
theorem wp_assignx (x : Operand) (v : Value) (ho : o.op = .assign x) (hx : a.eval x = v) (h : K (a.put o.dst v) w) : o.wp P a w K Q := by
  unfold Oper.wp execOp
  simp [ho, hx, Sem.run_pure]
  exact h
theorem wp_call2 {f : FuncId} {x y : Operand} {ts : Array TypeId} {v u : Value} (ho : o.op = .call { callee := .value (.func f), args := #[x, y], argTypes := ts }) (hx : a.eval x = v) (hy : a.eval y = u)
    (hent : ∀ args w, (callFunc f args).run P w = .ok (.enter f args) w) {r : Value} (hc : Calls P f #[v, u] w fun en w' => en = .returned r ∧ Ext w w') (h : ∀ w', Ext w w' → K (a.put o.dst r) w') : o.wp P a w K Q := by
  have h2 : Calls P f #[v, u] w (fun
      | .returned u, w'' => K (a.put o.dst u) w''
      | .panicked chain, w'' => Q (.panic chain) a w''
      | .outgrown, _ => LetsOut Q) := hc.mono fun en w' hr => by
    obtain ⟨rfl, hk⟩ := hr
    exact h w' hk
  unfold Oper.wp execOp
  simp only [ho]
  have hev : a.eval (.func f) = .func (.func f) #[] #[] := rfl
  simp [resolve, invoke, hev, hx, hy, hent, Sem.run_bind, Deferred.ofValue]
  exact h2
end
/-- the frame behind such a region, written out -/
theorem frame_eq {a0 : Array Value} : ∀ (L : List (Nat × Value)) (a a0 : Array Value), a.size = a0.size → (∀ p ∈ L, a[p.1]? = some p.2) → (∀ s, s ∉ L.map (·.1) → a[s]? = a0[s]?) → a = L.foldl (fun t p => t.setIfInBounds p.1 p.2) a0
  | [], a, a0, _, _, hn => Array.ext_getElem? fun i => hn i (by simp)
  | p :: L, a, a0, hz, hv, hn => by
    rw [List.foldl_cons]
    refine frame_eq (a0 := a0) L a _ (by simpa using hz) (fun q hq => hv q (List.mem_cons_of_mem _ hq)) (fun s hs => ?_)
    have hp := hv p (List.mem_cons_self ..)
    by_cases he : p.1 = s
    · subst he
      have hlt : p.1 < a0.size := by rw [← hz]; exact (Array.getElem?_eq_some_iff.1 hp).1
      rw [hp]
      simp [hlt]
    · rw [Array.getElem?_setIfInBounds_ne he]
      exact hn s (by simp only [List.map_cons, List.mem_cons, not_or]; exact ⟨fun h => he h.symm, hs⟩)
theorem dstAt_of {ops : Array Oper} {j s : Nat} (h : (ops[j]?).bind (·.dst) = some s) : dstAt ops j = s ∧ j < ops.size := by
  unfold dstAt
  rw [h]
  refine ⟨rfl, ?_⟩
  cases ho : ops[j]? with
  | none => rw [ho] at h; cases h
  | some o => exact (Array.getElem?_eq_some_iff.1 ho).1
/-- the same, its conditions as the walks of single operations ask them; the frame behind it is written out -/
theorem wp_region_vals {P : Program} {ops : Array Oper} {Q : Exit → Act → World → Prop} {id : Nat} {a0 : Act} {W : World} (vals : List Value) (L : List (Nat × Value)) (hm : P.follows .mixedOrders = true) (hdst : dstOK ops a0.tmps.size = true) (hord : ordB 0 ops.toList = true)
    (hL : (ops.toList.map (fun o => o.dst.getD 0)).zip vals = L) (hlen : vals.length = ops.size)
    (hstep : ∀ (i : Nat) (o : Oper), ops[i]? = some o → ∀ (a : Act) (w : World) (K : Act → World → Prop), Ext W w → (∀ s : Nat, ops.toList.all (fun o => o.dst != some s) = true → a.eval (.tmp s) = a0.eval (.tmp s)) →
      (∀ (j s : Nat) (v : Value), o.after.toList.any (fun d => Region.binds .any d && d.on == j) = true → (ops[j]?).bind (·.dst) = some s → vals[j]? = some v → a.tmps[s]? = some v) → (∀ v, vals[i]? = some v → ∀ w', Ext w w' → K (a.put o.dst v) w') →
      if Region.wanted o (yielded ops a.tmps) = true then Oper.wp P o a w K Q else K (a.put o.dst undef) w)
    (hQ : ∀ w, Ext W w → Q .normal { a0 with tmps := L.foldl (fun t p => t.setIfInBounds p.1 p.2) a0.tmps } w) :
    (Code.region id ops true).wp P Q a0 W := by
  have hget : ∀ j, j < ops.size → vals[j]? = some (vals.getD j undef) := fun j hj => by simp [hlen, hj]
  refine wp_region_det (fun j => vals.getD j undef) hm hdst hord (fun i o ho a w K hx hn hd hk => ?_) (fun a w hx hdf hsz hnot hval => ?_)
  · refine hstep i o ho a w K hx (fun s hs => ?_) (fun j s v hj hb hv => ?_) (fun v hv w' hx' => ?_)
    · refine hn s fun j hj he => ?_
      have h1 := (dstOK_lt hdst (show ops[j]? = some ops[j] by simp [hj])).1
      have h2 := List.all_eq_true.1 hs ops[j] (by simp)
      rw [h1, he] at h2
      simp at h2
    · obtain ⟨h1, h2⟩ := dstAt_of hb
      have h3 := hd j (edge hj) h2
      rw [h1] at h3
      rw [h3]
      have h4 := hget j h2
      rw [hv] at h4
      exact congrArg some (Option.some.inj h4).symm
    · have h4 := hget i (Array.getElem?_eq_some_iff.1 ho).1
      rw [hv] at h4
      have := hk w' hx'
      rw [← Option.some.inj h4] at this
      exact this
  · have hmem : ∀ p ∈ L, ∃ j, j < ops.size ∧ p = (dstAt ops j, vals.getD j undef) := fun p hp => by
      rw [← hL] at hp
      obtain ⟨j, hj⟩ := List.getElem?_of_mem hp
      rw [List.getElem?_zip_eq_some] at hj
      obtain ⟨h1, h2⟩ := hj
      have hjl : j < ops.size := by rw [← hlen]; exact (List.getElem?_eq_some_iff.1 h2).1
      refine ⟨j, hjl, ?_⟩
      have ho : ops[j]? = some ops[j] := by simp [hjl]
      have hd := (dstOK_lt hdst ho).1
      rw [List.getElem?_map] at h1
      simp [hjl, hd] at h1
      have h4 := hget j hjl
      rw [h2] at h4
      obtain ⟨p1, p2⟩ := p
      simp only at h1 h4
      rw [← h1, Option.some.inj h4]
    have hfr := frame_eq (a0 := a0.tmps) L a.tmps a0.tmps hsz (fun p hp => by
      obtain ⟨j, hj, rfl⟩ := hmem p hp
      exact hval j hj) (fun s hs => hnot s fun j hj he => hs (by
        rw [← hL, List.map_fst_zip (by simp [hlen])]
        have ho : ops[j]? = some ops[j] := by simp [hj]
        have hd := (dstOK_lt hdst ho).1
        rw [List.mem_map]
        exact ⟨ops[j], by simp, by rw [hd, he]; rfl⟩))
    have : a = { a0 with tmps := L.foldl (fun t p => t.setIfInBounds p.1 p.2) a0.tmps } := by
      obtain ⟨at_, ad⟩ := a
      simp only at hfr hdf
      rw [hfr, hdf]
    rw [this]
    exact hQ w hx
end Go.Proofs.YtablhmobekmflaaDoor

/-! Det -/
namespace Go.Proofs.YtablhmobekmflaaDoor
set_option linter.unusedVariables false
set_option linter.unusedSimpArgs false
open Go.RowKit
theorem wrap_i64 {a : Int} (h1 : -9223372036854775808 ≤ a) (h2 : a ≤ 9223372036854775807) : IntKind.i64.wrap a = a := by
  simp [IntKind.wrap, IntKind.bits, IntKind.signed]
  omega
section
variable {P : Program} {o : Oper} {a : Act} {w : World} {K : Act → World → Prop} {Q : Exit → Act → World → Prop}
theorem wp_call1s {f : FuncId} {x : Operand} {ts : Array TypeId} {v : Value} (ho : o.op = .call { callee := .value (.func f), args := #[x], argTypes := ts }) (hx : a.eval x = v)
    (hent : ∀ args w, (callFunc f args).run P w = .ok (.enter f args) w) {r : Value} (hc : Calls P f #[v] w fun en w' => en = .returned r ∧ Ext w w') (h : ∀ w', Ext w w' → K (a.put o.dst r) w') : o.wp P a w K Q :=
  wp_call1 ho hx hent hc fun _ w' hr => ⟨r, hr.1, h w' hr.2⟩
theorem wp_bin {op : BinOp} {x y : Operand} {ty ty' : TypeId} {u v r : Value} (ho : o.op = .binOp op ty x y ty') (hx : a.eval x = u) (hy : a.eval y = v) (hr : (do eqGuard op ty x y u v; binOp op ty u v : Sem Value).run P w = .ok r w) (h : K (a.put o.dst r) w) : o.wp P a w K Q := by
  unfold Oper.wp execOp
  simp only [ho, hx, hy]
  simp only [Sem.run_bind] at hr ⊢
  rw [hr]
  exact h
end
end Go.Proofs.YtablhmobekmflaaDoor

/-! RatioQ -/
namespace Go.Proofs.YtablhmobekmflaaDoor
set_option linter.unusedVariables false
set_option linter.unusedSimpArgs false
open Go.RowKit
theorem size_any (n : Int) (w : World) (h : 0 ≤ n) (h9 : n ≤ 9223372036854775807) : Calls Tryd.prog 42 #[.int .i64 n] w fun e w' => e = .returned (.int .u64 n) ∧ w = w' := by
  go_enter Tryd.func42, Tryd.ntmps42
  go_wp2
  go_ret
  exact ⟨rfl, rfl⟩
theorem known_any (m : Int) (w : World) (h1 : 1 ≤ m) (h3 : m ≤ 3) : Calls Tryd.prog 41 #[.int .u8 m] w fun e w' => e = .returned (.bool true) ∧ w = w' := by
  go_enter Tryd.func41, Tryd.ntmps41
  go_wp2
  go_ret
  exact ⟨rfl, rfl⟩
/-- is a remainder rounded up? (mode 1: down, 2: to the nearest, 3: up) -/
def awayB (r d m : Int) : Bool := if r = 0 then false else if m = 1 then false else if m = 3 then true else decide (d - r ≤ r)
set_option maxRecDepth 100000 in
set_option maxHeartbeats 1000000 in
theorem away_any (r d m : Int) (w : World) (hr : 0 ≤ r) (hd : r < d) (h9 : d ≤ 9223372036854775807) (h1 : 1 ≤ m) (h3 : m ≤ 3) : Calls Tryd.prog 43 #[.bool false, .int .u64 r, .int .u64 d, .int .u8 m] w fun e w' => e = .returned (.bool (awayB r d m)) ∧ w = w' := by
  by_cases h0 : r = 0
  · subst h0
    go_enter Tryd.func43, Tryd.ntmps43
    go_wp2
    go_ret
    exact ⟨rfl, rfl⟩
  · have e0 : (r == 0) = false := by simpa using h0
    have hm : m = 1 ∨ m = 2 ∨ m = 3 := by omega
    rcases hm with rfl | rfl | rfl
    · have HF : Hid (awayB r d 1 = false) := by show _ = _; unfold awayB; rw [if_neg h0]; rfl
      go_enter Tryd.func43, Tryd.ntmps43
      go_wp2
      go_ret
      exact ⟨ret_bool HF.out.symm, rfl⟩
    · have HF : Hid (awayB r d 2 = decide (d - r ≤ r)) := by show _ = _; unfold awayB; rw [if_neg h0]; rfl
      by_cases hg : d - r < r
      · go_enter Tryd.func43, Tryd.ntmps43
        go_wp2
        go_ret
        exact ⟨ret_bool (by rw [HF.out, decide_eq_true (by omega)]), rfl⟩
      · by_cases hq : r = d - r
        · have hq' : (r == d - r) = true := by simpa using hq
          have HQ := Lib.hid hq
          clear hq
          go_enter Tryd.func43, Tryd.ntmps43
          go_wp2
          go_ret
          exact ⟨ret_bool (by rw [HF.out, decide_eq_true (by have := HQ.out; omega)]), rfl⟩
        · have hq' : (r == d - r) = false := by simpa using hq
          go_enter Tryd.func43, Tryd.ntmps43
          go_wp2
          go_ret
          exact ⟨ret_bool (by rw [HF.out, decide_eq_false (by omega)]), rfl⟩
    · have HF : Hid (awayB r d 3 = true) := by show _ = _; unfold awayB; rw [if_neg h0]; rfl
      go_enter Tryd.func43, Tryd.ntmps43
      go_wp2
      go_ret
      exact ⟨ret_bool HF.out.symm, rfl⟩
theorem quo_u64 {n d : Int} {w : World} (hn : 0 ≤ n) (hd : 1 ≤ d) (hn9 : n ≤ 9223372036854775807) (hd9 : d ≤ 9223372036854775807) : (do eqGuard .quo 85 (.tmp 24) (.tmp 26) (.int .u64 n) (.int .u64 d); binOp .quo 85 (.int .u64 n) (.int .u64 d) : Sem Value).run Tryd.prog w = .ok (.int .u64 (n / d)) w := by
  have h1 : 0 ≤ n / d := Int.ediv_nonneg hn (by omega)
  have h2 : n / d ≤ n := Int.ediv_le_self _ hn
  have hd0 : (d == 0) = false := by simp; omega
  have e : n.tdiv d = n / d := Int.tdiv_eq_ediv_of_nonneg hn
  have hz : ¬ d = 0 := by omega
  go_simp
  simp [IntKind.wrap, IntKind.bits, IntKind.signed]
  omega
theorem rem_u64 {n d : Int} {w : World} (hn : 0 ≤ n) (hd : 1 ≤ d) (hn9 : n ≤ 9223372036854775807) (hd9 : d ≤ 9223372036854775807) : (do eqGuard .rem 85 (.tmp 29) (.tmp 31) (.int .u64 n) (.int .u64 d); binOp .rem 85 (.int .u64 n) (.int .u64 d) : Sem Value).run Tryd.prog w = .ok (.int .u64 (n % d)) w := by
  have h1 : 0 ≤ n % d := Int.emod_nonneg _ (by omega)
  have h2 : n % d < d := Int.emod_lt_of_pos _ (by omega)
  have e : n.tmod d = n % d := Int.tmod_eq_emod_of_nonneg hn
  have hz : ¬ d = 0 := by omega
  go_simp
/-- a quotient of numbers that are not negative -/
def quoI (n d m : Int) : Int := if awayB (n % d) d m = true then n / d + 1 else n / d
set_option maxRecDepth 100000 in
set_option maxHeartbeats 2000000 in
theorem Quotient_any (n d m : Int) (w : World) (hn0 : 0 ≤ n) (hn9 : n ≤ 4611686018427387904) (hd1 : 1 ≤ d) (hd9 : d ≤ 9223372036854775807) (h1 : 1 ≤ m) (h3 : m ≤ 3) :
    Calls Tryd.prog 27 #[.int .i64 n, .int .i64 d, .int .u8 m] w fun e w' => e = .returned (.tuple #[.int .i64 (quoI n d m), .int .i64 0]) ∧ Ext w w' := by
  have hq0 : 0 ≤ n / d := Int.ediv_nonneg hn0 (by omega)
  have hq1 : n / d ≤ n := Int.ediv_le_self _ hn0
  have hr0 : 0 ≤ n % d := Int.emod_nonneg _ (by omega)
  have hr1 : n % d < d := Int.emod_lt_of_pos _ (by omega)
  have hd0 : (d == 0) = false := by simp; omega
  have hnl : decide (n < 0) = false := by simp; omega
  have hdl : decide (d < 0) = false := by simp; omega
  go_enter Tryd.func27, Tryd.ntmps27
  go_wp2_with fail
  refine (known_any m _ h1 h3).mono ?_
  rintro e w1 ⟨rfl, rfl⟩
  go_wp2_with fail
--@gen quo
  refine wp_region_vals [.int .i64 (n), .int .u64 (n), .int .i64 (d), .int .u64 (d), .int .u64 (n / d), .int .i64 (n), .int .u64 (n), .int .i64 (d), .int .u64 (d), .int .u64 (n % d), .int .u64 (n / d), .int .u64 (n % d)] [(23, .int .i64 (n)), (24, .int .u64 (n)), (25, .int .i64 (d)), (26, .int .u64 (d)), (27, .int .u64 (n / d)), (28, .int .i64 (n)), (29, .int .u64 (n)), (30, .int .i64 (d)), (31, .int .u64 (d)), (32, .int .u64 (n % d)), (9, .int .u64 (n / d)), (10, .int .u64 (n % d))] (by kernel_rfl) (by kernel_rfl) (by kernel_rfl) rfl rfl ?_ ?_
  · intro i o ho a w' K' hx hn hd hk
    match i, ho with
    | 0, ho =>
      simp only [List.getElem?_toArray, List.getElem?_cons_zero, List.getElem?_cons_succ, Option.some.injEq] at ho
      subst ho
      refine want_none rfl ?_
      exact wp_move _ _ rfl ((hn 0 rfl).trans (show _ = .int .i64 (n) from rfl)) (hk _ rfl w' (Ext.refl _))
    | 1, ho =>
      simp only [List.getElem?_toArray, List.getElem?_cons_zero, List.getElem?_cons_succ, Option.some.injEq] at ho
      subst ho
      refine want_none rfl ?_
      exact wp_call1s rfl (eval_of (hd 0 23 (.int .i64 (n)) rfl rfl rfl)) Tryd.call42 ((size_any n w' hn0 (by omega)).mono fun _ _ h => ⟨h.1, h.2 ▸ Ext.refl _⟩) (hk _ rfl)
    | 2, ho =>
      simp only [List.getElem?_toArray, List.getElem?_cons_zero, List.getElem?_cons_succ, Option.some.injEq] at ho
      subst ho
      refine want_none rfl ?_
      exact wp_move _ _ rfl ((hn 1 rfl).trans (show _ = .int .i64 (d) from rfl)) (hk _ rfl w' (Ext.refl _))
    | 3, ho =>
      simp only [List.getElem?_toArray, List.getElem?_cons_zero, List.getElem?_cons_succ, Option.some.injEq] at ho
      subst ho
      refine want_none rfl ?_
      exact wp_call1s rfl (eval_of (hd 2 25 (.int .i64 (d)) rfl rfl rfl)) Tryd.call42 ((size_any d w' (by omega) hd9).mono fun _ _ h => ⟨h.1, h.2 ▸ Ext.refl _⟩) (hk _ rfl)
    | 4, ho =>
      simp only [List.getElem?_toArray, List.getElem?_cons_zero, List.getElem?_cons_succ, Option.some.injEq] at ho
      subst ho
      refine want_none rfl ?_
      exact wp_bin rfl (eval_of (hd 1 24 (.int .u64 (n)) rfl rfl rfl)) (eval_of (hd 3 26 (.int .u64 (d)) rfl rfl rfl)) (by exact quo_u64 hn0 hd1 (by omega) hd9) (hk _ rfl w' (Ext.refl _))
    | 5, ho =>
      simp only [List.getElem?_toArray, List.getElem?_cons_zero, List.getElem?_cons_succ, Option.some.injEq] at ho
      subst ho
      refine want_none rfl ?_
      exact wp_move _ _ rfl ((hn 0 rfl).trans (show _ = .int .i64 (n) from rfl)) (hk _ rfl w' (Ext.refl _))
    | 6, ho =>
      simp only [List.getElem?_toArray, List.getElem?_cons_zero, List.getElem?_cons_succ, Option.some.injEq] at ho
      subst ho
      refine want_none rfl ?_
      exact wp_call1s rfl (eval_of (hd 5 28 (.int .i64 (n)) rfl rfl rfl)) Tryd.call42 ((size_any n w' hn0 (by omega)).mono fun _ _ h => ⟨h.1, h.2 ▸ Ext.refl _⟩) (hk _ rfl)
    | 7, ho =>
      simp only [List.getElem?_toArray, List.getElem?_cons_zero, List.getElem?_cons_succ, Option.some.injEq] at ho
      subst ho
      refine want_none rfl ?_
      exact wp_move _ _ rfl ((hn 1 rfl).trans (show _ = .int .i64 (d) from rfl)) (hk _ rfl w' (Ext.refl _))
    | 8, ho =>
      simp only [List.getElem?_toArray, List.getElem?_cons_zero, List.getElem?_cons_succ, Option.some.injEq] at ho
      subst ho
      refine want_none rfl ?_
      exact wp_call1s rfl (eval_of (hd 7 30 (.int .i64 (d)) rfl rfl rfl)) Tryd.call42 ((size_any d w' (by omega) hd9).mono fun _ _ h => ⟨h.1, h.2 ▸ Ext.refl _⟩) (hk _ rfl)
    | 9, ho =>
      simp only [List.getElem?_toArray, List.getElem?_cons_zero, List.getElem?_cons_succ, Option.some.injEq] at ho
      subst ho
      refine want_none rfl ?_
      exact wp_bin rfl (eval_of (hd 6 29 (.int .u64 (n)) rfl rfl rfl)) (eval_of (hd 8 31 (.int .u64 (d)) rfl rfl rfl)) (by exact rem_u64 hn0 hd1 (by omega) hd9) (hk _ rfl w' (Ext.refl _))
    | 10, ho =>
      simp only [List.getElem?_toArray, List.getElem?_cons_zero, List.getElem?_cons_succ, Option.some.injEq] at ho
      subst ho
      refine want_none rfl ?_
      exact wp_assignx _ _ rfl (eval_of (hd 4 27 (.int .u64 (n / d)) rfl rfl rfl)) (hk _ rfl w' (Ext.refl _))
    | 11, ho =>
      simp only [List.getElem?_toArray, List.getElem?_cons_zero, List.getElem?_cons_succ, Option.some.injEq] at ho
      subst ho
      refine want_none rfl ?_
      exact wp_assignx _ _ rfl (eval_of (hd 9 32 (.int .u64 (n % d)) rfl rfl rfl)) (hk _ rfl w' (Ext.refl _))
    | i + 12, ho => simp at ho
--@gend quo
  intro w1 hx
  simp only [Act.put, List.foldl_cons, List.foldl_nil, List.setIfInBounds_toArray, List.set_cons_zero, List.set_cons_succ]
  have HQ : Hid (∀ b, awayB (n % d) d m = b → quoI n d m = if b = true then n / d + 1 else n / d) := fun b hb => by unfold quoI; rw [hb]
  go_wp2_with fail
  refine (size_any d _ (by omega) hd9).mono ?_
  rintro e w2 ⟨rfl, rfl⟩
  go_wp2_with fail
  refine (away_any (n % d) d m _ hr0 hr1 hd9 h1 h3).mono ?_
  rintro e w2 ⟨rfl, rfl⟩
  cases hb : awayB (n % d) d m
  · have HB := Lib.hid hb
    clear hb
    go_wp2_with fail
    go_ret2
    exact ⟨by rw [HQ.out _ HB.out]; rfl, hx⟩
  · have HB := Lib.hid hb
    clear hb
    go_wp2_with fail
    go_ret2
    exact ⟨by rw [HQ.out _ HB.out]; rfl, hx⟩
end Go.Proofs.YtablhmobekmflaaDoor

/-! Name -/
namespace Go.Proofs.YtablhmobekmflaaDoor
set_option linter.unusedVariables false
set_option linter.unusedSimpArgs false
open Go.RowKit
/-- may a byte stand in a name? (of its number) -/
def nbI (c : Int) : Bool := decide ((65 ≤ c ∧ c ≤ 90) ∨ (48 ≤ c ∧ c ≤ 57) ∨ c = 95 ∨ c = 45)
def nameB (s : ByteArray) : Bool := decide (1 ≤ s.size ∧ s.size ≤ 16) && (s.data.toList.take 1).all (fun c => decide (65 ≤ (c.toNat : Int) ∧ (c.toNat : Int) ≤ 90)) && s.data.toList.all (fun c => nbI c.toNat)
theorem take_snoc (s : ByteArray) (k : Nat) (h : k < s.size) : s.data.toList.take (k + 1) = s.data.toList.take k ++ [s[k]] := by
  rw [List.take_succ_eq_append_getElem (by simpa using h)]; rfl
theorem nameB_small {s : ByteArray} (h : ¬ (1 ≤ s.size ∧ s.size ≤ 16)) : nameB s = false := by unfold nameB; rw [decide_eq_false h]; rfl
theorem nameB_head {s : ByteArray} (h : 0 < s.size) (hc : ¬ ((65 : Int) ≤ (s[0].toNat : Int) ∧ (s[0].toNat : Int) ≤ 90)) : nameB s = false := by
  unfold nameB
  have e := take_snoc s 0 h
  simp only [Nat.zero_add, List.take_zero, List.nil_append] at e
  rw [e, List.all_cons, decide_eq_false hc]
  simp
theorem nameB_at {s : ByteArray} (k : Nat) (h : k < s.size) (hc : nbI (s[k].toNat : Int) = false) : nameB s = false := by
  unfold nameB
  have : (s.data.toList.all fun c => nbI c.toNat) = false := by
    rw [List.all_eq_false]
    exact ⟨s[k], by simp [ByteArray.getElem_eq_getElem_data], by rw [hc]; simp⟩
  rw [this, Bool.and_false]
theorem nameB_yes {s : ByteArray} (h : 1 ≤ s.size ∧ s.size ≤ 16) (h0 : 0 < s.size) (hc : (65 : Int) ≤ (s[0].toNat : Int) ∧ (s[0].toNat : Int) ≤ 90) (ha : (s.data.toList.take s.size).all (fun c => nbI c.toNat) = true) : nameB s = true := by
  unfold nameB
  have e := take_snoc s 0 h0
  simp only [Nat.zero_add, List.take_zero, List.nil_append] at e
  rw [List.take_of_length_le (by simp)] at ha
  rw [e, List.all_cons, decide_eq_true hc, decide_eq_true h, ha]
  rfl
def NameRel (s : ByteArray) (i : Value) : Prop := ∃ k : Nat, k ≤ s.size ∧ i = .int .i64 k ∧ (s.data.toList.take k).all (fun c => nbI c.toNat) = true
set_option maxHeartbeats 1000000 in
theorem Name_any (s : ByteArray) (w : World) (hs : s.size ≤ 9223372036854775807) :
    Calls Tryd.prog 35 #[.string s] w fun e w' => e = .returned (.bool (nameB s)) ∧ w = w' := by
  by_cases h : 1 ≤ s.size
  · by_cases h' : s.size ≤ 16
    · have h1 : (1 : Int) ≤ (s.size : Int) := by omega
      have h2 : (s.size : Int) ≤ 16 := by omega
      have h0 : 0 < s.size := by omega
      have HS := Lib.hid (And.intro h h')
      by_cases hc1 : (65 : Int) ≤ (s[0].toNat : Int)
      · by_cases hc2 : (s[0].toNat : Int) ≤ 90
        · go_enter Tryd.func35, Tryd.ntmps35
          go_wp2
          go_loop [25] (fun i => NameRel s i) (fun i => s.size - (intOf i).toNat)
          case atStart => exact ⟨0, Nat.zero_le _, rfl, rfl⟩
          case round =>
            obtain ⟨k, hk, rfl, hall⟩ := hrel
            have HA := Lib.hid hall
            clear hall
            by_cases hlt : k < s.size
            · by_cases hb : nbI (s[k].toNat : Int) = true
              · have HA' : Hid ((s.data.toList.take (k + 1)).all (fun c => nbI c.toNat) = true) := by
                  show (s.data.toList.take (k + 1)).all (fun c => nbI c.toNat) = true
                  rw [take_snoc s k hlt, List.all_append, HA.out]
                  simp [hb]
                have hb' : ((65 : Int) ≤ (s[k].toNat : Int) ∧ (s[k].toNat : Int) ≤ 90) ∨ ((48 : Int) ≤ (s[k].toNat : Int) ∧ (s[k].toNat : Int) ≤ 57) ∨ (s[k].toNat : Int) = 95 ∨ (s[k].toNat : Int) = 45 := of_decide_eq_true hb
                clear hb
                go_wp2
                all_goals first
                  | exact ⟨⟨k + 1, by omega, by go_num, HA'.out⟩, by simp [intOf]; omega⟩
                  | (exfalso; simp at *; omega)
              · have HB := Lib.hid (nameB_at k hlt (by simpa using hb))
                have hb' : ¬ (((65 : Int) ≤ (s[k].toNat : Int) ∧ (s[k].toNat : Int) ≤ 90) ∨ ((48 : Int) ≤ (s[k].toNat : Int) ∧ (s[k].toNat : Int) ≤ 57) ∨ (s[k].toNat : Int) = 95 ∨ (s[k].toNat : Int) = 45) := fun x => hb (decide_eq_true x)
                clear hb
                go_wp2
                all_goals first
                  | (go_ret; exact ⟨by rw [HB.out]; rfl, rfl⟩)
                  | (exfalso; simp at *; omega)
            · have ek : k = s.size := by omega
              subst ek
              go_wp2
              go_ret
              exact ⟨by rw [nameB_yes HS.out h0 ⟨hc1, hc2⟩ HA.out]; rfl, rfl⟩
        · have HF := Lib.hid (nameB_head h0 (by omega))
          go_enter Tryd.func35, Tryd.ntmps35
          go_wp2
          go_ret
          exact ⟨by rw [HF.out]; rfl, rfl⟩
      · have HF := Lib.hid (nameB_head h0 (by omega))
        go_enter Tryd.func35, Tryd.ntmps35
        go_wp2
        go_ret
        exact ⟨by rw [HF.out]; rfl, rfl⟩
    · have HF := Lib.hid (nameB_small (s := s) (by omega))
      have h1 : (16 : Int) < (s.size : Int) := by omega
      go_enter Tryd.func35, Tryd.ntmps35
      go_wp2
      go_ret
      exact ⟨by rw [HF.out]; rfl, rfl⟩
  · have HF := Lib.hid (nameB_small (s := s) (by omega))
    have h1 : (s.size : Int) < 1 := by omega
    go_enter Tryd.func35, Tryd.ntmps35
    go_wp2
    go_ret
    exact ⟨by rw [HF.out]; rfl, rfl⟩
end Go.Proofs.YtablhmobekmflaaDoor

/-! NameR -/
namespace Go.Proofs.YtablhmobekmflaaDoor
set_option linter.unusedVariables false
set_option linter.unusedSimpArgs false
open Go.RowKit
def NameRelR (s : ByteArray) (i : Value) (w wr : World) : Prop := ∃ k : Nat, k ≤ s.size ∧ i = .int .i64 k ∧ (s.data.toList.take k).all (fun c => nbI c.toNat) = true ∧ (0 < k → ∀ h : 0 < s.size, (65 : Int) ≤ (s[0].toNat : Int) ∧ (s[0].toNat : Int) ≤ 90) ∧ w = wr
end Go.Proofs.YtablhmobekmflaaDoor

/-! EdlA -/
namespace Go.Proofs.YtablhmobekmflaaDoor
set_option linter.unusedVariables false
set_option linter.unusedSimpArgs false
open Go.RowKit
/-- a cut -/
structure Cut where
  num : Int
  reel : ByteArray
  src : Int
  inn : Int
  out : Int
  n : Int
  d : Int
  deriving DecidableEq
def Cut.vals (c : Cut) : List Value := [.int .i64 c.num, .string c.reel, .int .i64 c.src, .int .i64 c.inn, .int .i64 c.out, .int .i64 c.n, .int .i64 c.d]
def Cut.cells (c : Cut) : Array Value := #[.int .i64 c.num, .string c.reel, .int .i64 c.src, .int .i64 c.inn, .int .i64 c.out, .int .i64 c.n, .int .i64 c.d]
/-- integers of 64 bits -/
def I64 (x : Int) : Prop := -9223372036854775808 ≤ x ∧ x ≤ 9223372036854775807
def Cut.Fits (c : Cut) : Prop := I64 c.num ∧ I64 c.src ∧ I64 c.inn ∧ I64 c.out ∧ I64 c.n ∧ I64 c.d ∧ c.reel.size ≤ 140737488351232
def speedB (c : Cut) : Bool := ratioB c.n c.d && decide (0 ≤ c.n ∧ c.n ≤ 8 ∧ c.d ≤ 8)
def srcAt (c : Cut) (t : Int) : Int := c.src + (t - c.inn) * c.n / c.d
/-- a cut whose numbers can be reckoned with -/
def Cut.Sane (c : Cut) : Prop := 0 ≤ c.inn ∧ c.inn < c.out ∧ c.out ≤ 5184000 ∧ 0 ≤ c.n ∧ c.n ≤ 8 ∧ 1 ≤ c.d ∧ c.d ≤ 8 ∧ 0 ≤ c.src ∧ c.src ≤ 5184000
def cutErr (c : Cut) (day : Int) : Int :=
  if nameB c.reel = false then 5 else if c.out ≤ c.inn then 1 else if c.inn < 0 ∨ day ≤ c.out then 2 else if speedB c = false then 3 else if c.src < 0 ∨ day ≤ c.src ∨ day ≤ srcAt c (c.out - 1) then 2 else 0
theorem speedB_true {c : Cut} (h : speedB c = true) : 0 ≤ c.n ∧ c.n ≤ 8 ∧ 1 ≤ c.d ∧ c.d ≤ 8 := by
  unfold speedB ratioB at h
  simp only [Bool.and_eq_true, decide_eq_true_eq] at h
  have := inPartsB_true h.1.1
  omega
theorem quoI_floor (n d : Int) : quoI n d 1 = n / d := by
  have h : awayB (n % d) d 1 = false := by unfold awayB; split <;> rfl
  unfold quoI
  rw [h]
  rfl
theorem mul_bd8 {a n : Int} (h0 : 0 ≤ a) (h1 : a ≤ 5184000) (h2 : 0 ≤ n) (h3 : n ≤ 8) : 0 ≤ a * n ∧ a * n ≤ 41472000 := by
  refine ⟨Int.mul_nonneg h0 h2, ?_⟩
  have h4 : a * n ≤ 5184000 * 8 := Int.mul_le_mul h1 h3 h2 (by omega)
  omega
theorem div_bd {x d : Int} (h0 : 0 ≤ x) (h1 : x ≤ 41472000) (h2 : 1 ≤ d) : 0 ≤ x / d ∧ x / d ≤ 41472000 :=
  ⟨Int.ediv_nonneg h0 (by omega), Int.le_trans (Int.ediv_le_self _ h0) h1⟩
set_option maxRecDepth 100000 in
set_option maxHeartbeats 1000000 in
theorem source_any (c : Cut) (t : Int) (w : World) (hc : c.Sane) (h1 : c.inn ≤ t) (h2 : t < c.out) :
    Calls Tryd.prog 15 #[.agg c.cells, .int .i64 t] w fun e w' => e = .returned (.int .i64 (srcAt c t)) ∧ Ext w w' := by
  obtain ⟨num, rl, src, inn, out, n, d⟩ := c
  obtain ⟨a1, a2, a3, a4, a5, a6, a7, a8, a9⟩ := hc
  dsimp only at *
  have hm := mul_bd8 (a := t - inn) (n := n) (by omega) (by omega) a4 a5
  have hq := div_bd hm.1 hm.2 a6
  have HF : Hid (srcAt ⟨num, rl, src, inn, out, n, d⟩ t = src + (t - inn) * n / d) := rfl
  have HX := Lib.hid ((Ext.refl w).alloc (.cells #[.int .i64 num, .string rl, .int .i64 src, .int .i64 inn, .int .i64 out, .int .i64 n, .int .i64 d] 52))
  unfold Cut.cells
  dsimp only
  go_enter Tryd.func15, Tryd.ntmps15
  go_wp2_with fail
  refine (Quotient_any ((t - inn) * n) d 1 _ hm.1 (by omega) a6 (by omega) (by omega) (by omega)).mono ?_
  rintro e w1 ⟨rfl, hx⟩
  rw [quoI_floor]
  have hB := Blk.ext (Blk.new w 52 #[.int .i64 num, .string rl, .int .i64 src, .int .i64 inn, .int .i64 out, .int .i64 n, .int .i64 d]) hx
  have hcell := fun o => hB.cell o
  have HB := Lib.hid hB
  clear hB
  go_wp2_with fail
  go_ret
  exact ⟨ret_int HF.out.symm, HX.out.trans hx⟩
set_option maxRecDepth 100000 in
set_option maxHeartbeats 1000000 in
theorem last_any (c : Cut) (w : World) (hc : c.Sane) :
    Calls Tryd.prog 37 #[.agg c.cells] w fun e w' => e = .returned (.int .i64 (srcAt c (c.out - 1))) ∧ Ext w w' := by
  obtain ⟨num, rl, src, inn, out, n, d⟩ := c
  obtain ⟨a1, a2, a3, a4, a5, a6, a7, a8, a9⟩ := hc
  dsimp only at *
  have hm := mul_bd8 (a := out - 1 - inn) (n := n) (by omega) (by omega) a4 a5
  have hq := div_bd hm.1 hm.2 a6
  have HF : Hid (srcAt ⟨num, rl, src, inn, out, n, d⟩ (out - 1) = src + (out - 1 - inn) * n / d) := rfl
  have HX := Lib.hid ((Ext.refl w).alloc (.cells #[.int .i64 num, .string rl, .int .i64 src, .int .i64 inn, .int .i64 out, .int .i64 n, .int .i64 d] 52))
  unfold Cut.cells
  dsimp only
  go_enter Tryd.func37, Tryd.ntmps37
  go_wp2_with fail
  refine (Quotient_any ((out - 1 - inn) * n) d 1 _ hm.1 (by omega) a6 (by omega) (by omega) (by omega)).mono ?_
  rintro e w1 ⟨rfl, hx⟩
  rw [quoI_floor]
  have hB := Blk.ext (Blk.new w 52 #[.int .i64 num, .string rl, .int .i64 src, .int .i64 inn, .int .i64 out, .int .i64 n, .int .i64 d]) hx
  have hcell := fun o => hB.cell o
  have HB := Lib.hid hB
  clear hB
  go_wp2_with fail
  go_ret
  exact ⟨ret_int HF.out.symm, HX.out.trans hx⟩
end Go.Proofs.YtablhmobekmflaaDoor

/-! EdlB -/
namespace Go.Proofs.YtablhmobekmflaaDoor
set_option linter.unusedVariables false
set_option linter.unusedSimpArgs false
open Go.RowKit
theorem cutErr_name {c : Cut} {day : Int} (h : nameB c.reel = false) : cutErr c day = 5 := by unfold cutErr; rw [if_pos h]
theorem cutErr_span {c : Cut} {day : Int} (h : nameB c.reel = true) (h1 : c.out ≤ c.inn) : cutErr c day = 1 := by unfold cutErr; rw [if_neg (by simp [h]), if_pos h1]
theorem cutErr_day {c : Cut} {day : Int} (h : nameB c.reel = true) (h1 : ¬ c.out ≤ c.inn) (h2 : c.inn < 0 ∨ day ≤ c.out) : cutErr c day = 2 := by unfold cutErr; rw [if_neg (by simp [h]), if_neg h1, if_pos h2]
theorem cutErr_speed {c : Cut} {day : Int} (h : nameB c.reel = true) (h1 : ¬ c.out ≤ c.inn) (h2 : ¬ (c.inn < 0 ∨ day ≤ c.out)) (h3 : speedB c = false) : cutErr c day = 3 := by unfold cutErr; rw [if_neg (by simp [h]), if_neg h1, if_neg h2, if_pos h3]
theorem cutErr_src {c : Cut} {day : Int} (h : nameB c.reel = true) (h1 : ¬ c.out ≤ c.inn) (h2 : ¬ (c.inn < 0 ∨ day ≤ c.out)) (h3 : speedB c = true) (h4 : c.src < 0 ∨ day ≤ c.src ∨ day ≤ srcAt c (c.out - 1)) : cutErr c day = 2 := by unfold cutErr; rw [if_neg (by simp [h]), if_neg h1, if_neg h2, if_neg (by simp [h3]), if_pos h4]
theorem cutErr_ok {c : Cut} {day : Int} (h : nameB c.reel = true) (h1 : ¬ c.out ≤ c.inn) (h2 : ¬ (c.inn < 0 ∨ day ≤ c.out)) (h3 : speedB c = true) (h4 : ¬ (c.src < 0 ∨ day ≤ c.src ∨ day ≤ srcAt c (c.out - 1))) : cutErr c day = 0 := by unfold cutErr; rw [if_neg (by simp [h]), if_neg h1, if_neg h2, if_neg (by simp [h3]), if_neg h4]
theorem speedB_bad {c : Cut} (h : ratioB c.n c.d = true) (h2 : c.n < 0 ∨ 8 < c.n ∨ 8 < c.d) : speedB c = false := by unfold speedB; rw [h, decide_eq_false (by omega)]; rfl
theorem speedB_ratio {c : Cut} (h : ratioB c.n c.d = false) : speedB c = false := by unfold speedB; rw [h]; rfl
theorem speedB_ok {c : Cut} (h : ratioB c.n c.d = true) (h1 : 0 ≤ c.n) (h2 : c.n ≤ 8) (h3 : c.d ≤ 8) : speedB c = true := by unfold speedB; rw [h, decide_eq_true ⟨h1, h2, h3⟩]; rfl
theorem size_cut : (Tryd.prog.info? 52).map (·.size) = some 7 := by kernel_rfl
set_option maxRecDepth 100000 in
set_option maxHeartbeats 4000000 in
theorem checkCut_any (c : Cut) (day : Int) (w : World) (hf : c.Fits) (hd9 : day ≤ 5184000) :
    Calls Tryd.prog 21 #[.agg c.cells, .int .i64 day] w fun e w' => e = .returned (.int .i64 (cutErr c day)) ∧ Ext w w' := by
  obtain ⟨num, rl, src, inn, out, n, d⟩ := c
  obtain ⟨f1, f2, f3, f4, f5, f6, f7⟩ := hf
  unfold I64 at *
  dsimp only at *
  have HX := Lib.hid ((Ext.refl w).alloc (.cells #[.int .i64 num, .string rl, .int .i64 src, .int .i64 inn, .int .i64 out, .int .i64 n, .int .i64 d] 52))
  have HB := Lib.hid (Blk.new w 52 #[.int .i64 num, .string rl, .int .i64 src, .int .i64 inn, .int .i64 out, .int .i64 n, .int .i64 d])
  have HNm := Lib.hid (@cutErr_name ⟨num, rl, src, inn, out, n, d⟩ day)
  have HSp := Lib.hid (@cutErr_span ⟨num, rl, src, inn, out, n, d⟩ day)
  have HDy := Lib.hid (@cutErr_day ⟨num, rl, src, inn, out, n, d⟩ day)
  have HSd := Lib.hid (@cutErr_speed ⟨num, rl, src, inn, out, n, d⟩ day)
  have HSr := Lib.hid (@cutErr_src ⟨num, rl, src, inn, out, n, d⟩ day)
  have HOk := Lib.hid (@cutErr_ok ⟨num, rl, src, inn, out, n, d⟩ day)
  have HBd := Lib.hid (@speedB_bad ⟨num, rl, src, inn, out, n, d⟩)
  have HRt := Lib.hid (@speedB_ratio ⟨num, rl, src, inn, out, n, d⟩)
  have HSo := Lib.hid (@speedB_ok ⟨num, rl, src, inn, out, n, d⟩)
  dsimp only at HNm HSp HDy HSd HSr HOk HBd HRt HSo
  unfold Cut.cells
  dsimp only
  go_enter Tryd.func21, Tryd.ntmps21
  go_wp2_with fail
  refine (Name_any rl _ (by omega)).mono ?_
  rintro e w1 ⟨rfl, rfl⟩
  have HB1 := HB
  cases hnm : nameB rl
  · have HN := Lib.hid hnm
    clear hnm
    go_wp2_with fail
    go_ret
    exact ⟨ret_int (by rw [HNm.out HN.out]), HX.out⟩
  have HN := Lib.hid hnm
  clear hnm
  by_cases h1 : out ≤ inn
  · skip
    go_wp2_with fail
    go_ret
    exact ⟨ret_int (by rw [HSp.out HN.out h1]), HX.out⟩
  by_cases h2 : inn < 0
  · skip
    go_wp2_with fail
    go_ret
    exact ⟨ret_int (by rw [HDy.out HN.out h1 (.inl h2)]), HX.out⟩
  by_cases h3 : day ≤ out
  · skip
    go_wp2_with fail
    go_ret
    exact ⟨ret_int (by rw [HDy.out HN.out h1 (.inr h3)]), HX.out⟩
  have HD2 : Hid (¬ (inn < 0 ∨ day ≤ out)) := by show ¬ _; omega
  have h1n : ¬ out ≤ inn := h1
  have HO1 := Lib.hid h1n
  go_wp2_with fail
  refine (RatValid_any n d _).mono ?_
  rintro e w2 ⟨rfl, hx2⟩
  have HX2 := Lib.hid (HX.out.trans hx2)
  have HB2 := Lib.hid (HB1.out.ext hx2)
  have hcell := fun o => HB2.out.cell o
  cases hrt : ratioB n d
  · have HR := Lib.hid hrt
    clear hrt
    go_wp2_with fail
    go_ret
    exact ⟨ret_int (by rw [HSd.out HN.out HO1.out HD2.out (HRt.out HR.out)]), HX2.out⟩
  have HR := Lib.hid hrt
  clear hrt
  by_cases h4 : n < 0
  · skip
    go_wp2_with fail
    go_ret
    exact ⟨ret_int (by rw [HSd.out HN.out HO1.out HD2.out (HBd.out HR.out (.inl h4))]), HX2.out⟩
  by_cases h5 : 8 < n
  · skip
    go_wp2_with fail
    go_ret
    exact ⟨ret_int (by rw [HSd.out HN.out HO1.out HD2.out (HBd.out HR.out (.inr (.inl h5)))]), HX2.out⟩
  by_cases h6 : 8 < d
  · skip
    go_wp2_with fail
    go_ret
    exact ⟨ret_int (by rw [HSd.out HN.out HO1.out HD2.out (HBd.out HR.out (.inr (.inr h6)))]), HX2.out⟩
  have HSO := Lib.hid (HSo.out HR.out (by omega) (by omega) (by omega))
  have HTr := speedB_true HSO.out
  dsimp only at HTr
  obtain ⟨t1, t2, t3, t4⟩ := HTr
  by_cases h7 : src < 0
  · skip
    go_wp2_with fail
    go_ret
    exact ⟨ret_int (by rw [HSr.out HN.out HO1.out HD2.out HSO.out (.inl h7)]), HX2.out⟩
  by_cases h8 : day ≤ src
  · skip
    go_wp2_with fail
    go_ret
    exact ⟨ret_int (by rw [HSr.out HN.out HO1.out HD2.out HSO.out (.inr (.inl h8))]), HX2.out⟩
  go_wp2_with (refine wpList_loadB rfl 52 (.tmp 2) rfl w.heap.size 52 _ _ (by exact rfl) (by exact HB2.out) Tryd.underlying52 rfl (by exact size_cut) ?_)
  refine (last_any ⟨num, rl, src, inn, out, n, d⟩ _ (by refine ⟨?_, ?_, ?_, ?_, ?_, ?_, ?_, ?_, ?_⟩ <;> dsimp only <;> omega)).mono ?_
  rintro e w3 ⟨rfl, hx3⟩
  by_cases h9 : day ≤ srcAt ⟨num, rl, src, inn, out, n, d⟩ (out - 1)
  · skip
    go_wp2_with fail
    go_ret
    exact ⟨ret_int (by rw [HSr.out HN.out HO1.out HD2.out HSO.out (.inr (.inr h9))]), HX2.out.trans hx3⟩
  have HE : Hid (¬ (src < 0 ∨ day ≤ src ∨ day ≤ srcAt ⟨num, rl, src, inn, out, n, d⟩ (out - 1))) := by show ¬ _; omega
  go_wp2_with fail
  go_ret
  exact ⟨ret_int (by rw [HOk.out HN.out HO1.out HD2.out HSO.out HE.out]), HX2.out.trans hx3⟩
/-- the first error of a cut behind a number -/
def singleErr (c : Cut) (last day : Int) : Int := if c.num < 1 ∨ 999 < c.num then 2 else if c.num ≤ last then 8 else cutErr c day
end Go.Proofs.YtablhmobekmflaaDoor

/-! Rate -/
namespace Go.Proofs.YtablhmobekmflaaDoor
set_option linter.unusedVariables false
set_option linter.unusedSimpArgs false
open Go.RowKit
/-- what a rate is: ticks, nominal frames, drop -/
def rTicks (r : Int) : Int := if r = 1 then 5005 else if r = 2 then 5000 else if r = 3 then 4800 else if r = 4 then 4004 else if r = 5 then 4000 else if r = 6 then 2400 else if r = 7 then 2002 else 0
def rNom (r : Int) : Int := if r = 1 then 24 else if r = 2 then 24 else if r = 3 then 25 else if r = 4 then 30 else if r = 5 then 30 else if r = 6 then 50 else if r = 7 then 60 else 0
def rDrop (r : Int) : Bool := decide (r = 4 ∨ r = 7)
def rName (r : Int) : ByteArray := if r = 1 then ⟨#[50, 51, 46, 57, 55, 54]⟩ else if r = 2 then ⟨#[50, 52]⟩ else if r = 3 then ⟨#[50, 53]⟩ else if r = 4 then ⟨#[50, 57, 46, 57, 55]⟩ else if r = 5 then ⟨#[51, 48]⟩ else if r = 6 then ⟨#[53, 48]⟩ else if r = 7 then ⟨#[53, 57, 46, 57, 52]⟩ else ⟨#[]⟩
def rOk (r : Int) : Bool := decide (1 ≤ r ∧ r ≤ 7)
def rateVal (r : Int) : Value := .agg #[.string (rName r), .int .i64 (rTicks r), .int .i64 (rNom r), .bool (rDrop r)]
theorem rate_cases {r : Int} (h0 : 0 ≤ r) : (r = 0 ∨ r = 1 ∨ r = 2 ∨ r = 3 ∨ r = 4 ∨ r = 5 ∨ r = 6 ∨ r = 7) ∨ 8 ≤ r := by omega
theorem rateVal_big {r : Int} (h : 8 ≤ r) : rateVal r = .agg #[.string ⟨#[]⟩, .int .i64 0, .int .i64 0, .bool false] := by
  unfold rateVal rName rTicks rNom rDrop
  simp only [show ¬ r = 1 by omega, show ¬ r = 2 by omega, show ¬ r = 3 by omega, show ¬ r = 4 by omega, show ¬ r = 5 by omega, show ¬ r = 6 by omega, show ¬ r = 7 by omega, if_false, or_self]
  rfl
def rateTab : Array Value := #[.string ⟨#[]⟩, .int .i64 0, .int .i64 0, .bool false, .string ⟨#[50, 51, 46, 57, 55, 54]⟩, .int .i64 5005, .int .i64 24, .bool false, .string ⟨#[50, 52]⟩, .int .i64 5000, .int .i64 24, .bool false,
  .string ⟨#[50, 53]⟩, .int .i64 4800, .int .i64 25, .bool false, .string ⟨#[50, 57, 46, 57, 55]⟩, .int .i64 4004, .int .i64 30, .bool true, .string ⟨#[51, 48]⟩, .int .i64 4000, .int .i64 30, .bool false,
  .string ⟨#[53, 48]⟩, .int .i64 2400, .int .i64 50, .bool false, .string ⟨#[53, 57, 46, 57, 52]⟩, .int .i64 2002, .int .i64 60, .bool true]
def rateZero : Array Value := #[.string ⟨#[]⟩, .int .i64 0, .int .i64 0, .bool false]
theorem size_tab : (Tryd.prog.info? 101).map (·.size) = some 32 := by kernel_rfl
theorem size_rate : (Tryd.prog.info? 76).map (·.size) = some 4 := by kernel_rfl
/-- the cells of one of the eight -/
theorem tab_at (r : Int) (h0 : 0 ≤ r) (h7 : r ≤ 7) : ∀ j v, [Value.string (rName r), .int .i64 (rTicks r), .int .i64 (rNom r), .bool (rDrop r)][j]? = some v → rateTab[r.toNat * 4 + j]? = some v := by
  have : r = 0 ∨ r = 1 ∨ r = 2 ∨ r = 3 ∨ r = 4 ∨ r = 5 ∨ r = 6 ∨ r = 7 := by omega
  rcases this with rfl | rfl | rfl | rfl | rfl | rfl | rfl | rfl
  all_goals
    intro j v
    match j with
    | 0 => exact id
    | 1 => exact id
    | 2 => exact id
    | 3 => exact id
    | j + 4 => intro h; simp at h
set_option maxRecDepth 100000 in
set_option maxHeartbeats 2000000 in
theorem of_any (r : Int) (w : World) (h0 : 0 ≤ r) (h1 : r ≤ 255) : Calls Tryd.prog 31 #[.int .u8 r] w fun e w' => e = .returned (rateVal r) ∧ Ext w w' := by
  have HT := Lib.hid (tab_at r h0)
  have HB := Lib.hid (@rateVal_big r)
  go_enter Tryd.func31, Tryd.ntmps31
  go_upto_region 1 with fail
  go_cut [3] (fun s3 wr => s3 = Value.pointer (some ⟨w.heap.size + 1, 0, none⟩) ∧ Ext w wr ∧ Blk wr w.heap.size 76 rateZero ∧ Blk wr (w.heap.size + 1) 101 rateTab)
  case first =>
    go_wp2_with (refine wpList_storeB rfl 101 (.tmp 3) (.tmp 12) rfl (w.heap.size + 1) 101 _ _ (by exact rfl) (by exact rfl) (by exact Blk.new' (by simp)) (by exact rfl) (by exact size_tab) (by simp [Value.oneCell']) ?_)
    go_meet
    case rel => exact ⟨rfl, Ext.put (((Ext.refl w).alloc _).alloc _) (by omega) _ _, ((Blk.new w _ _).alloc _).put_other (by omega) _, (Blk.new' (by simp)).put _⟩
  case rest =>
  obtain ⟨rfl, hx2, hB0, hB1⟩ := hcut
  have HX := Lib.hid hx2
  have HB0 := Lib.hid hB0
  have HB1 := Lib.hid hB1
  clear hx2 hB0 hB1
  by_cases h8 : 8 ≤ r
  · go_wp2_with (refine wpList_storeB rfl 76 (.tmp 2) (.tmp 16) rfl w.heap.size 76 _ _ (by exact rfl) (by exact rfl) (by exact HB0.out) (by exact rfl) (by exact size_rate) (by simp [Value.oneCell']) ?_)
    refine bodyPost_ret (v := rateVal r) ?_ rfl ⟨rfl, ?_⟩
    · rw [HB.out h8]
      exact results_B (P := Tryd.prog) Tryd.results31 (g := w.heap.size) rfl (by exact HB0.out.put _) Tryd.underlying76 rfl size_rate
    · exact HX.out.put (Nat.le_refl _) _ _
  · have h7 : r ≤ 7 := by omega
    have HT7 := Lib.hid (HT.out h7)
    have hr8 : r < 8 := by omega
    clear HT h8
    go_wp2_with (first | (refine wpList_load_mid rfl 76 (.tmp 18) rfl (w.heap.size + 1) (r.toNat * 4) (by first | exact rfl | (simp; done)) [.string (rName r), .int .i64 (rTicks r), .int .i64 (rNom r), .bool (rDrop r)] _ (fun j v hv => by rw [HB1.out.cell]; exact HT7.out j v hv) Tryd.underlying76 rfl (by exact size_rate) ?_) | (refine wpList_storeB rfl 76 (.tmp 2) (.tmp 19) rfl w.heap.size 76 _ _ (by exact rfl) (by exact rfl) (by exact HB0.out) (by exact rfl) (by exact size_rate) (by simp [Value.oneCell']) ?_))
    refine bodyPost_ret (v := rateVal r) ?_ rfl ⟨rfl, ?_⟩
    · exact results_B (P := Tryd.prog) Tryd.results31 (g := w.heap.size) rfl (by exact HB0.out.put _) Tryd.underlying76 rfl size_rate
    · exact HX.out.put (Nat.le_refl _) _ _
end Go.Proofs.YtablhmobekmflaaDoor

/-! RateB -/
namespace Go.Proofs.YtablhmobekmflaaDoor
set_option linter.unusedVariables false
set_option linter.unusedSimpArgs false
open Go.RowKit
theorem rNom_bd (r : Int) : 0 ≤ rNom r ∧ rNom r ≤ 60 := by unfold rNom; repeat' split <;> omega
theorem rOk_ticks (r : Int) (h0 : 0 ≤ r) : decide (0 < rTicks r) = rOk r := by
  rcases rate_cases h0 with (rfl | rfl | rfl | rfl | rfl | rfl | rfl | rfl) | h8
  all_goals first | rfl | skip
  unfold rOk rTicks
  simp only [show ¬ r = 1 by omega, show ¬ r = 2 by omega, show ¬ r = 3 by omega, show ¬ r = 4 by omega, show ¬ r = 5 by omega, show ¬ r = 6 by omega, show ¬ r = 7 by omega, if_false]
  rw [decide_eq_false (by omega), decide_eq_false (by omega)]
def drops (r : Int) (d : Bool) : Int := if d then (if r = 7 then 4 else 2) else 0
/-- may labels be of a rate, drop-frame or not? -/
def rateOkB (r : Int) (d : Bool) : Bool := rOk r && (!d || rDrop r)
def dayOf (r : Int) (d : Bool) : Int := if rateOkB r d = true then 86400 * rNom r - 1296 * drops r d else 0
def rateErr (r : Int) (d : Bool) : Int := if rOk r = true then (if d && !rDrop r then 13 else 0) else 3
theorem drops_bd (r : Int) (d : Bool) : 0 ≤ drops r d ∧ drops r d ≤ 4 := by unfold drops; repeat' split <;> omega
theorem rateErr_zero (r : Int) (d : Bool) : (rateErr r d != 0) = !rateOkB r d := by
  unfold rateErr rateOkB
  cases rOk r <;> cases d <;> cases rDrop r <;> rfl
set_option maxRecDepth 100000 in
set_option maxHeartbeats 400000 in
theorem TBValid_any (r : Int) (w : World) (h0 : 0 ≤ r) (h1 : r ≤ 255) : Calls Tryd.prog 18 #[.int .u8 r] w fun e w' => e = .returned (.bool (rOk r)) ∧ Ext w w' := by
  have HO := Lib.hid (rOk_ticks r h0)
  have hfd : ∀ w : World, (Instr.field 76 (.agg #[.string (rName r), .int .i64 (rTicks r), .int .i64 (rNom r), .bool (rDrop r)]) 1).run Tryd.prog w = .ok (.int .i64 (rTicks r)) w := fun _ => by kernel_rfl
  go_enter Tryd.func18, Tryd.ntmps18
  go_wp2_with fail
  refine (of_any r _ h0 h1).mono ?_
  rintro e w1 ⟨rfl, hx⟩
  unfold rateVal
  go_wp2_with fail
  go_ret
  exact ⟨ret_bool HO.out, hx⟩
set_option maxRecDepth 100000 in
set_option maxHeartbeats 400000 in
theorem CanDrop_any (r : Int) (w : World) (h0 : 0 ≤ r) (h1 : r ≤ 255) : Calls Tryd.prog 19 #[.int .u8 r] w fun e w' => e = .returned (.bool (rDrop r)) ∧ Ext w w' := by
  have hfd : ∀ w : World, (Instr.field 76 (.agg #[.string (rName r), .int .i64 (rTicks r), .int .i64 (rNom r), .bool (rDrop r)]) 3).run Tryd.prog w = .ok (.bool (rDrop r)) w := fun _ => by kernel_rfl
  go_enter Tryd.func19, Tryd.ntmps19
  go_wp2_with fail
  refine (of_any r _ h0 h1).mono ?_
  rintro e w1 ⟨rfl, hx⟩
  unfold rateVal
  go_wp2_with fail
  go_ret
  exact ⟨rfl, hx⟩
set_option maxRecDepth 100000 in
set_option maxHeartbeats 400000 in
theorem Nominal_any (r : Int) (w : World) (h0 : 0 ≤ r) (h1 : r ≤ 255) : Calls Tryd.prog 33 #[.int .u8 r] w fun e w' => e = .returned (.int .i64 (rNom r)) ∧ Ext w w' := by
  have hfd : ∀ w : World, (Instr.field 76 (.agg #[.string (rName r), .int .i64 (rTicks r), .int .i64 (rNom r), .bool (rDrop r)]) 2).run Tryd.prog w = .ok (.int .i64 (rNom r)) w := fun _ => by kernel_rfl
  go_enter Tryd.func33, Tryd.ntmps33
  go_wp2_with fail
  refine (of_any r _ h0 h1).mono ?_
  rintro e w1 ⟨rfl, hx⟩
  unfold rateVal
  go_wp2_with fail
  go_ret
  exact ⟨rfl, hx⟩
set_option maxRecDepth 100000 in
set_option maxHeartbeats 400000 in
theorem rateError_any (r : Int) (d : Bool) (w : World) (h0 : 0 ≤ r) (h1 : r ≤ 255) : Calls Tryd.prog 32 #[.int .u8 r, .bool d] w fun e w' => e = .returned (.int .i64 (rateErr r d)) ∧ Ext w w' := by
  cases ho : rOk r
  · have HF : Hid (rateErr r d = 3) := by show _ = _; unfold rateErr; rw [ho]; rfl
    have HO := Lib.hid ho
    clear ho
    go_enter Tryd.func32, Tryd.ntmps32
    go_wp2_with fail
    refine (TBValid_any r _ h0 h1).mono ?_
    rintro e w1 ⟨rfl, hx⟩
    rw [HO.out]
    go_wp2_with fail
    go_ret
    exact ⟨ret_int HF.out.symm, hx⟩
  · have HO := Lib.hid ho
    have HF : Hid (rateErr r d = (if d && !rDrop r then 13 else 0)) := by show _ = _; unfold rateErr; rw [ho]; rfl
    clear ho
    cases d
    · go_enter Tryd.func32, Tryd.ntmps32
      go_wp2_with fail
      refine (TBValid_any r _ h0 h1).mono ?_
      rintro e w1 ⟨rfl, hx⟩
      rw [HO.out]
      go_wp2_with fail
      go_ret
      exact ⟨ret_int HF.out.symm, hx⟩
    · go_enter Tryd.func32, Tryd.ntmps32
      go_wp2_with fail
      refine (TBValid_any r _ h0 h1).mono ?_
      rintro e w1 ⟨rfl, hx⟩
      rw [HO.out]
      go_wp2_with fail
      refine (CanDrop_any r _ h0 h1).mono ?_
      rintro e w2 ⟨rfl, hx2⟩
      cases hd : rDrop r
      · have HD := Lib.hid hd
        clear hd
        go_wp2_with fail
        go_ret
        exact ⟨ret_int (by rw [HF.out, HD.out]; rfl), hx.trans hx2⟩
      · have HD := Lib.hid hd
        clear hd
        go_wp2_with fail
        go_ret
        exact ⟨ret_int (by rw [HF.out, HD.out]; rfl), hx.trans hx2⟩
theorem dropped_any (r : Int) (d : Bool) (w : World) : Calls Tryd.prog 34 #[.int .u8 r, .bool d] w fun e w' => e = .returned (.int .i64 (drops r d)) ∧ w = w' := by
  cases d
  · go_enter Tryd.func34, Tryd.ntmps34
    go_wp2
    go_ret
    exact ⟨rfl, rfl⟩
  · by_cases h : r = 7
    · subst h
      go_enter Tryd.func34, Tryd.ntmps34
      go_wp2
      go_ret
      exact ⟨rfl, rfl⟩
    · have h' : (r == 7) = false := by simpa using h
      have HF : Hid (drops r true = 2) := by show _ = _; unfold drops; rw [if_pos rfl, if_neg h]
      go_enter Tryd.func34, Tryd.ntmps34
      go_wp2
      go_ret
      exact ⟨ret_int HF.out.symm, rfl⟩
set_option maxHeartbeats 1000000 in
theorem Day_any (r : Int) (d : Bool) (w : World) (h0 : 0 ≤ r) (h1 : r ≤ 255) : Calls Tryd.prog 20 #[.int .u8 r, .bool d] w fun e w' => e = .returned (.int .i64 (dayOf r d)) ∧ Ext w w' := by
  have HE := Lib.hid (rateErr_zero r d)
  cases ho : rateOkB r d
  · have HF : Hid (dayOf r d = 0) := by show _ = _; unfold dayOf; rw [ho]; rfl
    have HO := Lib.hid ho
    clear ho
    go_enter Tryd.func20, Tryd.ntmps20
    go_wp2_with fail
    refine (rateError_any r d _ h0 h1).mono ?_
    rintro e w1 ⟨rfl, hx⟩
    have hne : (rateErr r d != 0) = true := by rw [HE.out, HO.out]; rfl
    go_wp2_with fail
    go_ret
    exact ⟨ret_int HF.out.symm, hx⟩
  · have HF : Hid (dayOf r d = 86400 * rNom r - 1296 * drops r d) := by show _ = _; unfold dayOf; rw [ho]; rfl
    have HO := Lib.hid ho
    clear ho
    have hn := rNom_bd r
    have hd := drops_bd r d
    go_enter Tryd.func20, Tryd.ntmps20
    go_wp2_with fail
    refine (rateError_any r d _ h0 h1).mono ?_
    rintro e w1 ⟨rfl, hx⟩
    have hne : (rateErr r d != 0) = false := by rw [HE.out, HO.out]; rfl
    go_wp2_with fail
    refine (Nominal_any r _ h0 h1).mono ?_
    rintro e w2 ⟨rfl, hx2⟩
    go_wp2_with fail
    refine (dropped_any r d _).mono ?_
    rintro e w3 ⟨rfl, rfl⟩
    go_wp2_with fail
    go_ret
    exact ⟨ret_int HF.out.symm, hx.trans hx2⟩
theorem dayOf_bd (r : Int) (d : Bool) : dayOf r d ≤ 5184000 := by
  unfold dayOf
  have := rNom_bd r
  have := drops_bd r d
  split <;> omega
end Go.Proofs.YtablhmobekmflaaDoor

/-! ReelsP -/
namespace Go.Proofs.YtablhmobekmflaaDoor
set_option linter.unusedVariables false
set_option linter.unusedSimpArgs false
abbrev Bs := List UInt8
def srt (ss : List Bs) : List Bs := ss.mergeSort fun x y => decide (x ≤ y)
/-- the number of different names -/
def cnt (ss : List Bs) : Nat := (Lib.compact (srt ss)).length
theorem Bs.lt_trans {a b c : Bs} (h1 : a < b) (h2 : b < c) : a < c := List.lt_trans h1 h2
theorem Bs.lt_irrefl (a : Bs) : ¬ a < a := List.lt_irrefl a
theorem Bs.le_of_lt {a b : Bs} (h : a < b) : a ≤ b := List.le_of_lt h
theorem Bs.lt_of_le_of_ne {a b : Bs} (h : a ≤ b) (hne : a ≠ b) : a < b := by
  rcases Classical.em (a < b) with h1 | h1
  · exact h1
  · exact absurd (List.le_antisymm h (List.not_lt.1 h1)) hne
theorem Bs.lt_of_le_of_lt {a b c : Bs} (h : a ≤ b) (h2 : b < c) : a < c := by
  rcases Classical.em (a = b) with h1 | h1
  · rw [h1]; exact h2
  · exact Bs.lt_trans (Bs.lt_of_le_of_ne h h1) h2
theorem Bs.le_refl (a : Bs) : a ≤ a := List.le_refl a
theorem Bs.le_trans {a b c : Bs} (h : a ≤ b) (h2 : b ≤ c) : a ≤ c := List.le_trans h h2
theorem srt_sorted (ss : List Bs) : (srt ss).Pairwise (· ≤ ·) := by
  have := List.pairwise_mergeSort (le := fun x y : Bs => decide (x ≤ y)) (fun a b c h1 h2 => by simp only [decide_eq_true_eq] at *; exact Bs.le_trans h1 h2) (fun a b => by simp only [Bool.or_eq_true, decide_eq_true_eq]; exact List.le_total a b) ss
  exact this.imp (fun h => by simpa using h)
theorem mem_srt (ss : List Bs) (x : Bs) : x ∈ srt ss ↔ x ∈ ss := List.mem_mergeSort
theorem compact_step (zs : List Bs) (hs : zs.Pairwise (· ≤ ·)) : ∀ m, m ≤ zs.length → (Lib.compactUpTo zs.toArray m).Pairwise (· < ·) ∧ ∀ x, x ∈ Lib.compactUpTo zs.toArray m ↔ ∃ j, j < m ∧ zs[j]? = some x
  | 0, _ => ⟨by simp [Lib.compactUpTo], fun x => by simp [Lib.compactUpTo]⟩
  | m + 1, hm => by
    obtain ⟨h1, h2⟩ := compact_step zs hs m (by omega)
    have hlt : m < zs.length := by omega
    have hget : zs.toArray[m]! = zs[m] := by simp [hlt]
    rw [Lib.compactUpTo_succ]
    by_cases hk : Lib.keeps zs.toArray m = true
    · rw [if_pos hk, hget]
      refine ⟨?_, fun x => ?_⟩
      · rw [List.pairwise_append]
        refine ⟨h1, by simp, fun a ha b hb => ?_⟩
        simp only [List.mem_singleton] at hb
        subst hb
        obtain ⟨j, hj, hja⟩ := (h2 a).1 ha
        have hm0 : m ≠ 0 := by omega
        have hne : zs[m] ≠ zs[m - 1] := by
          have := hk
          simp [Lib.keeps, hm0, hlt, show m - 1 < zs.length by omega] at this
          exact this
        have hjl : j < zs.length := by omega
        have hja' : zs[j] = a := by rw [List.getElem?_eq_getElem hjl] at hja; exact Option.some.inj hja
        have hpw := List.pairwise_iff_getElem.1 hs
        have h3 : a ≤ zs[m - 1] := by
          rw [← hja']
          rcases Nat.lt_or_ge j (m - 1) with h | h
          · exact hpw j (m - 1) hjl (by omega) h
          · have : j = m - 1 := by omega
            subst this; exact Bs.le_refl _
        exact Bs.lt_of_le_of_lt h3 (Bs.lt_of_le_of_ne (hpw (m - 1) m (by omega) hlt (by omega)) (fun e => hne e.symm))
      · rw [List.mem_append, h2, List.mem_singleton]
        constructor
        · rintro (⟨j, hj, hx⟩ | rfl)
          · exact ⟨j, by omega, hx⟩
          · exact ⟨m, by omega, List.getElem?_eq_getElem hlt⟩
        · rintro ⟨j, hj, hx⟩
          by_cases hjm : j = m
          · subst hjm
            right
            rw [List.getElem?_eq_getElem hlt] at hx
            exact (Option.some.inj hx).symm
          · exact .inl ⟨j, by omega, hx⟩
    · rw [if_neg hk, List.append_nil]
      refine ⟨h1, fun x => ?_⟩
      rw [h2]
      constructor
      · rintro ⟨j, hj, hx⟩
        exact ⟨j, by omega, hx⟩
      · rintro ⟨j, hj, hx⟩
        by_cases hjm : j = m
        · subst hjm
          have hm0 : j ≠ 0 := by
            rintro rfl
            exact hk (by simp [Lib.keeps])
          have he : zs[j] = zs[j - 1] := by
            have := hk
            simp [Lib.keeps, hm0, hlt, show j - 1 < zs.length by omega] at this
            exact this
          refine ⟨j - 1, by omega, ?_⟩
          rw [List.getElem?_eq_getElem (by omega), ← he]
          rw [List.getElem?_eq_getElem hlt] at hx
          exact hx
        · exact ⟨j, by omega, hx⟩
theorem compact_mem (zs : List Bs) (hs : zs.Pairwise (· ≤ ·)) : (Lib.compact zs).Pairwise (· < ·) ∧ ∀ x, x ∈ Lib.compact zs ↔ x ∈ zs := by
  obtain ⟨h1, h2⟩ := compact_step zs hs zs.length (Nat.le_refl _)
  refine ⟨h1, fun x => ?_⟩
  unfold Lib.compact
  rw [h2, List.mem_iff_getElem?]
  constructor
  · rintro ⟨j, _, h⟩; exact ⟨j, h⟩
  · rintro ⟨j, h⟩; exact ⟨j, (List.getElem?_eq_some_iff.1 h).1, h⟩
theorem nodup_of_lt {l : List Bs} (h : l.Pairwise (· < ·)) : l.Nodup := by
  unfold List.Nodup
  exact h.imp (fun {a b} hab e => by subst e; exact Bs.lt_irrefl _ hab)
theorem nodup_len {a b : List Bs} (ha : a.Nodup) (hb : b.Nodup) (h : ∀ x, x ∈ a ↔ x ∈ b) : a.length = b.length := by
  apply List.Perm.length_eq
  rw [List.perm_iff_count]
  intro x
  rw [ha.count, hb.count]
  simp only [h x]
theorem cnt_eq {ss l : List Bs} (hl : l.Pairwise (· < ·)) (h : ∀ x, x ∈ l ↔ x ∈ ss) : l.length = cnt ss := by
  obtain ⟨h1, h2⟩ := compact_mem (srt ss) (srt_sorted ss)
  exact nodup_len (nodup_of_lt hl) (nodup_of_lt h1) (fun x => by rw [h, h2, mem_srt])
theorem cnt_nil : cnt [] = 0 := by unfold cnt srt; simp [Lib.compact, Lib.compactUpTo]
end Go.Proofs.YtablhmobekmflaaDoor
