/- Laid together: A drawn region whose operations with effects stand in a chain, and that makes variables besides, at whatever time. What stores into rows of one type leave as it is; a variable made and filled in a drawn region; a map from numbers to numbers. The walks of ratio.known, size, away and Quotient at numbers that are not negative. Frames in another rate, plainly. Drifts and the worst of them, plainly. Documents in another rate, plainly. -/
import Derived.Test.YtbfaghgjbipilaaDoorPk09
import Derived.Test.YtbfaghgjbipilaaDoorPk05
import Derived.Test.YtbfaghgjbipilaaDoorPk04
import Derived.Test.YtbfaghgjbipilaaDoorPk01

/-! Allocs -/
namespace Go.Proofs.YtbfaghgjbipilaaDoor
set_option linter.unusedVariables false
set_option linter.unusedSimpArgs false
open Go.RowKit

def valA (chain al : List Nat) (pv us : List Value) (gs : Nat → Option Nat) (j : Nat) : Value :=
  match chain.idxOf? j with
  | some i => us.getD i undef
  | none => if al.contains j then .pointer ((gs j).map fun g => ⟨g, 0, none⟩) else pv.getD j undef
def upd (gs : Nat → Option Nat) (j g : Nat) : Nat → Option Nat := fun k => if k = j then some g else gs k
theorem upd_self (gs : Nat → Option Nat) (j g : Nat) : upd gs j g j = some g := by simp [upd]
theorem upd_other (gs : Nat → Option Nat) {j k : Nat} (h : k ≠ j) (g : Nat) : upd gs j g k = gs k := by simp [upd, h]

def AlInv (ops : Array Oper) (chain al : List Nat) (pv : List Value) (a0 : Act) (J : List Value → (Nat → Option Nat) → World → Prop) (l : Array Bool) (a : Act) (w : World) : Prop :=
  l.size = ops.size ∧ a.defers = a0.defers ∧ a.tmps.size = a0.tmps.size ∧ (∀ s, (∀ j, dstO ops j = some s → l.getD j false = false) → a.tmps[s]? = a0.tmps[s]?) ∧
  (∀ j o, l.getD j false = true → ops[j]? = some o → ∀ d ∈ o.after, Region.binds .any d = true → l.getD d.on false = true) ∧
  ∃ (us : List Value) (gs : Nat → Option Nat), us.length ≤ chain.length ∧ (∀ i c, chain[i]? = some c → (l.getD c false = true ↔ i < us.length)) ∧ (∀ j, al.contains j = true → (l.getD j false = true ↔ (gs j).isSome = true)) ∧
    (∀ j s, l.getD j false = true → dstO ops j = some s → a.tmps[s]? = some (valA chain al pv us gs j)) ∧ J us gs w

/-- what an operation finds in the frame, by the region's tables -/
structure SeesA (slots : List (Option Nat)) (deps : List (List Nat)) (chain al : List Nat) (pv us : List Value) (gs : Nat → Option Nat) (a0 a : Act) (i : Nat) : Prop where
  old : ∀ (s : Nat) (v : Value), slots.contains (some s) = false → a0.eval (.tmp s) = v → a.eval (.tmp s) = v
  pure : ∀ (j s : Nat) (v : Value), (deps.getD i []).contains j = true → slots[j]? = some (some s) → chain.contains j = false → al.contains j = false → pv[j]? = some v → a.eval (.tmp s) = v
  link : ∀ (p j s : Nat) (v : Value), chain[p]? = some j → (deps.getD i []).contains j = true → slots[j]? = some (some s) → us[p]? = some v → a.eval (.tmp s) = v
  ptr : ∀ (j s : Nat), (deps.getD i []).contains j = true → slots[j]? = some (some s) → chain.contains j = false → al.contains j = true → ∃ g, gs j = some g ∧ a.eval (.tmp s) = .pointer (some ⟨g, 0, none⟩)
  made : ∀ (j : Nat), (deps.getD i []).contains j = true → al.contains j = true → (gs j).isSome = true
  did : ∀ (p j : Nat), chain[p]? = some j → (deps.getD i []).contains j = true → p < us.length
  olds : ∀ (p j s : Nat) (v : Value), chain[p]? = some j → slots[j]? = some (some s) → us.length ≤ p → a0.eval (.tmp s) = v → a.eval (.tmp s) = v

def frameA (ops : Array Oper) (chain al : List Nat) (pv us : List Value) (gs : Nat → Option Nat) : List (Nat × Value) := (List.range ops.size).filterMap fun j => (dstO ops j).map fun s => (s, valA chain al pv us gs j)

theorem wp_region_allocs {P : Program} {ops : Array Oper} {Q : Exit → Act → World → Prop} {id : Nat} {a0 : Act} {W : World} (slots : List (Option Nat)) (deps : List (List Nat)) (chain al : List Nat) (pv : List Value) (obj : Nat → Obj) (J : List Value → (Nat → Option Nat) → World → Prop) (hm : P.follows .mixedOrders = true) (hdst : dstOK2 ops a0.tmps.size = true) (hord : ordB 0 ops.toList = true)
    (hs : ops.toList.map (·.dst) = slots) (hd : ops.toList.map depsOf = deps) (hg : ops.toList.all (fun o => o.guard.isNone) = true) (hch : chainB ops chain = true) (hnd : chain.Nodup) (hal : (al.all fun j => decide (j < ops.size) && !chain.contains j) = true) (h0 : J [] (fun _ => none) W.drew)
    (halloc : ∀ (i : Nat) (o : Oper), ops[i]? = some o → al.contains i = true → ∀ (a : Act) (w : World) (K : Act → World → Prop), K (a.put o.dst (.pointer (some ⟨w.heap.size, 0, none⟩))) (w.alloc (obj i)) → Oper.wp P o a w K Q)
    (hJal : ∀ (i : Nat), al.contains i = true → ∀ us gs w, J us gs w → gs i = none → (∀ p c, chain[p]? = some c → (deps.getD c []).contains i = true → us.length ≤ p) → J us (upd gs i w.heap.size) (w.alloc (obj i)))
    (hpure : ∀ (i : Nat) (o : Oper), ops[i]? = some o → chain.contains i = false → al.contains i = false → ∀ (a : Act) (w : World) (us : List Value) (gs : Nat → Option Nat) (K : Act → World → Prop), J us gs w → SeesA slots deps chain al pv us gs a0 a i → (∀ p c, chain[p]? = some c → (deps.getD c []).contains i = true → us.length ≤ p) → K (a.put o.dst (pv.getD i undef)) w → Oper.wp P o a w K Q)
    (hlink : ∀ (p c : Nat) (o : Oper), chain[p]? = some c → ops[c]? = some o → ∀ (a : Act) (w : World) (us : List Value) (gs : Nat → Option Nat) (K : Act → World → Prop), us.length = p → J us gs w → SeesA slots deps chain al pv us gs a0 a c → (∀ v w', J (us ++ [v]) gs w' → K (a.put o.dst v) w') → Oper.wp P o a w K Q)
    (hQ : ∀ us gs w, us.length = chain.length → (∀ j, al.contains j = true → (gs j).isSome = true) → J us gs w → Q .normal { a0 with tmps := (frameA ops chain al pv us gs).foldl (fun t p => t.setIfInBounds p.1 p.2) a0.tmps } w) :
    (Code.region id ops true).wp P Q a0 W := by
  have hgd : ∀ (i : Nat) (o : Oper), ops[i]? = some o → o.guard = none := fun i o ho => by
    have := List.all_eq_true.1 hg o (by simpa using Array.mem_of_getElem? ho)
    simpa using this
  have hdep : ∀ (i : Nat) (o : Oper), ops[i]? = some o → deps.getD i [] = depsOf o := fun i o ho => by
    rw [← hd, List.getD_eq_getElem?_getD, List.getElem?_map]
    have : ops.toList[i]? = some o := by simpa using ho
    rw [this]; rfl
  have hsl : ∀ j s, slots[j]? = some (some s) → dstO ops j = some s := fun j s h => by
    rw [← hs, List.getElem?_map, Option.map_eq_some_iff] at h
    obtain ⟨o', h1, h2⟩ := h
    have h1' : ops[j]? = some o' := by simpa using h1
    simp [dstO, h1', h2]
  have hallt : ∀ j, al.contains j = true → j < ops.size ∧ chain.contains j = false := fun j hj => by
    have := List.all_eq_true.1 hal j (by simpa using hj)
    simpa using this
  refine wp_region_any hm ?_
  refine wpAny_inv (AlInv ops chain al pv a0 J) (fun l a w h => h.1) ?_ (hordB hord) ?_ _ _ _ _ (by simp) ?_
  · intro l a w hI i o ho hl hall K hK
    obtain ⟨hsz0, hdf, hsz, hnot, hcl, us, gs, hul, hcu, hga, hval, hJ⟩ := hI
    have hi : i < ops.size := (Array.getElem?_eq_some_iff.1 ho).1
    have hnl := not_listed hl
    have hself : (l.setIfInBounds i true).getD i false = true := getD_set_self (by omega)
    have hdone : ∀ j, (deps.getD i []).contains j = true → l.getD j false = true := fun j hj => by
      rw [hdep i o ho] at hj
      obtain ⟨d, hd1, hd2, hd3⟩ := edge_of (edge_deps hj)
      rw [← hd3]
      exact hall d hd1 hd2
    have hfind : SeesA slots deps chain al pv us gs a0 a i := by
      refine ⟨fun s v hc hv => ?_, fun j s v he hj hc ha hv => ?_, fun p j s v hp he hj hv => ?_, fun j s he hj hc ha => ?_, fun j he ha => (hga j ha).1 (hdone j he), fun p j hp he => (hcu p j hp).1 (hdone j he), fun p j s v hp hj hl0 hv => by
        have := hnot s fun j' hj' => by
          have e : j' = j := dst_inj hdst hj' (hsl j s hj)
          subst e
          cases hx : l.getD j' false
          · rfl
          · exact absurd ((hcu p _ hp).1 hx) (by omega)
        rw [← hv]
        simp [Act.eval, this]⟩
      · have hn : some s ∉ ops.toList.map (·.dst) := by rw [hs]; simpa using hc
        have := hnot s (fun j hj => by
          unfold dstO at hj
          rw [Option.bind_eq_some_iff] at hj
          obtain ⟨o', h1, h2⟩ := hj
          exact absurd (List.mem_map.2 ⟨o', by simpa using Array.mem_of_getElem? h1, h2⟩) hn)
        rw [← hv]
        simp [Act.eval, this]
      · refine eval_of ?_
        rw [hval j s (hdone j he) (hsl j s hj)]
        have : chain.idxOf? j = none := idxOf_none (by simpa using hc)
        simp only [valA, this, ha]
        simp [hv]
      · refine eval_of ?_
        rw [hval j s (hdone j he) (hsl j s hj)]
        have : chain.idxOf? j = some p := idxOf_some hnd hp
        simp only [valA, this]
        simp [hv]
      · obtain ⟨g, hg'⟩ := Option.isSome_iff_exists.1 ((hga j ha).1 (hdone j he))
        refine ⟨g, hg', eval_of ?_⟩
        rw [hval j s (hdone j he) (hsl j s hj)]
        have : chain.idxOf? j = none := idxOf_none (by simpa using hc)
        simp only [valA, this, ha, hg']
        rfl
    have hclosed : ∀ j o', (l.setIfInBounds i true).getD j false = true → ops[j]? = some o' → ∀ d ∈ o'.after, Region.binds .any d = true → (l.setIfInBounds i true).getD d.on false = true := by
      intro j o' hj ho' d hd hb
      have mono : ∀ k, l.getD k false = true → (l.setIfInBounds i true).getD k false = true := fun k hk => by
        by_cases hik : i = k
        · subst hik; exact hself
        · rw [getD_set_other hik]; exact hk
      by_cases hij : i = j
      · subst hij
        rw [ho] at ho'
        cases ho'
        exact mono _ (hall d hd hb)
      · rw [getD_set_other hij] at hj
        exact mono _ (hcl j o' hj ho' d hd hb)
    have hput : ∀ v s, (∀ j, dstO ops j = some s → (l.setIfInBounds i true).getD j false = false) → (a.put o.dst v).tmps[s]? = a0.tmps[s]? := fun v s hsn => by
      have hsn' : ∀ j, dstO ops j = some s → l.getD j false = false := fun j hj => by
        have h1 := hsn j hj
        by_cases hij : i = j
        · subst hij; rw [hself] at h1; cases h1
        · rwa [getD_set_other hij] at h1
      cases hd : o.dst with
      | none => simp only [Act.put]; exact hnot s hsn'
      | some t =>
        have : dstO ops i = some t := by unfold dstO; rw [ho]; exact hd
        have hts : t ≠ s := fun e => by
          have h1 := hsn i (by rw [this, e])
          rw [hself] at h1; cases h1
        simp only [Act.put]
        rw [Array.getElem?_setIfInBounds_ne hts]
        exact hnot s hsn'
    have hputd : ∀ v, (a.put o.dst v).defers = a0.defers ∧ (a.put o.dst v).tmps.size = a0.tmps.size := fun v => by
      cases hd : o.dst with
      | none => exact ⟨hdf, hsz⟩
      | some t => exact ⟨hdf, by simpa [Act.put] using hsz⟩
    have hputv : ∀ us' gs' v, valA chain al pv us' gs' i = v → (∀ j, l.getD j false = true → valA chain al pv us' gs' j = valA chain al pv us gs j) → ∀ j s, (l.setIfInBounds i true).getD j false = true → dstO ops j = some s → (a.put o.dst v).tmps[s]? = some (valA chain al pv us' gs' j) := by
      intro us' gs' v hv hsame j s hj hd
      by_cases hij : i = j
      · subst hij
        have hod : o.dst = some s := by unfold dstO at hd; rw [ho] at hd; exact hd
        rw [hod, hv]
        have := dst_lt hdst hd
        simp [Act.put, hsz, this]
      · rw [getD_set_other hij] at hj
        rw [hsame j hj]
        cases hod : o.dst with
        | none => simp only [Act.put]; exact hval j s hj hd
        | some t =>
          have h1 : dstO ops i = some t := by unfold dstO; rw [ho]; exact hod
          have hts : t ≠ s := fun e => hij (dst_inj hdst h1 (by rw [hd, e]))
          simp only [Act.put]
          rw [Array.getElem?_setIfInBounds_ne hts]
          exact hval j s hj hd
    have hlim : i ∉ chain → ∀ p c, chain[p]? = some c → (deps.getD c []).contains i = true → us.length ≤ p := fun hic p c hp he => by
      rcases Nat.lt_or_ge p us.length with h | h
      · have hclt := chainB_lt hch hp
        have hoc : ops[c]? = some ops[c] := by simp [hclt]
        rw [hdep c _ hoc] at he
        obtain ⟨d, hd1, hd2, hd3⟩ := edge_of (edge_deps he)
        have := hcl c _ ((hcu p c hp).2 h) hoc d hd1 hd2
        rw [hd3, hnl] at this
        cases this
      · exact h
    refine want_none (hgd i o ho) ?_
    by_cases hc : i ∈ chain
    · obtain ⟨p, hp⟩ := List.getElem?_of_mem hc
      have hle : us.length ≤ p := by
        rcases Nat.lt_or_ge p us.length with h | h
        · have := (hcu p i hp).2 h
          rw [hnl] at this
          cases this
        · exact h
      have hge : p ≤ us.length := by
        cases p with
        | zero => omega
        | succ q =>
          have hpl := (List.getElem?_eq_some_iff.1 hp).1
          have hq : chain[q]? = some chain[q] := List.getElem?_eq_getElem (by omega)
          obtain ⟨o', ho', he⟩ := chainB_edge hch hq hp
          rw [ho] at ho'
          cases ho'
          obtain ⟨d, hd1, hd2, hd3⟩ := edge_of he
          have := (hcu q _ hq).1 (by rw [← hd3]; exact hall d hd1 hd2)
          omega
      have hpl := (List.getElem?_eq_some_iff.1 hp).1
      refine hlink p i o hp ho a w us gs K (by omega) hJ hfind (fun v w' hJ' => ?_)
      apply hK
      have hlen : (us ++ [v]).length = us.length + 1 := by simp
      refine ⟨by simpa using hsz0, (hputd v).1, (hputd v).2, hput v, hclosed, us ++ [v], gs, by rw [hlen]; omega, fun q c hq => ?_, fun j hj => ?_, hputv _ gs v ?_ ?_, hJ'⟩
      · rw [hlen]
        by_cases hic : i = c
        · subst hic
          have : q = p := by
            have h1 := idxOf_some hnd hq
            have h2 := idxOf_some hnd hp
            rw [h1] at h2
            exact Option.some.inj h2
          rw [hself]
          simp
          omega
        · rw [getD_set_other hic, hcu q c hq]
          have : q ≠ p := fun e => hic (by rw [e, hp] at hq; exact Option.some.inj hq)
          omega
      · have : i ≠ j := fun e => by
          have := (hallt j hj).2
          rw [← e] at this
          exact absurd hc (by simpa using this)
        rw [getD_set_other this]
        exact hga j hj
      · simp only [valA, idxOf_some hnd hp]
        rw [List.getD_eq_getElem?_getD, List.getElem?_append_right (by omega)]
        have : p - us.length = 0 := by omega
        simp [this]
      · intro j hj
        unfold valA
        cases hx : chain.idxOf? j with
        | none => rfl
        | some q =>
          have hq : chain[q]? = some j := by
            obtain ⟨h1, h2, _⟩ := List.idxOf?_eq_some_iff.1 hx
            rw [List.getElem?_eq_getElem h1, h2]
          have := (hcu q j hq).1 hj
          simp only [List.getD_eq_getElem?_getD]
          rw [List.getElem?_append_left this]
    · have hcf : chain.contains i = false := by simpa using hc
      have hcq : ∀ q c, chain[q]? = some c → ((l.setIfInBounds i true).getD c false = true ↔ q < us.length) := fun q c hq => by
        have : i ≠ c := fun e => hc (by rw [e]; exact List.mem_of_getElem? hq)
        rw [getD_set_other this]
        exact hcu q c hq
      cases ha : al.contains i with
      | true =>
        have hgn : gs i = none := by
          have := hga i ha
          rw [hnl] at this
          cases h : gs i with
          | none => rfl
          | some g => rw [h] at this; simp at this
        refine halloc i o ho ha a w K ?_
        apply hK
        refine ⟨by simpa using hsz0, (hputd _).1, (hputd _).2, hput _, hclosed, us, upd gs i w.heap.size, hul, hcq, fun j hj => ?_, hputv us _ _ ?_ (fun j hj => ?_), hJal i ha us gs w hJ hgn (hlim hc)⟩
        · by_cases hij : j = i
          · subst hij
            rw [hself, upd_self]
            simp
          · rw [getD_set_other (Ne.symm hij), upd_other _ hij]
            exact hga j hj
        · simp only [valA, idxOf_none hc, ha, upd_self]
          rfl
        · have hij : j ≠ i := fun e => by rw [e, hnl] at hj; cases hj
          simp only [valA, upd_other _ hij]
      | false =>
        refine hpure i o ho hcf ha a w us gs K hJ hfind (hlim hc) ?_
        apply hK
        refine ⟨by simpa using hsz0, (hputd _).1, (hputd _).2, hput _, hclosed, us, gs, hul, hcq, fun j hj => ?_, hputv us gs _ ?_ (fun _ _ => rfl), hJ⟩
        · have : i ≠ j := fun e => by rw [e, hj] at ha; cases ha
          rw [getD_set_other this]
          exact hga j hj
        · simp only [valA, idxOf_none hc, ha]
          rfl
  · rintro l a w ⟨hsz0, hdf, hsz, hnot, hcl, us, gs, hul, hcu, hga, hval, hJ⟩ hall
    have hlen : us.length = chain.length := by
      rcases Nat.lt_or_ge us.length chain.length with h | h
      · have hq : chain[us.length]? = some chain[us.length] := List.getElem?_eq_getElem h
        have := (hcu _ _ hq).1 (hall _ (chainB_lt hch hq))
        omega
      · omega
    have hfr := frame_eq (a0 := a0.tmps) (frameA ops chain al pv us gs) a.tmps a0.tmps hsz (fun p hp => by
      obtain ⟨j, hj, hv⟩ := List.mem_filterMap.1 hp
      rw [Option.map_eq_some_iff] at hv
      obtain ⟨s, hd, rfl⟩ := hv
      exact hval j s (hall j (by simpa using hj)) hd) (fun s hsn => hnot s fun j hj => absurd (by
        have hjl : j < ops.size := by
          unfold dstO at hj
          rw [Option.bind_eq_some_iff] at hj
          obtain ⟨o', h1, _⟩ := hj
          exact (Array.getElem?_eq_some_iff.1 h1).1
        rw [List.mem_map]
        exact ⟨(s, valA chain al pv us gs j), List.mem_filterMap.2 ⟨j, by simpa using hjl, by rw [hj]; rfl⟩, rfl⟩) hsn)
    have : a = { a0 with tmps := (frameA ops chain al pv us gs).foldl (fun t p => t.setIfInBounds p.1 p.2) a0.tmps } := by
      obtain ⟨at_, ad⟩ := a
      simp only at hfr hdf
      rw [hfr, hdf]
    rw [this]
    exact hQ us gs w hlen (fun j hj => (hga j hj).1 (hall j (hallt j hj).1)) hJ
  · refine ⟨by simp, rfl, rfl, fun _ _ => rfl, fun j o h => ?_, [], fun _ => none, by simp, fun i c hc => ?_, fun j hj => ?_, fun j s h => ?_, h0⟩
    · simp [Array.getElem?_replicate] at h
      split at h <;> simp at h
    · have : (Array.replicate ops.size false).getD c false = false := by
        simp [Array.getElem?_replicate]
        split <;> rfl
      rw [this]
      simp
    · have : (Array.replicate ops.size false).getD j false = false := by
        simp [Array.getElem?_replicate]
        split <;> rfl
      rw [this]
      simp
    · simp [Array.getElem?_replicate] at h
      split at h <;> simp at h
end Go.Proofs.YtbfaghgjbipilaaDoor

/-! Kept -/
namespace Go.Proofs.YtbfaghgjbipilaaDoor
set_option linter.unusedVariables false
set_option linter.unusedSimpArgs false
open Go.RowKit Go.Maps

/-- the maps stay as they are -/
def KM (w w' : World) : Prop := ∀ (b : Nat) (es : Array MapEntry) (cl : Nat), w.heap[b]? = some (Obj.map es cl) → w'.heap[b]? = some (Obj.map es cl)
/-- only rows of elements of type T have changed, and there is more memory -/
structure Only (T : TypeId) (w w' : World) : Prop where
  kb : ∀ T', T' ≠ T → KB T' w w'
  km : KM w w'
section
variable {T T' : TypeId} {w w1 w2 : World}
theorem Only.refl (w : World) : Only T w w := ⟨fun _ _ => KB.refl w, fun _ _ _ h => h⟩
theorem Only.trans (h : Only T w w1) (k : Only T w1 w2) : Only T w w2 := ⟨fun T' hn => (h.kb T' hn).trans (k.kb T' hn), fun b es cl hb => k.km b es cl (h.km b es cl hb)⟩
theorem Only.ext (k : Ext w w1) : Only T w w1 := ⟨fun _ _ => KB.ext k, fun b _ _ hb => (k.block b (Array.getElem?_eq_some_iff.1 hb).1).trans hb⟩
theorem Only.put {g : Nat} {cs cs' : Array Value} (hB : Blk w g T cs) : Only T w (putB w g T cs') := ⟨fun _ hn => KB.put hB hn, fun b es cl hb => by
  have hn : g ≠ b := fun e => by subst e; rw [show w.heap[g]? = _ from hB] at hb; cases hb
  unfold putB
  simp only
  rw [Array.getElem?_setIfInBounds_ne hn]
  exact hb⟩
theorem Only.set {p : Addr} {u : Value} (hT : Typed w T p.block) : Only T w (w.setCell p u) := ⟨fun _ hn => KB.set hT hn, fun b es cl hb => by
  have hn : b ≠ p.block := fun e => by subst e; obtain ⟨cur, hc⟩ := hT; rw [hc] at hb; cases hb
  rw [RowKit.Below.heap_setCell _ _ _ _ hn]
  exact hb⟩
theorem Only.sets {g : Nat} : ∀ (vs : List Value) (o : Nat) (w : World), Typed w T g → Only T w (w.setCells g o vs)
  | [], _, w, _ => Only.refl w
  | v :: vs, o, w, h => (Only.set (p := ⟨g, o, none⟩) h).trans (Only.sets vs (o + 1) _ (h.setCell _ _))
theorem Only.grown {row : Option Nat} (hg : w.grownBy w1 row) (hr : ∀ q, row = some q → Typed w T q) : Only T w w1 := ⟨fun _ hn => KB.grown hg hr hn, fun b es cl hb => by
  refine (hg.block b (Array.getElem?_eq_some_iff.1 hb).1 (fun e => ?_)).trans hb
  obtain ⟨cur, hc⟩ := hr b e.symm
  rw [hc] at hb; cases hb⟩
theorem Blk.kb {g : Nat} {cs : Array Value} (h : Blk w g T cs) (k : KB T w w1) : Blk w1 g T cs := k g cs h
theorem Blk.only {g : Nat} {cs : Array Value} (h : Blk w g T' cs) (k : Only T w w1) (hn : T' ≠ T) : Blk w1 g T' cs := (k.kb T' hn) g cs h
end

/-- a map that leads each number of the events l to its place and one -/
def MapI (w : World) (T : TypeId) (B : Nat) (l : List Ev) : Prop := ∃ (n : Nat) (D : DataW Unit), w.ownsMap Tryd.prog 2 (plainElem Tryd.prog T) B n D ∧ n ≤ l.length ∧ IsMap D ∧
  ∀ id k, IW id → findE l id = some k → D.atKey (.int .i64 id) (.lit (.int .i64 0)) = .lit (.int .i64 ((k : Int) + 1))
theorem MapI.made (w : World) (T : TypeId) : MapI (w.alloc (.map #[] 0)) T w.heap.size [] :=
  ⟨0, .map [], World.ownsMap_made w _ _ _, Nat.le_refl _, isMap_empty, fun _ _ _ h => by simp [findE] at h⟩
theorem MapI.km {w w1 : World} {T : TypeId} {B : Nat} {l : List Ev} (h : MapI w T B l) (k : KM w w1) : MapI w1 T B l := by
  obtain ⟨n, D, ⟨es, cl, h1, h2⟩, h3⟩ := h
  exact ⟨n, D, ⟨es, cl, k B es cl h1, h2⟩, h3⟩
theorem MapI.ext {w w1 : World} {T : TypeId} {B : Nat} {l : List Ev} (h : MapI w T B l) (k : Ext w w1) : MapI w1 T B l := h.km (Only.ext (T := 0) k).km
theorem MapI.put {w1 : World} {T : TypeId} {B n : Nat} {l : List Ev} {D : DataW Unit} {x : Ev} (hn : n ≤ l.length) (hm : IsMap D)
    (ha : ∀ id k, IW id → findE l id = some k → D.atKey (.int .i64 id) (.lit (.int .i64 0)) = .lit (.int .i64 ((k : Int) + 1))) (hx : IW x.id) (hno : findE l x.id = none)
    (h : w1.ownsMap Tryd.prog 2 (plainElem Tryd.prog T) B (n + 1) (D.put (.int .i64 x.id) (.lit (.int .i64 ((l.length : Int) + 1))))) : MapI w1 T B (l ++ [x]) := by
  refine ⟨n + 1, _, h, by simp; omega, hm.put _ _, fun id k hid hk => ?_⟩
  rw [findE_snoc] at hk
  by_cases he : id = x.id
  · subst he
    rw [hno] at hk
    simp at hk
    subst hk
    exact atKey_put_same hm hx.isKey _ _
  · rw [atKey_put_other (by simpa using he)]
    refine ha id k hid ?_
    cases hf : findE l id with
    | some j => rw [hf] at hk; simpa using hk
    | none => rw [hf] at hk; simp [Ne.symm he] at hk

/-- a variable that is made at whatever time and filled at the chain's place p -/
structure VarJ (T : TypeId) (al p : Nat) (cs0 cs1 : Array Value) (r0 : Value) (W : World) (us : List Value) (gs : Nat → Option Nat) (w : World) : Prop where
  ext : Ext W w
  val : ∀ u, us[0]? = some u → u = r0
  va : ∀ g, gs al = some g → W.heap.size ≤ g ∧ Blk w g T (if us.length ≤ p then cs0 else cs1)
section
variable {T : TypeId} {al p : Nat} {cs0 cs1 : Array Value} {r0 : Value} {W w w2 : World} {us : List Value} {gs : Nat → Option Nat} {v : Value}
theorem VarJ.start (W : World) : VarJ T al p cs0 cs1 r0 W [] (fun _ => none) W.drew := ⟨(Ext.refl W).drew, fun u hu => by simp at hu, fun g h => by cases h⟩
theorem VarJ.alloc (h : VarJ T al p cs0 cs1 r0 W us gs w) (hl : us.length ≤ p) : VarJ T al p cs0 cs1 r0 W us (upd gs al w.heap.size) (w.alloc (.cells cs0 T)) := by
  refine ⟨h.ext.alloc _, h.val, fun g hg => ?_⟩
  rw [upd_self] at hg
  obtain rfl : w.heap.size = g := Option.some.inj hg
  rw [if_pos hl]
  exact ⟨h.ext.size, Blk.new w _ _⟩
theorem VarJ.call (h : VarJ T al p cs0 cs1 r0 W [] gs w) (hl : 0 < p) (hx : Ext w w2) (hv : v = r0) : VarJ T al p cs0 cs1 r0 W ([] ++ [v]) gs w2 := by
  refine ⟨h.ext.trans hx, fun u hu => by simp at hu; subst hu; exact hv, fun g hg => ?_⟩
  obtain ⟨h1, h2⟩ := h.va g hg
  rw [if_pos (by simp)] at h2
  rw [if_pos (by simp; omega)]
  exact ⟨h1, h2.ext hx⟩
theorem VarJ.blk {g : Nat} (h : VarJ T al p cs0 cs1 r0 W us gs w) (hg : gs al = some g) (hl : us.length ≤ p) : Blk w g T cs0 := by
  have := (h.va g hg).2
  rwa [if_pos hl] at this
theorem VarJ.store {g : Nat} (h : VarJ T al p cs0 cs1 r0 W us gs w) (hg : gs al = some g) (hl : us.length = p) (hv : us = [] → v = r0) : VarJ T al p cs0 cs1 r0 W (us ++ [v]) gs (putB w g T cs1) := by
  obtain ⟨h1, h2⟩ := h.va g hg
  refine ⟨h.ext.put h1 _ _, fun u hu => ?_, fun g' hg' => ?_⟩
  · cases us with
    | nil => simp at hu; subst hu; exact hv rfl
    | cons a us => exact h.val u (by simpa using hu)
  · rw [hg] at hg'
    obtain rfl := Option.some.inj hg'
    rw [if_neg (by simp; omega)]
    exact ⟨h1, (h.blk hg (by omega)).put _⟩
theorem VarJ.end_ {g : Nat} (h : VarJ T al p cs0 cs1 r0 W us gs w) (hg : gs al = some g) (hl : p < us.length) : W.heap.size ≤ g ∧ Blk w g T cs1 := by
  have := h.va g hg
  rwa [if_neg (by omega)] at this
end
theorem getElem_ltq {α : Type} {l : List α} {p : Nat} (h : p < l.length) : ∃ v, l[p]? = some v := ⟨_, List.getElem?_eq_getElem h⟩
/-- an element of a list of events of one's own -/
theorem EvsOwn.head {w : World} {L n c k : Nat} {A : Option Addr} {l : List Ev} {e : Ev} (h : EvsOwn w L (.slice A n c) n l) (hk : l[k]? = some e) : ∃ g A' n' c', A = some ⟨g, 0, none⟩ ∧ L ≤ g ∧ g < w.heap.size ∧ Typed w 41 g ∧
    (∀ j u, (e.cells A' n' c').toList[j]? = some u → w.cell? ⟨g, k * 7 + j, none⟩ = some u) ∧ (∀ j, w.frozen? ⟨g, j, none⟩ = false) ∧ EGood w L (EH.of e A' n' c') e := by
  obtain ⟨hs, h1, h2, h3, h4⟩ := h
  have hkn : k < n := by rw [← h3]; exact (List.getElem?_eq_some_iff.1 hk).1
  obtain ⟨g, cap, hv, hb, hlt⟩ := own_form h1 (by omega)
  injection hv with hA hn hc
  subst hA hc
  obtain ⟨x, hx⟩ : ∃ x, hs[k]? = some x := ⟨_, List.getElem?_eq_getElem (by omega)⟩
  have hg := h4 k x e hx hk
  refine ⟨g, x.A, x.n, x.c, rfl, hb, hlt, own_typed h1 g rfl, fun j u hu => ?_, fun j => h1.frozenAt j, by rw [← hg.1]; exact hg⟩
  have hj : j < 7 := (List.getElem?_eq_some_iff.1 hu).1
  rw [h1.cellAt (k * 7 + j) (by omega), flatMap_at EH.vals 7 EH.len hs k x j hx hj, hg.1, EH.of_vals]
  exact hu
/-- an event's number and span are set anew -/
theorem EvsOwn.edit {w : World} {L n c k g : Nat} {l : List Ev} {e : Ev} (i a b : Int) (h : EvsOwn w L (.slice (some ⟨g, 0, none⟩) n c) n l) (hk : l[k]? = some e) :
    EvsOwn (w.setCells g (k * 7) [.int .i64 i, .int .i64 a, .int .i64 b]) L (.slice (some ⟨g, 0, none⟩) n c) n (l.set k ⟨i, a, b, e.region, e.kind, e.speaker, e.rows⟩) := by
  obtain ⟨hs, h1, h2, h3, h4⟩ := h
  have hkn : k < n := by rw [← h3]; exact (List.getElem?_eq_some_iff.1 hk).1
  have hty : Typed w 41 g := own_typed h1 g rfl
  obtain ⟨x, hx⟩ : ∃ x, hs[k]? = some x := ⟨_, List.getElem?_eq_getElem (by omega)⟩
  have hg := h4 k x e hx hk
  have kb : ∀ {T : TypeId}, T ≠ 41 → KB T w (w.setCells g (k * 7) [.int .i64 i, .int .i64 a, .int .i64 b]) := fun hne => KB.sets hne _ _ _ hty
  refine ⟨hs.set k ⟨i, a, b, e.region, e.kind, e.speaker, x.A, x.n, x.c⟩, ?_, by simpa using h2, by simpa using h3, fun j y z hy hz => ?_⟩
  · have e1 := flat_set EH.len hs k 0 x ⟨i, x.inn, x.out, x.region, x.kind, x.speaker, x.A, x.n, x.c⟩ (.int .i64 i) hx rfl (by omega)
    have hx1 : (hs.set k ⟨i, x.inn, x.out, x.region, x.kind, x.speaker, x.A, x.n, x.c⟩)[k]? = some ⟨i, x.inn, x.out, x.region, x.kind, x.speaker, x.A, x.n, x.c⟩ := List.getElem?_set_self (by omega)
    have e2 := flat_set EH.len _ k 1 _ ⟨i, a, x.out, x.region, x.kind, x.speaker, x.A, x.n, x.c⟩ (.int .i64 a) hx1 rfl (by omega)
    rw [List.set_set] at e2
    have hx2 : (hs.set k ⟨i, a, x.out, x.region, x.kind, x.speaker, x.A, x.n, x.c⟩)[k]? = some ⟨i, a, x.out, x.region, x.kind, x.speaker, x.A, x.n, x.c⟩ := List.getElem?_set_self (by omega)
    have e3 := flat_set EH.len _ k 2 _ ⟨i, a, b, x.region, x.kind, x.speaker, x.A, x.n, x.c⟩ (.int .i64 b) hx2 rfl (by omega)
    rw [List.set_set] at e3
    have h5 := own_sets [.int .i64 i, .int .i64 a, .int .i64 b] (k * 7) w _ h1
    have e4 : setMany (hs.flatMap EH.vals) (k * 7) [.int .i64 i, .int .i64 a, .int .i64 b] = (hs.set k ⟨i, a, b, x.region, x.kind, x.speaker, x.A, x.n, x.c⟩).flatMap EH.vals := by
      rw [← e3, ← e2, ← e1]
      rfl
    rw [e4] at h5
    have hgx := hg.1
    have er : x.region = e.region := by rw [hgx]; rfl
    have ek : x.kind = e.kind := by rw [hgx]; rfl
    have es : x.speaker = e.speaker := by rw [hgx]; rfl
    rw [er, ek, es] at h5
    exact h5
  · by_cases hkj : k = j
    · subst hkj
      rw [List.getElem?_set_self (by omega)] at hy hz
      cases hy
      cases hz
      exact ⟨rfl, hg.2.1, hg.2.2.1, hg.2.2.2.kb (kb (by decide)) (kb (by decide))⟩
    · rw [List.getElem?_set_ne hkj] at hy hz
      exact (h4 j y z hy hz).kb (kb (by decide)) (kb (by decide))
/-- 'out = append(out, x)' in a drawn region: the element is built, appended, assigned -/
structure ApJ (T : TypeId) (size : Nat) (cells : Array Value) (base : Nat) (v : Value) (k : Nat) (xs : List Value) (W : World) (us : List Value) (w' : World) : Prop where
  only : Only T W w'
  nil : us = [] → Ext W w'
  one : ∀ u, us = [u] → ∃ g, u = .slice (some ⟨g, 0, none⟩) 1 1 ∧ W.heap.size ≤ g ∧ Blk w' g T cells ∧ Ext W w'
  two : ∀ u u1, us = [u, u1] → ∃ w5, Ext W w5 ∧ w5.grownBy w' v.ownBlock ∧ w'.ownsRow base T size u1 (k + 1) (xs ++ cells.toList)
  three : ∀ u u1 u2, us = [u, u1, u2] → u2 = u1 ∧ ∃ w5, Ext W w5 ∧ w5.grownBy w' v.ownBlock ∧ w'.ownsRow base T size u1 (k + 1) (xs ++ cells.toList)
section
variable {T : TypeId} {size : Nat} {cells : Array Value} {base : Nat} {v : Value} {k : Nat} {xs : List Value} {W w' w2 : World} {u0 u1 : Value}
theorem ApJ.start (W : World) : ApJ T size cells base v k xs W [] W.drew := ⟨Only.ext (Ext.refl W).drew, fun _ => (Ext.refl W).drew, fun u h => by simp at h, fun u u1 h => by simp at h, fun u u1 u2 h => by simp at h⟩
theorem ApJ.build (h : ApJ T size cells base v k xs W [] w') : ApJ T size cells base v k xs W ([] ++ [.slice (some ⟨w'.heap.size, 0, none⟩) 1 1]) (w'.alloc (.cells cells T)) :=
  ⟨Only.ext ((h.nil rfl).alloc _), fun h => by simp at h, fun u hu => by simp at hu; subst hu; exact ⟨_, rfl, (h.nil rfl).size, Blk.new w' _ _, (h.nil rfl).alloc _⟩, fun u u1 h => by simp at h, fun u u1 u2 h => by simp at h⟩
theorem ApJ.app (hx : Ext W w') (hv : ∀ q, v.ownBlock = some q → Typed w' T q) (hg : w'.grownBy w2 v.ownBlock) (ho : w2.ownsRow base T size u1 (k + 1) (xs ++ cells.toList)) : ApJ T size cells base v k xs W ([u0] ++ [u1]) w2 :=
  ⟨(Only.ext hx).trans (Only.grown hg hv), fun h => by simp at h, fun u h => by simp at h, fun u u1 h => by simp at h; obtain ⟨rfl, rfl⟩ := h; exact ⟨w', hx, hg, ho⟩, fun u u1 u2 h => by simp at h⟩
theorem ApJ.asg (h : ApJ T size cells base v k xs W [u0, u1] w') : ApJ T size cells base v k xs W ([u0, u1] ++ [u1]) w' :=
  ⟨h.only, fun h => by simp at h, fun u h => by simp at h, fun u u1 h => by simp at h, fun a b c e => by simp at e; obtain ⟨rfl, rfl, rfl⟩ := e; exact ⟨rfl, h.two _ _ rfl⟩⟩
end
/-- an event's number and span are stored, one after the other, in a drawn region -/
structure StJ (g o : Nat) (i a b : Value) (W : World) (us : List Value) (w' : World) : Prop where
  only : Only 41 W w'
  nil : us = [] → Ext W w'
  one : ∀ u, us = [u] → ∃ w5, Ext W w5 ∧ w' = w5.setCell ⟨g, o, none⟩ i
  two : ∀ u u1, us = [u, u1] → ∃ w5, Ext W w5 ∧ w' = w5.setCells g o [i, a, b]
section
variable {g o : Nat} {i a b : Value} {W w' : World} {u0 u1 : Value}
theorem StJ.start (W : World) : StJ g o i a b W [] W.drew := ⟨Only.ext (Ext.refl W).drew, fun _ => (Ext.refl W).drew, fun u h => by simp at h, fun u u1 h => by simp at h⟩
theorem StJ.first (h : StJ g o i a b W [] w') (hT : Typed W 41 g) : StJ g o i a b W ([] ++ [u0]) (w'.setCell ⟨g, o, none⟩ i) :=
  ⟨(Only.ext (h.nil rfl)).trans (Only.set (p := ⟨g, o, none⟩) (hT.ext (h.nil rfl))), fun h => by simp at h, fun u hu => ⟨w', h.nil rfl, rfl⟩, fun u u1 h => by simp at h⟩
theorem StJ.second (h : StJ g o i a b W [u0] w') (hT : Typed W 41 g) : StJ g o i a b W ([u0] ++ [u1]) (w'.setCells g (o + 1) [a, b]) := by
  obtain ⟨w5, hx, rfl⟩ := h.one u0 rfl
  exact ⟨h.only.trans (Only.sets _ _ _ ((hT.ext hx).setCell _ _)), fun h => by simp at h, fun u h => by simp at h, fun u v e => ⟨w5, hx, rfl⟩⟩
end
theorem putB_grown (w : World) (g : Nat) (T : TypeId) (cs : Array Value) : w.grownBy (putB w g T cs) (some g) :=
  ⟨rfl, rfl, rfl, by simp [putB], fun i _ hi => by unfold putB; simp only; rw [Array.getElem?_setIfInBounds_ne (fun e => hi (by rw [e]))]⟩
end Go.Proofs.YtbfaghgjbipilaaDoor

/-! RatioQ -/
namespace Go.Proofs.YtbfaghgjbipilaaDoor
set_option linter.unusedVariables false
set_option linter.unusedSimpArgs false
open Go.RowKit

/-- is a remainder rounded up? (mode 1: down, 2: to the nearest, 3: up) -/
def awayB (r d m : Int) : Bool := if r = 0 then false else if m = 1 then false else if m = 3 then true else decide (d - r ≤ r)
theorem quo_u64 {n d : Int} {w : World} (hn : 0 ≤ n) (hd : 1 ≤ d) (hn9 : n ≤ 9223372036854775807) (hd9 : d ≤ 9223372036854775807) : (do eqGuard .quo 176 (.tmp 24) (.tmp 26) (.int .u64 n) (.int .u64 d); binOp .quo 176 (.int .u64 n) (.int .u64 d) : Sem Value).run Tryd.prog w = .ok (.int .u64 (n / d)) w := by
  have h1 : 0 ≤ n / d := Int.ediv_nonneg hn (by omega)
  have h2 : n / d ≤ n := Int.ediv_le_self _ hn
  have hd0 : (d == 0) = false := by simp; omega
  have e : n.tdiv d = n / d := Int.tdiv_eq_ediv_of_nonneg hn
  have hz : ¬ d = 0 := by omega
  go_simp
  simp [IntKind.wrap, IntKind.bits, IntKind.signed]
  omega
theorem rem_u64 {n d : Int} {w : World} (hn : 0 ≤ n) (hd : 1 ≤ d) (hn9 : n ≤ 9223372036854775807) (hd9 : d ≤ 9223372036854775807) : (do eqGuard .rem 176 (.tmp 29) (.tmp 31) (.int .u64 n) (.int .u64 d); binOp .rem 176 (.int .u64 n) (.int .u64 d) : Sem Value).run Tryd.prog w = .ok (.int .u64 (n % d)) w := by
  have h1 : 0 ≤ n % d := Int.emod_nonneg _ (by omega)
  have h2 : n % d < d := Int.emod_lt_of_pos _ (by omega)
  have e : n.tmod d = n % d := Int.tmod_eq_emod_of_nonneg hn
  have hz : ¬ d = 0 := by omega
  go_simp
/-- a quotient of numbers that are not negative -/
def quoI (n d m : Int) : Int := if awayB (n % d) d m = true then n / d + 1 else n / d
end Go.Proofs.YtbfaghgjbipilaaDoor

/-! ConvP -/
namespace Go.Proofs.YtbfaghgjbipilaaDoor
set_option linter.unusedVariables false
set_option linter.unusedSimpArgs false
open Go.RowKit

theorem ticks_bd {r : Int} (h : rOk r = true) : 2002 ≤ rTicks r ∧ rTicks r ≤ 5005 := by
  have := of_decide_eq_true h
  have hr : r = 1 ∨ r = 2 ∨ r = 3 ∨ r = 4 ∨ r = 5 ∨ r = 6 ∨ r = 7 := by omega
  rcases hr with rfl | rfl | rfl | rfl | rfl | rfl | rfl <;> decide
theorem ticks_bad {r : Int} (h : rOk r = false) : rTicks r = 0 := by
  have := of_decide_eq_false h
  unfold rTicks
  repeat (rw [if_neg (by omega)])
/-- the tick at which a frame begins, and the error -/
def timeT (r f : Int) : Int × Int := if rOk r = false then (0, 3) else if f < 0 ∨ 10378368000 / rTicks r < f then (0, 2) else (f * rTicks r, 0)
/-- the frame of a tick (mode m), and the error -/
def frameT (r t m : Int) : Int × Int := if rOk r = false then (0, 3) else if t < 0 ∨ 10378368000 < t then (0, 2) else if 10378368000 < quoI t (rTicks r) m * rTicks r then (0, 2) else (quoI t (rTicks r) m, 0)
def convT (a b f m : Int) : Int × Int := if rOk a = false ∨ rOk b = false then (0, 3) else if (timeT a f).2 ≠ 0 then (0, (timeT a f).2) else frameT b (timeT a f).1 m
theorem timeT_ok {r f : Int} (h : (timeT r f).2 = 0) : rOk r = true ∧ 0 ≤ f ∧ f ≤ 10378368000 / rTicks r ∧ (timeT r f).1 = f * rTicks r ∧ 0 ≤ f * rTicks r ∧ f * rTicks r ≤ 10378368000 := by
  unfold timeT at h ⊢
  split at h
  · simp at h
  · rename_i h1
    have ho : rOk r = true := by simpa using h1
    obtain ⟨t1, t2⟩ := ticks_bd ho
    split at h
    · simp at h
    · rename_i h2
      rw [if_neg h1, if_neg h2]
      refine ⟨ho, by omega, by omega, rfl, Int.mul_nonneg (by omega) (by omega), ?_⟩
      have : f ≤ 10378368000 / rTicks r := by omega
      exact Int.le_trans (Int.mul_le_mul_of_nonneg_right this (by omega)) (Int.ediv_mul_le _ (by omega))
theorem quo_near {n d : Int} (hn : 0 ≤ n) (hd : 0 < d) : 2 * (quoI n d 2 * d - n) ≤ d ∧ -d ≤ 2 * (quoI n d 2 * d - n) ∧ 0 ≤ quoI n d 2 := by
  have h1 := Int.emod_nonneg n (show d ≠ 0 by omega)
  have h2 := Int.emod_lt_of_pos n hd
  have h3 := Int.mul_ediv_add_emod n d
  have h4 : 0 ≤ n / d := Int.ediv_nonneg hn (by omega)
  have h5 : d * (n / d) = n / d * d := Int.mul_comm ..
  unfold quoI awayB
  by_cases hr : n % d = 0
  · simp only [hr, if_true]
    simp
    omega
  · simp only [hr, if_false]
    by_cases hx : d - n % d ≤ n % d
    · simp [hx]
      have : (n / d + 1) * d = n / d * d + d := by rw [Int.add_mul, Int.one_mul]
      omega
    · simp [hx]
      omega
/-- the frame nearest to n is k, where k is closer than half a frame -/
theorem quo_unique {n d k : Int} (hn : 0 ≤ n) (hd : 0 < d) (h1 : 2 * (k * d - n) < d) (h2 : -d < 2 * (k * d - n)) : quoI n d 2 = k := by
  obtain ⟨a1, a2, _⟩ := quo_near hn hd
  generalize quoI n d 2 = q at *
  have hqk : (q - k) * d = q * d - k * d := by rw [Int.sub_mul]
  have h3 : (q - k) * d < d := by omega
  have h4 : -d < (q - k) * d := by omega
  have h5 : q - k < 1 := by
    by_cases h : q - k < 1
    · exact h
    · have : 1 * d ≤ (q - k) * d := Int.mul_le_mul_of_nonneg_right (by omega) (by omega)
      omega
  have h6 : -1 < q - k := by
    by_cases h : -1 < q - k
    · exact h
    · have : (q - k) * d ≤ (-1) * d := Int.mul_le_mul_of_nonneg_right (by omega) (by omega)
      omega
  omega
theorem quo_mono {n m d : Int} (hn : 0 ≤ n) (hd : 0 < d) (h : n + d ≤ m) : quoI n d 2 + 1 ≤ quoI m d 2 := by
  have e : quoI (n + d) d 2 = quoI n d 2 + 1 := by
    unfold quoI
    rw [Int.add_emod_right, Int.add_ediv_of_dvd_right (Int.dvd_refl d), Int.ediv_self (by omega)]
    split <;> omega
  have mono : ∀ x y, 0 ≤ x → x ≤ y → quoI x d 2 ≤ quoI y d 2 := by
    intro x y hx hxy
    obtain ⟨a1, a2, _⟩ := quo_near hx hd
    obtain ⟨b1, b2, _⟩ := quo_near (show 0 ≤ y by omega) hd
    by_cases hlt : quoI x d 2 ≤ quoI y d 2
    · exact hlt
    · have hq : quoI y d 2 + 1 ≤ quoI x d 2 := by omega
      have h5 : (quoI y d 2 + 1) * d ≤ quoI x d 2 * d := Int.mul_le_mul_of_nonneg_right hq (by omega)
      rw [Int.add_mul, Int.one_mul] at h5
      have hxy2 : x = y := by omega
      rw [hxy2] at hlt
      omega
  have := mono (n + d) m (by omega) h
  omega

/-- the span that a span becomes, and the error -/
def spanT (a b i o m : Int) : (Int × Int) × Int :=
  if rOk a = false ∨ rOk b = false then ((0, 0), 3) else if ¬ (m = 1 ∨ m = 2) ∨ o ≤ i then ((0, 0), 1) else if i < 0 ∨ 5184000 < o then ((0, 0), 2) else if m = 2 then ((i, o), 0) else
    if (convT a b i 2).2 ≠ 0 then ((0, 0), (convT a b i 2).2) else if (convT a b o 2).2 ≠ 0 then ((0, 0), (convT a b o 2).2) else
      if 5184000 < max (convT a b o 2).1 ((convT a b i 2).1 + 1) then ((0, 0), 2) else (((convT a b i 2).1, max (convT a b o 2).1 ((convT a b i 2).1 + 1)), 0)
theorem spanT_bad {a b i o m : Int} (h : (spanT a b i o m).2 ≠ 0) : (spanT a b i o m).1 = (0, 0) := by
  unfold spanT at h ⊢
  by_cases h1 : rOk a = false ∨ rOk b = false
  · rw [if_pos h1]
  rw [if_neg h1] at h ⊢
  by_cases h2 : ¬ (m = 1 ∨ m = 2) ∨ o ≤ i
  · rw [if_pos h2]
  rw [if_neg h2] at h ⊢
  by_cases h3 : i < 0 ∨ 5184000 < o
  · rw [if_pos h3]
  rw [if_neg h3] at h ⊢
  by_cases h4 : m = 2
  · rw [if_pos h4] at h; exact absurd rfl h
  rw [if_neg h4] at h ⊢
  by_cases h5 : (convT a b i 2).2 ≠ 0
  · rw [if_pos h5]
  rw [if_neg h5] at h ⊢
  by_cases h6 : (convT a b o 2).2 ≠ 0
  · rw [if_pos h6]
  rw [if_neg h6] at h ⊢
  by_cases h7 : 5184000 < max (convT a b o 2).1 ((convT a b i 2).1 + 1)
  · rw [if_pos h7]
  · rw [if_neg h7] at h; exact absurd rfl h
theorem convT_ok {a b f : Int} (h : (convT a b f 2).2 = 0) : rOk a = true ∧ rOk b = true ∧ 0 ≤ f ∧ 0 ≤ f * rTicks a ∧ f * rTicks a ≤ 10378368000 ∧ (convT a b f 2).1 = quoI (f * rTicks a) (rTicks b) 2 ∧ quoI (f * rTicks a) (rTicks b) 2 * rTicks b ≤ 10378368000 := by
  unfold convT at h ⊢
  split at h
  · simp at h
  · rename_i h1
    have ha : rOk a = true := by
      cases hx : rOk a
      · exact absurd (.inl hx) h1
      · rfl
    have hb : rOk b = true := by
      cases hx : rOk b
      · exact absurd (.inr hx) h1
      · rfl
    rw [if_neg h1]
    split at h
    · rename_i h2; simp at h; exact absurd h h2
    · rename_i h2
      rw [if_neg h2]
      obtain ⟨_, k2, _, k4, k5, k6⟩ := timeT_ok (r := a) (f := f) (by simpa using h2)
      rw [k4] at h ⊢
      unfold frameT at h ⊢
      rw [if_neg (by simp [hb]), if_neg (by omega)] at h ⊢
      split at h
      · simp at h
      · rename_i h3
        rw [if_neg h3]
        exact ⟨ha, hb, k2, k5, k6, rfl, by omega⟩
/-- what the span is, where the times are kept -/
theorem spanT_time {a b i o : Int} (h : (spanT a b i o 1).2 = 0) : rOk a = true ∧ rOk b = true ∧ 0 ≤ i ∧ i < o ∧ o ≤ 5184000 ∧ (convT a b i 2).2 = 0 ∧ (convT a b o 2).2 = 0 ∧ (spanT a b i o 1).1 = ((convT a b i 2).1, max (convT a b o 2).1 ((convT a b i 2).1 + 1)) ∧ max (convT a b o 2).1 ((convT a b i 2).1 + 1) ≤ 5184000 := by
  unfold spanT at h ⊢
  by_cases h1 : rOk a = false ∨ rOk b = false
  · rw [if_pos h1] at h; simp at h
  rw [if_neg h1] at h ⊢
  by_cases h2 : ¬ ((1 : Int) = 1 ∨ (1 : Int) = 2) ∨ o ≤ i
  · rw [if_pos h2] at h; simp at h
  rw [if_neg h2] at h ⊢
  by_cases h3 : i < 0 ∨ 5184000 < o
  · rw [if_pos h3] at h; simp at h
  rw [if_neg h3, if_neg (by decide)] at h ⊢
  by_cases h4 : (convT a b i 2).2 ≠ 0
  · rw [if_pos h4] at h; exact absurd h h4
  rw [if_neg h4] at h ⊢
  by_cases h5 : (convT a b o 2).2 ≠ 0
  · rw [if_pos h5] at h; exact absurd h h5
  rw [if_neg h5] at h ⊢
  by_cases h6 : 5184000 < max (convT a b o 2).1 ((convT a b i 2).1 + 1)
  · rw [if_pos h6] at h; simp at h
  rw [if_neg h6]
  refine ⟨?_, ?_, by omega, by omega, by omega, by simpa using h4, by simpa using h5, rfl, by omega⟩
  · cases hx : rOk a
    · exact absurd (.inl hx) h1
    · rfl
  · cases hx : rOk b
    · exact absurd (.inr hx) h1
    · rfl
theorem spanT_frames {a b i o : Int} (h : (spanT a b i o 2).2 = 0) : (spanT a b i o 2).1 = (i, o) := by
  unfold spanT at h ⊢
  by_cases h1 : rOk a = false ∨ rOk b = false
  · rw [if_pos h1] at h; simp at h
  rw [if_neg h1] at h ⊢
  by_cases h2 : ¬ ((2 : Int) = 1 ∨ (2 : Int) = 2) ∨ o ≤ i
  · rw [if_pos h2] at h; simp at h
  rw [if_neg h2] at h ⊢
  by_cases h3 : i < 0 ∨ 5184000 < o
  · rw [if_pos h3] at h; simp at h
  rw [if_neg h3, if_pos rfl]
/-- with the frames kept a span comes back from every rate -/
theorem back_frames {a b i o : Int} (h : (spanT a b i o 2).2 = 0) (h2 : (spanT b a (spanT a b i o 2).1.1 (spanT a b i o 2).1.2 2).2 = 0) : (spanT b a (spanT a b i o 2).1.1 (spanT a b i o 2).1.2 2).1 = (i, o) := by
  rw [spanT_frames h2, spanT_frames h]
/-- with the times kept a span comes back from a rate whose frames are not longer -/
theorem back_times {a b i o : Int} (hab : rTicks b ≤ rTicks a) (h : (spanT a b i o 1).2 = 0) (h2 : (spanT b a (spanT a b i o 1).1.1 (spanT a b i o 1).1.2 1).2 = 0) : (spanT b a (spanT a b i o 1).1.1 (spanT a b i o 1).1.2 1).1 = (i, o) := by
  obtain ⟨ha, hb, h0, hio, ho, ci, co, e1, _⟩ := spanT_time h
  obtain ⟨t1, t2⟩ := ticks_bd ha
  obtain ⟨t3, t4⟩ := ticks_bd hb
  obtain ⟨_, _, _, i1, i2, i3, _⟩ := convT_ok ci
  obtain ⟨_, _, _, o1, o2, o3, _⟩ := convT_ok co
  have hstep : i * rTicks a + rTicks b ≤ o * rTicks a := by
    have : (i + 1) * rTicks a ≤ o * rTicks a := Int.mul_le_mul_of_nonneg_right (by omega) (by omega)
    rw [Int.add_mul, Int.one_mul] at this
    omega
  have hmono := quo_mono i1 (show 0 < rTicks b by omega) hstep
  have emax : max (convT a b o 2).1 ((convT a b i 2).1 + 1) = (convT a b o 2).1 := by rw [i3, o3]; omega
  rw [e1, emax] at h2 ⊢
  dsimp only at h2 ⊢
  obtain ⟨_, _, _, _, _, di, d_o, e2, _⟩ := spanT_time h2
  obtain ⟨_, _, _, p1, _, p3, _⟩ := convT_ok di
  obtain ⟨_, _, _, q1, _, q3, _⟩ := convT_ok d_o
  obtain ⟨n1, n2, _⟩ := quo_near i1 (show 0 < rTicks b by omega)
  obtain ⟨m1, m2, _⟩ := quo_near o1 (show 0 < rTicks b by omega)
  have back : ∀ k q : Int, 0 ≤ q * rTicks b → 2 * (q * rTicks b - k * rTicks a) ≤ rTicks b → -rTicks b ≤ 2 * (q * rTicks b - k * rTicks a) → quoI (q * rTicks b) (rTicks a) 2 = k := by
    intro k q hq g1 g2
    by_cases hlt : rTicks b < rTicks a
    · exact quo_unique hq (by omega) (by omega) (by omega)
    · have he : rTicks b = rTicks a := by omega
      rw [he] at g1 g2 hq ⊢
      have hz : (q - k) * rTicks a = q * rTicks a - k * rTicks a := Int.sub_mul ..
      have hq' : q = k := by
        rcases Int.lt_trichotomy q k with h | h | h
        · have : (q - k) * rTicks a ≤ (-1) * rTicks a := Int.mul_le_mul_of_nonneg_right (by omega) (by omega)
          omega
        · exact h
        · have : 1 * rTicks a ≤ (q - k) * rTicks a := Int.mul_le_mul_of_nonneg_right (by omega) (by omega)
          omega
      subst hq'
      exact quo_unique hq (by omega) (by omega) (by omega)
  have bi : (convT b a (convT a b i 2).1 2).1 = i := by
    rw [p3, i3]
    exact back i _ (by rw [← i3]; exact p1) n1 n2
  have bo : (convT b a (convT a b o 2).1 2).1 = o := by
    rw [q3, o3]
    exact back o _ (by rw [← o3]; exact q1) m1 m2
  rw [e2, bi, bo]
  have : max o (i + 1) = o := by omega
  rw [this]
end Go.Proofs.YtbfaghgjbipilaaDoor

/-! WorstP -/
namespace Go.Proofs.YtbfaghgjbipilaaDoor
set_option linter.unusedVariables false
set_option linter.unusedSimpArgs false
open Go.RowKit

/-- a drift -/
structure Dri where
  id : Int
  inn : Int
  out : Int
  deriving DecidableEq
def Dri.vals (d : Dri) : List Value := [.int .i64 d.id, .int .i64 d.inn, .int .i64 d.out]
def DrisAt (w : World) (A : Option Addr) (n : Nat) (l : List Dri) : Prop := Sl w 3 (Cells Dri.vals) A n l
theorem DrisAt.ext {w w1 : World} {A : Option Addr} {n : Nat} {l : List Dri} (h : DrisAt w A n l) (k : Ext w w1) : DrisAt w1 A n l := Sl.ext (Cells.stays _) h k
theorem DrisAt.at3 {w : World} {A : Option Addr} {n : Nat} {l : List Dri} (h : DrisAt w A n l) {i : Nat} (hi : i < n) : ∃ b off d, A = some ⟨b, off, none⟩ ∧ l[i]? = some d ∧
    (w.cell? ⟨b, off + i * 3, none⟩ = some (.int .i64 d.id) ∧ w.cell? ⟨b, off + i * 3 + 1, none⟩ = some (.int .i64 d.inn) ∧ w.cell? ⟨b, off + i * 3 + 2, none⟩ = some (.int .i64 d.out)) := by
  obtain ⟨b, off, c, hA, hc, hC⟩ := h.at_ hi
  exact ⟨b, off, c, hA, hc, by simpa using hC 0 _ rfl, hC 1 _ rfl, hC 2 _ rfl⟩
/-- the numbers fit -/
def Dri.Fits (d : Dri) : Prop := (-9223372036854775808 ≤ d.inn ∧ d.inn ≤ 9223372036854775807) ∧ (-9223372036854775808 ≤ d.out ∧ d.out ≤ 9223372036854775807)
/-- the size of a drift -/
def dsz (n : Int) : Int := if n = -9223372036854775808 then 9223372036854775807 else if n < 0 then -n else n
theorem dsz_bd {n : Int} (h1 : -9223372036854775808 ≤ n) (h2 : n ≤ 9223372036854775807) : 0 ≤ dsz n ∧ dsz n ≤ 9223372036854775807 := by
  unfold dsz
  split
  · omega
  · split <;> omega
def worstStep (n : Int) (d : Dri) : Int := max (max n (dsz d.inn)) (dsz d.out)
def worst (l : List Dri) : Int := l.foldl worstStep 0
theorem worst_snoc (l : List Dri) (d : Dri) : worst (l ++ [d]) = worstStep (worst l) d := by simp [worst, List.foldl_append]
theorem worst_take {l : List Dri} {k : Nat} {d : Dri} (h : l[k]? = some d) : worst (l.take (k + 1)) = worstStep (worst (l.take k)) d := by rw [take_snoc' l k d h, worst_snoc]
theorem worst_ge : ∀ (l : List Dri) (n : Int), n ≤ l.foldl worstStep n ∧ (∀ d ∈ l, dsz d.inn ≤ l.foldl worstStep n ∧ dsz d.out ≤ l.foldl worstStep n) ∧ (l.foldl worstStep n = n ∨ ∃ d ∈ l, dsz d.inn = l.foldl worstStep n ∨ dsz d.out = l.foldl worstStep n)
  | [], n => ⟨Int.le_refl _, by simp, .inl rfl⟩
  | x :: l, n => by
    obtain ⟨h1, h2, h3⟩ := worst_ge l (worstStep n x)
    rw [List.foldl_cons]
    have hs : n ≤ worstStep n x ∧ dsz x.inn ≤ worstStep n x ∧ dsz x.out ≤ worstStep n x ∧ (worstStep n x = n ∨ dsz x.inn = worstStep n x ∨ dsz x.out = worstStep n x) := by unfold worstStep; omega
    refine ⟨by omega, fun d hd => ?_, ?_⟩
    · rcases List.mem_cons.1 hd with rfl | hd
      · omega
      · exact h2 d hd
    · rcases h3 with h3 | ⟨d, hd, h3⟩
      · rw [h3]
        rcases hs.2.2.2 with h | h | h
        · exact .inl h
        · exact .inr ⟨x, by simp, .inl h⟩
        · exact .inr ⟨x, by simp, .inr h⟩
      · exact .inr ⟨d, by simp [hd], h3⟩
theorem worst_bd {l : List Dri} (hl : ∀ d ∈ l, d.Fits) : 0 ≤ worst l ∧ worst l ≤ 9223372036854775807 := by
  obtain ⟨h1, h2, h3⟩ := worst_ge l 0
  refine ⟨h1, ?_⟩
  rcases h3 with h3 | ⟨d, hd, h3 | h3⟩
  · show l.foldl worstStep 0 ≤ _; omega
  · have := dsz_bd (hl d hd).1.1 (hl d hd).1.2; show l.foldl worstStep 0 ≤ _; omega
  · have := dsz_bd (hl d hd).2.1 (hl d hd).2.2; show l.foldl worstStep 0 ≤ _; omega
/-- whether the worst is met among these -/
def metB (n : Int) (l : List Dri) : Bool := decide (n = 0) || l.any fun d => decide (dsz d.inn = n) || decide (dsz d.out = n)
theorem met_all (l : List Dri) : metB (worst l) l = true := by
  unfold metB
  rcases (worst_ge l 0).2.2 with h | ⟨d, hd, h⟩
  · have : worst l = 0 := h
    simp [this]
  · simp only [Bool.or_eq_true, List.any_eq_true, decide_eq_true_eq]
    exact .inr ⟨d, hd, h⟩
theorem met_take {l : List Dri} {k : Nat} {d : Dri} {n : Int} (h : l[k]? = some d) : metB n (l.take (k + 1)) = (metB n (l.take k) || decide (dsz d.inn = n) || decide (dsz d.out = n)) := by
  rw [take_snoc' l k d h]
  unfold metB
  simp [Bool.or_assoc]
/-- the number whose size is taken -/
def dfix (x : Int) : Int := if x = -9223372036854775808 then -9223372036854775807 else x
theorem dfix_size (x : Int) : dsz x = if dfix x < 0 then -dfix x else dfix x := by
  unfold dsz dfix
  by_cases h : x = -9223372036854775808
  · simp [h]
  · simp [h]
theorem dfix_le {x n : Int} (h : dsz x ≤ n) : ¬ n < dfix x ∧ ¬ n < -dfix x := by
  rw [dfix_size] at h
  split at h <;> omega
theorem dfix_met {x n : Int} (hn : 0 ≤ n) : (decide (dfix x = n) || decide (-dfix x = n)) = decide (dsz x = n) := by
  rw [dfix_size, ← Bool.decide_or]
  congr 1
  apply propext
  split <;> omega
end Go.Proofs.YtbfaghgjbipilaaDoor

/-! RetP -/
namespace Go.Proofs.YtbfaghgjbipilaaDoor
set_option linter.unusedVariables false
set_option linter.unusedSimpArgs false
open Go.RowKit

/-- the document without anything -/
def Doc.zero : Doc := ⟨⟨#[]⟩, ⟨#[]⟩, 0, false, 0, [], [], []⟩
/-- the span of an event in another rate, and the error -/
def Ev.span (a b m : Int) (x : Ev) : (Int × Int) × Int := spanT a b x.inn x.out m
/-- the first error of the spans -/
def retErr (a b m : Int) : List Ev → Int
  | [] => 0
  | x :: l => if (x.span a b m).2 ≠ 0 then (x.span a b m).2 else retErr a b m l
/-- the event at place k in another rate -/
def retEv (a b m : Int) (k : Nat) (x : Ev) : Ev := ⟨(k : Int) + 1, (x.span a b m).1.1, (x.span a b m).1.2, x.region, x.kind, x.speaker, x.rows⟩
def retDri (a b m : Int) (k : Nat) (x : Ev) : Dri := ⟨(k : Int) + 1, (x.span a b m).1.1 * rTicks b - x.inn * rTicks a, (x.span a b m).1.2 * rTicks b - x.out * rTicks a⟩
def retEvs (a b m : Int) (l : List Ev) : List Ev := l.mapIdx (retEv a b m)
def retDris (a b m : Int) (l : List Ev) : List Dri := l.mapIdx (retDri a b m)
/-- the new number of an event -/
def newId (l : List Ev) (id : Int) : Int := match findE l id with | some k => (k : Int) + 1 | none => 0
/-- the comments that are not lost, numbered behind a number -/
def retComs (evs : List Ev) : Int → List Com → List Com
  | _, [] => []
  | p, c :: l => if c.lost = true then retComs evs p l else ⟨p + 1, newId evs c.ev, c.fr, c.til, c.author, c.text, c.done, c.lost⟩ :: retComs evs (p + 1) l
def liveN (l : List Com) : Nat := (l.filter fun c => !c.lost).length
def Doc.ret (d : Doc) (b : Int) (drop : Bool) (m : Int) : Doc :=
  ⟨d.title, d.lang, b, drop, (d.evs.length : Int) + liveN d.coms, d.regs, retEvs d.rate b m d.evs, retComs d.evs d.evs.length d.coms⟩
/-- the error of a document in another rate -/
def Doc.retE (d : Doc) (b : Int) (drop : Bool) (m : Int) : Int :=
  if d.err ≠ 0 then d.err else if rateOkB b drop = false then 13 else if ¬ (m = 1 ∨ m = 2) then 1 else retErr d.rate b m d.evs
/-- the document, the drifts -/
def Doc.retD (d : Doc) (b : Int) (drop : Bool) (m : Int) : Doc := if d.retE b drop m = 0 then d.ret b drop m else Doc.zero
def Doc.retL (d : Doc) (b : Int) (drop : Bool) (m : Int) : List Dri := if d.retE b drop m = 0 then retDris d.rate b m d.evs else []

theorem mapIdx_snoc {α β : Type} (f : Nat → α → β) (l : List α) (x : α) : (l ++ [x]).mapIdx f = l.mapIdx f ++ [f l.length x] := by simp [List.mapIdx_append]
theorem mapIdx_take {α β : Type} (f : Nat → α → β) {l : List α} {k : Nat} {x : α} (h : l[k]? = some x) : (l.take (k + 1)).mapIdx f = (l.take k).mapIdx f ++ [f k x] := by
  have := (List.getElem?_eq_some_iff.1 h).1
  rw [take_snoc' l k x h, mapIdx_snoc, List.length_take, Nat.min_eq_left (by omega)]
theorem retErr_step {a b m : Int} {l : List Ev} {k : Nat} {x : Ev} {E : Int} (h : l[k]? = some x) (hP : E = retErr a b m (l.drop k)) : ((x.span a b m).2 ≠ 0 → E = (x.span a b m).2) ∧ ((x.span a b m).2 = 0 → E = retErr a b m (l.drop (k + 1))) := by
  rw [drop_at l k x h] at hP
  unfold retErr at hP
  refine ⟨fun h => by rw [if_pos h] at hP; exact hP, fun h => by rw [if_neg (by simpa using h)] at hP; exact hP⟩
theorem retErr_all {a b m : Int} : ∀ {l : List Ev}, retErr a b m l = 0 → ∀ x ∈ l, (x.span a b m).2 = 0
  | [], _, x, hx => by simp at hx
  | y :: l, h, x, hx => by
    unfold retErr at h
    split at h
    · rename_i h1; exact absurd h h1
    · rename_i h1
      rcases List.mem_cons.1 hx with rfl | hx
      · simpa using h1
      · exact retErr_all h x hx
theorem retComs_snoc (evs : List Ev) : ∀ (l : List Com) (p : Int) (c : Com), retComs evs p (l ++ [c]) = retComs evs p l ++ (if c.lost = true then [] else [⟨p + liveN l + 1, newId evs c.ev, c.fr, c.til, c.author, c.text, c.done, c.lost⟩])
  | [], p, c => by simp [retComs, liveN]
  | y :: l, p, c => by
    rw [List.cons_append, retComs, retComs]
    cases hy : y.lost
    · have hl : (liveN (y :: l) : Int) = 1 + (liveN l : Int) := by simp [liveN, List.filter_cons, hy]; omega
      have hn : ¬ (false = true) := by decide
      rw [if_neg hn, if_neg hn, retComs_snoc evs l (p + 1) c, List.cons_append, hl]
      rw [show p + 1 + (liveN l : Int) + 1 = p + (1 + (liveN l : Int)) + 1 by omega]
    · have hl : liveN (y :: l) = liveN l := by simp [liveN, List.filter_cons, hy]
      rw [if_pos rfl, if_pos rfl, retComs_snoc evs l p c, hl]
theorem liveN_snoc (l : List Com) (c : Com) : liveN (l ++ [c]) = liveN l + if c.lost = true then 0 else 1 := by
  unfold liveN
  rw [List.filter_append, List.length_append]
  cases h : c.lost <;> simp [List.filter_cons, h]
theorem liveN_le (l : List Com) : liveN l ≤ l.length := List.length_filter_le _ _
theorem retComs_len (evs : List Ev) : ∀ (l : List Com) (p : Int), (retComs evs p l).length = liveN l
  | [], p => by simp [retComs, liveN]
  | y :: l, p => by
    rw [retComs]
    cases hy : y.lost
    · rw [if_neg (by decide), List.length_cons, retComs_len evs l (p + 1)]; simp [liveN, List.filter_cons, hy]
    · rw [if_pos rfl, retComs_len evs l p]; simp [liveN, List.filter_cons, hy]
/-- the last of the numbered comments -/
theorem retComs_take (evs : List Ev) {l : List Com} {k : Nat} {c : Com} (h : l[k]? = some c) (p : Int) :
    retComs evs p (l.take (k + 1)) = retComs evs p (l.take k) ++ (if c.lost = true then [] else [⟨p + liveN (l.take k) + 1, newId evs c.ev, c.fr, c.til, c.author, c.text, c.done, c.lost⟩]) := by
  rw [take_snoc' l k c h, retComs_snoc]
theorem liveN_take {l : List Com} {k : Nat} {c : Com} (h : l[k]? = some c) : liveN (l.take (k + 1)) = liveN (l.take k) + if c.lost = true then 0 else 1 := by
  rw [take_snoc' l k c h, liveN_snoc]
end Go.Proofs.YtbfaghgjbipilaaDoor
