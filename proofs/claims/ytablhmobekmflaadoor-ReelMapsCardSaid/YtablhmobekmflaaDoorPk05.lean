/- Laid together: A drawn region whose operations with effects stand in a chain, and that makes variables besides, at whatever time. The walk of reel.only: the last cut of a reel and the number of its cuts. The walk of reel.Swap up to the copy: its first errors. The walks of captionerlaw44.Of, Ref and of captionerlaw45.small; the example of awake, plainly. -/
import Derived.Test.YtablhmobekmflaaDoorPk04

/-! Allocs -/
namespace Go.Proofs.YtablhmobekmflaaDoor
set_option linter.unusedVariables false
set_option linter.unusedSimpArgs false
open Go.RowKit
def valA (chain al : List Nat) (pv us : List Value) (gs : Nat → Option Nat) (j : Nat) : Value :=
  match chain.idxOf? j with
  | some i => us.getD i undef
  | none => if al.contains j then .pointer ((gs j).map fun g => ⟨g, 0, none⟩) else pv.getD j undef
def upd (gs : Nat → Option Nat) (j g : Nat) : Nat → Option Nat := fun k => if k = j then some g else gs k
theorem upd_self (gs : Nat → Option Nat) (j g : Nat) : upd gs j g j = some g := by simp [upd]
theorem upd_other (gs : Nat → Option Nat) {j k : Nat} (h : k ≠ j) (g : Nat) : upd gs j g k = gs k := by simp [upd, h]
def AlInv (ops : Array Oper) (chain al : List Nat) (pv : List Value) (a0 : Act) (J : List Value → (Nat → Option Nat) → World → Prop) (l : Array Bool) (a : Act) (w : World) : Prop :=
  l.size = ops.size ∧ a.defers = a0.defers ∧ a.tmps.size = a0.tmps.size ∧ (∀ s, (∀ j, dstO ops j = some s → l.getD j false = false) → a.tmps[s]? = a0.tmps[s]?) ∧
  (∀ j o, l.getD j false = true → ops[j]? = some o → ∀ d ∈ o.after, Region.binds .any d = true → l.getD d.on false = true) ∧
  ∃ (us : List Value) (gs : Nat → Option Nat), us.length ≤ chain.length ∧ (∀ i c, chain[i]? = some c → (l.getD c false = true ↔ i < us.length)) ∧ (∀ j, al.contains j = true → (l.getD j false = true ↔ (gs j).isSome = true)) ∧
    (∀ j s, l.getD j false = true → dstO ops j = some s → a.tmps[s]? = some (valA chain al pv us gs j)) ∧ J us gs w
/-- what an operation finds in the frame, by the region's tables -/
structure SeesA (slots : List (Option Nat)) (deps : List (List Nat)) (chain al : List Nat) (pv us : List Value) (gs : Nat → Option Nat) (a0 a : Act) (i : Nat) : Prop where
  old : ∀ (s : Nat) (v : Value), slots.contains (some s) = false → a0.eval (.tmp s) = v → a.eval (.tmp s) = v
  pure : ∀ (j s : Nat) (v : Value), (deps.getD i []).contains j = true → slots[j]? = some (some s) → chain.contains j = false → al.contains j = false → pv[j]? = some v → a.eval (.tmp s) = v
  link : ∀ (p j s : Nat) (v : Value), chain[p]? = some j → (deps.getD i []).contains j = true → slots[j]? = some (some s) → us[p]? = some v → a.eval (.tmp s) = v
  ptr : ∀ (j s : Nat), (deps.getD i []).contains j = true → slots[j]? = some (some s) → chain.contains j = false → al.contains j = true → ∃ g, gs j = some g ∧ a.eval (.tmp s) = .pointer (some ⟨g, 0, none⟩)
  made : ∀ (j : Nat), (deps.getD i []).contains j = true → al.contains j = true → (gs j).isSome = true
  did : ∀ (p j : Nat), chain[p]? = some j → (deps.getD i []).contains j = true → p < us.length
  olds : ∀ (p j s : Nat) (v : Value), chain[p]? = some j → slots[j]? = some (some s) → us.length ≤ p → a0.eval (.tmp s) = v → a.eval (.tmp s) = v
def frameA (ops : Array Oper) (chain al : List Nat) (pv us : List Value) (gs : Nat → Option Nat) : List (Nat × Value) := (List.range ops.size).filterMap fun j => (dstO ops j).map fun s => (s, valA chain al pv us gs j)
theorem wp_region_allocs {P : Program} {ops : Array Oper} {Q : Exit → Act → World → Prop} {id : Nat} {a0 : Act} {W : World} (slots : List (Option Nat)) (deps : List (List Nat)) (chain al : List Nat) (pv : List Value) (obj : Nat → Obj) (J : List Value → (Nat → Option Nat) → World → Prop) (hm : P.follows .mixedOrders = true) (hdst : dstOK2 ops a0.tmps.size = true) (hord : ordB 0 ops.toList = true)
    (hs : ops.toList.map (·.dst) = slots) (hd : ops.toList.map depsOf = deps) (hg : ops.toList.all (fun o => o.guard.isNone) = true) (hch : chainB ops chain = true) (hnd : chain.Nodup) (hal : (al.all fun j => decide (j < ops.size) && !chain.contains j) = true) (h0 : J [] (fun _ => none) W.drew)
    (halloc : ∀ (i : Nat) (o : Oper), ops[i]? = some o → al.contains i = true → ∀ (a : Act) (w : World) (K : Act → World → Prop), K (a.put o.dst (.pointer (some ⟨w.heap.size, 0, none⟩))) (w.alloc (obj i)) → Oper.wp P o a w K Q)
    (hJal : ∀ (i : Nat), al.contains i = true → ∀ us gs w, J us gs w → gs i = none → (∀ p c, chain[p]? = some c → (deps.getD c []).contains i = true → us.length ≤ p) → J us (upd gs i w.heap.size) (w.alloc (obj i)))
    (hpure : ∀ (i : Nat) (o : Oper), ops[i]? = some o → chain.contains i = false → al.contains i = false → ∀ (a : Act) (w : World) (us : List Value) (gs : Nat → Option Nat) (K : Act → World → Prop), J us gs w → SeesA slots deps chain al pv us gs a0 a i → (∀ p c, chain[p]? = some c → (deps.getD c []).contains i = true → us.length ≤ p) → K (a.put o.dst (pv.getD i undef)) w → Oper.wp P o a w K Q)
    (hlink : ∀ (p c : Nat) (o : Oper), chain[p]? = some c → ops[c]? = some o → ∀ (a : Act) (w : World) (us : List Value) (gs : Nat → Option Nat) (K : Act → World → Prop), us.length = p → J us gs w → SeesA slots deps chain al pv us gs a0 a c → (∀ v w', J (us ++ [v]) gs w' → K (a.put o.dst v) w') → Oper.wp P o a w K Q)
    (hQ : ∀ us gs w, us.length = chain.length → (∀ j, al.contains j = true → (gs j).isSome = true) → J us gs w → Q .normal { a0 with tmps := (frameA ops chain al pv us gs).foldl (fun t p => t.setIfInBounds p.1 p.2) a0.tmps } w) :
    (Code.region id ops true).wp P Q a0 W := by
  have hgd : ∀ (i : Nat) (o : Oper), ops[i]? = some o → o.guard = none := fun i o ho => by
    have := List.all_eq_true.1 hg o (by simpa using Array.mem_of_getElem? ho)
    simpa using this
  have hdep : ∀ (i : Nat) (o : Oper), ops[i]? = some o → deps.getD i [] = depsOf o := fun i o ho => by
    rw [← hd, List.getD_eq_getElem?_getD, List.getElem?_map]
    have : ops.toList[i]? = some o := by simpa using ho
    rw [this]; rfl
  have hsl : ∀ j s, slots[j]? = some (some s) → dstO ops j = some s := fun j s h => by
    rw [← hs, List.getElem?_map, Option.map_eq_some_iff] at h
    obtain ⟨o', h1, h2⟩ := h
    have h1' : ops[j]? = some o' := by simpa using h1
    simp [dstO, h1', h2]
  have hallt : ∀ j, al.contains j = true → j < ops.size ∧ chain.contains j = false := fun j hj => by
    have := List.all_eq_true.1 hal j (by simpa using hj)
    simpa using this
  refine wp_region_any hm ?_
  refine wpAny_inv (AlInv ops chain al pv a0 J) (fun l a w h => h.1) ?_ (hordB hord) ?_ _ _ _ _ (by simp) ?_
  · intro l a w hI i o ho hl hall K hK
    obtain ⟨hsz0, hdf, hsz, hnot, hcl, us, gs, hul, hcu, hga, hval, hJ⟩ := hI
    have hi : i < ops.size := (Array.getElem?_eq_some_iff.1 ho).1
    have hnl := not_listed hl
    have hself : (l.setIfInBounds i true).getD i false = true := getD_set_self (by omega)
    have hdone : ∀ j, (deps.getD i []).contains j = true → l.getD j false = true := fun j hj => by
      rw [hdep i o ho] at hj
      obtain ⟨d, hd1, hd2, hd3⟩ := edge_of (edge_deps hj)
      rw [← hd3]
      exact hall d hd1 hd2
    have hfind : SeesA slots deps chain al pv us gs a0 a i := by
      refine ⟨fun s v hc hv => ?_, fun j s v he hj hc ha hv => ?_, fun p j s v hp he hj hv => ?_, fun j s he hj hc ha => ?_, fun j he ha => (hga j ha).1 (hdone j he), fun p j hp he => (hcu p j hp).1 (hdone j he), fun p j s v hp hj hl0 hv => by
        have := hnot s fun j' hj' => by
          have e : j' = j := dst_inj hdst hj' (hsl j s hj)
          subst e
          cases hx : l.getD j' false
          · rfl
          · exact absurd ((hcu p _ hp).1 hx) (by omega)
        rw [← hv]
        simp [Act.eval, this]⟩
      · have hn : some s ∉ ops.toList.map (·.dst) := by rw [hs]; simpa using hc
        have := hnot s (fun j hj => by
          unfold dstO at hj
          rw [Option.bind_eq_some_iff] at hj
          obtain ⟨o', h1, h2⟩ := hj
          exact absurd (List.mem_map.2 ⟨o', by simpa using Array.mem_of_getElem? h1, h2⟩) hn)
        rw [← hv]
        simp [Act.eval, this]
      · refine eval_of ?_
        rw [hval j s (hdone j he) (hsl j s hj)]
        have : chain.idxOf? j = none := idxOf_none (by simpa using hc)
        simp only [valA, this, ha]
        simp [hv]
      · refine eval_of ?_
        rw [hval j s (hdone j he) (hsl j s hj)]
        have : chain.idxOf? j = some p := idxOf_some hnd hp
        simp only [valA, this]
        simp [hv]
      · obtain ⟨g, hg'⟩ := Option.isSome_iff_exists.1 ((hga j ha).1 (hdone j he))
        refine ⟨g, hg', eval_of ?_⟩
        rw [hval j s (hdone j he) (hsl j s hj)]
        have : chain.idxOf? j = none := idxOf_none (by simpa using hc)
        simp only [valA, this, ha, hg']
        rfl
    have hclosed : ∀ j o', (l.setIfInBounds i true).getD j false = true → ops[j]? = some o' → ∀ d ∈ o'.after, Region.binds .any d = true → (l.setIfInBounds i true).getD d.on false = true := by
      intro j o' hj ho' d hd hb
      have mono : ∀ k, l.getD k false = true → (l.setIfInBounds i true).getD k false = true := fun k hk => by
        by_cases hik : i = k
        · subst hik; exact hself
        · rw [getD_set_other hik]; exact hk
      by_cases hij : i = j
      · subst hij
        rw [ho] at ho'
        cases ho'
        exact mono _ (hall d hd hb)
      · rw [getD_set_other hij] at hj
        exact mono _ (hcl j o' hj ho' d hd hb)
    have hput : ∀ v s, (∀ j, dstO ops j = some s → (l.setIfInBounds i true).getD j false = false) → (a.put o.dst v).tmps[s]? = a0.tmps[s]? := fun v s hsn => by
      have hsn' : ∀ j, dstO ops j = some s → l.getD j false = false := fun j hj => by
        have h1 := hsn j hj
        by_cases hij : i = j
        · subst hij; rw [hself] at h1; cases h1
        · rwa [getD_set_other hij] at h1
      cases hd : o.dst with
      | none => simp only [Act.put]; exact hnot s hsn'
      | some t =>
        have : dstO ops i = some t := by unfold dstO; rw [ho]; exact hd
        have hts : t ≠ s := fun e => by
          have h1 := hsn i (by rw [this, e])
          rw [hself] at h1; cases h1
        simp only [Act.put]
        rw [Array.getElem?_setIfInBounds_ne hts]
        exact hnot s hsn'
    have hputd : ∀ v, (a.put o.dst v).defers = a0.defers ∧ (a.put o.dst v).tmps.size = a0.tmps.size := fun v => by
      cases hd : o.dst with
      | none => exact ⟨hdf, hsz⟩
      | some t => exact ⟨hdf, by simpa [Act.put] using hsz⟩
    have hputv : ∀ us' gs' v, valA chain al pv us' gs' i = v → (∀ j, l.getD j false = true → valA chain al pv us' gs' j = valA chain al pv us gs j) → ∀ j s, (l.setIfInBounds i true).getD j false = true → dstO ops j = some s → (a.put o.dst v).tmps[s]? = some (valA chain al pv us' gs' j) := by
      intro us' gs' v hv hsame j s hj hd
      by_cases hij : i = j
      · subst hij
        have hod : o.dst = some s := by unfold dstO at hd; rw [ho] at hd; exact hd
        rw [hod, hv]
        have := dst_lt hdst hd
        simp [Act.put, hsz, this]
      · rw [getD_set_other hij] at hj
        rw [hsame j hj]
        cases hod : o.dst with
        | none => simp only [Act.put]; exact hval j s hj hd
        | some t =>
          have h1 : dstO ops i = some t := by unfold dstO; rw [ho]; exact hod
          have hts : t ≠ s := fun e => hij (dst_inj hdst h1 (by rw [hd, e]))
          simp only [Act.put]
          rw [Array.getElem?_setIfInBounds_ne hts]
          exact hval j s hj hd
    have hlim : i ∉ chain → ∀ p c, chain[p]? = some c → (deps.getD c []).contains i = true → us.length ≤ p := fun hic p c hp he => by
      rcases Nat.lt_or_ge p us.length with h | h
      · have hclt := chainB_lt hch hp
        have hoc : ops[c]? = some ops[c] := by simp [hclt]
        rw [hdep c _ hoc] at he
        obtain ⟨d, hd1, hd2, hd3⟩ := edge_of (edge_deps he)
        have := hcl c _ ((hcu p c hp).2 h) hoc d hd1 hd2
        rw [hd3, hnl] at this
        cases this
      · exact h
    refine want_none (hgd i o ho) ?_
    by_cases hc : i ∈ chain
    · obtain ⟨p, hp⟩ := List.getElem?_of_mem hc
      have hle : us.length ≤ p := by
        rcases Nat.lt_or_ge p us.length with h | h
        · have := (hcu p i hp).2 h
          rw [hnl] at this
          cases this
        · exact h
      have hge : p ≤ us.length := by
        cases p with
        | zero => omega
        | succ q =>
          have hpl := (List.getElem?_eq_some_iff.1 hp).1
          have hq : chain[q]? = some chain[q] := List.getElem?_eq_getElem (by omega)
          have := (hcu q _ hq).1 (chain_done hcl hall hch hq hp ho)
          omega
      have hpl := (List.getElem?_eq_some_iff.1 hp).1
      refine hlink p i o hp ho a w us gs K (by omega) hJ hfind (fun v w' hJ' => ?_)
      apply hK
      have hlen : (us ++ [v]).length = us.length + 1 := by simp
      refine ⟨by simpa using hsz0, (hputd v).1, (hputd v).2, hput v, hclosed, us ++ [v], gs, by rw [hlen]; omega, fun q c hq => ?_, fun j hj => ?_, hputv _ gs v ?_ ?_, hJ'⟩
      · rw [hlen]
        by_cases hic : i = c
        · subst hic
          have : q = p := by
            have h1 := idxOf_some hnd hq
            have h2 := idxOf_some hnd hp
            rw [h1] at h2
            exact Option.some.inj h2
          rw [hself]
          simp
          omega
        · rw [getD_set_other hic, hcu q c hq]
          have : q ≠ p := fun e => hic (by rw [e, hp] at hq; exact Option.some.inj hq)
          omega
      · have : i ≠ j := fun e => by
          have := (hallt j hj).2
          rw [← e] at this
          exact absurd hc (by simpa using this)
        rw [getD_set_other this]
        exact hga j hj
      · simp only [valA, idxOf_some hnd hp]
        rw [List.getD_eq_getElem?_getD, List.getElem?_append_right (by omega)]
        have : p - us.length = 0 := by omega
        simp [this]
      · intro j hj
        unfold valA
        cases hx : chain.idxOf? j with
        | none => rfl
        | some q =>
          have hq : chain[q]? = some j := by
            obtain ⟨h1, h2, _⟩ := List.idxOf?_eq_some_iff.1 hx
            rw [List.getElem?_eq_getElem h1, h2]
          have := (hcu q j hq).1 hj
          simp only [List.getD_eq_getElem?_getD]
          rw [List.getElem?_append_left this]
    · have hcf : chain.contains i = false := by simpa using hc
      have hcq : ∀ q c, chain[q]? = some c → ((l.setIfInBounds i true).getD c false = true ↔ q < us.length) := fun q c hq => by
        have : i ≠ c := fun e => hc (by rw [e]; exact List.mem_of_getElem? hq)
        rw [getD_set_other this]
        exact hcu q c hq
      cases ha : al.contains i with
      | true =>
        have hgn : gs i = none := by
          have := hga i ha
          rw [hnl] at this
          cases h : gs i with
          | none => rfl
          | some g => rw [h] at this; simp at this
        refine halloc i o ho ha a w K ?_
        apply hK
        refine ⟨by simpa using hsz0, (hputd _).1, (hputd _).2, hput _, hclosed, us, upd gs i w.heap.size, hul, hcq, fun j hj => ?_, hputv us _ _ ?_ (fun j hj => ?_), hJal i ha us gs w hJ hgn (hlim hc)⟩
        · by_cases hij : j = i
          · subst hij
            rw [hself, upd_self]
            simp
          · rw [getD_set_other (Ne.symm hij), upd_other _ hij]
            exact hga j hj
        · simp only [valA, idxOf_none hc, ha, upd_self]
          rfl
        · have hij : j ≠ i := fun e => by rw [e, hnl] at hj; cases hj
          simp only [valA, upd_other _ hij]
      | false =>
        refine hpure i o ho hcf ha a w us gs K hJ hfind (hlim hc) ?_
        apply hK
        refine ⟨by simpa using hsz0, (hputd _).1, (hputd _).2, hput _, hclosed, us, gs, hul, hcq, fun j hj => ?_, hputv us gs _ ?_ (fun _ _ => rfl), hJ⟩
        · have : i ≠ j := fun e => by rw [e, hj] at ha; cases ha
          rw [getD_set_other this]
          exact hga j hj
        · simp only [valA, idxOf_none hc, ha]
          rfl
  · rintro l a w ⟨hsz0, hdf, hsz, hnot, hcl, us, gs, hul, hcu, hga, hval, hJ⟩ hall
    have hlen : us.length = chain.length := by
      rcases Nat.lt_or_ge us.length chain.length with h | h
      · have hq : chain[us.length]? = some chain[us.length] := List.getElem?_eq_getElem h
        have := (hcu _ _ hq).1 (hall _ (chainB_lt hch hq))
        omega
      · omega
    have hfr := frame_eq (a0 := a0.tmps) (frameA ops chain al pv us gs) a.tmps a0.tmps hsz (fun p hp => by
      obtain ⟨j, hj, hv⟩ := List.mem_filterMap.1 hp
      rw [Option.map_eq_some_iff] at hv
      obtain ⟨s, hd, rfl⟩ := hv
      exact hval j s (hall j (by simpa using hj)) hd) (fun s hsn => hnot s fun j hj => absurd (by
        have hjl : j < ops.size := by
          unfold dstO at hj
          rw [Option.bind_eq_some_iff] at hj
          obtain ⟨o', h1, _⟩ := hj
          exact (Array.getElem?_eq_some_iff.1 h1).1
        rw [List.mem_map]
        exact ⟨(s, valA chain al pv us gs j), List.mem_filterMap.2 ⟨j, by simpa using hjl, by rw [hj]; rfl⟩, rfl⟩) hsn)
    have : a = { a0 with tmps := (frameA ops chain al pv us gs).foldl (fun t p => t.setIfInBounds p.1 p.2) a0.tmps } := by
      obtain ⟨at_, ad⟩ := a
      simp only at hfr hdf
      rw [hfr, hdf]
    rw [this]
    exact hQ us gs w hlen (fun j hj => (hga j hj).1 (hall j (hallt j hj).1)) hJ
  · refine ⟨by simp, rfl, rfl, fun _ _ => rfl, fun j o h => ?_, [], fun _ => none, by simp, fun i c hc => ?_, fun j hj => ?_, fun j s h => ?_, h0⟩
    · simp [Array.getElem?_replicate] at h
      split at h <;> simp at h
    · have : (Array.replicate ops.size false).getD c false = false := by
        simp [Array.getElem?_replicate]
        split <;> rfl
      rw [this]
      simp
    · have : (Array.replicate ops.size false).getD j false = false := by
        simp [Array.getElem?_replicate]
        split <;> rfl
      rw [this]
      simp
    · simp [Array.getElem?_replicate] at h
      split at h <;> simp at h
end Go.Proofs.YtablhmobekmflaaDoor

/-! Only -/
namespace Go.Proofs.YtablhmobekmflaaDoor
set_option linter.unusedVariables false
set_option linter.unusedSimpArgs false
open Go.RowKit
theorem bs_eq (x y : ByteArray) : (x.toList == y.toList) = decide (x = y) := by
  by_cases h : x = y
  · subst h; simp
  · rw [decide_eq_false h, beq_eq_false_iff_ne]
    intro he
    rw [ByteArray.toList_eq, ByteArray.toList_eq] at he
    exact h (by cases x; cases y; simp_all [Array.toList_inj])
def isR (l : List Cut) (s : ByteArray) (k : Nat) : Prop := (l[k]?).map (·.reel) = some s
instance (l : List Cut) (s : ByteArray) (k : Nat) : Decidable (isR l s k) := inferInstanceAs (Decidable ((l[k]?).map (·.reel) = some s))
/-- the last place of a reel ahead of place k, and how many there are -/
def lastI (l : List Cut) (s : ByteArray) : Nat → Nat | 0 => 0 | k + 1 => if isR l s k then k else lastI l s k
def cntI (l : List Cut) (s : ByteArray) : Nat → Nat | 0 => 0 | k + 1 => if isR l s k then cntI l s k + 1 else cntI l s k
theorem cntI_le (l : List Cut) (s : ByteArray) : ∀ k, cntI l s k ≤ k
  | 0 => Nat.le_refl _
  | k + 1 => by have := cntI_le l s k; unfold cntI; split <;> omega
theorem lastI_le (l : List Cut) (s : ByteArray) : ∀ k, lastI l s k ≤ k
  | 0 => Nat.le_refl _
  | k + 1 => by have := lastI_le l s k; unfold lastI; split <;> omega
theorem lastI_is (l : List Cut) (s : ByteArray) : ∀ k, 0 < cntI l s k → lastI l s k < k ∧ isR l s (lastI l s k)
  | 0, h => by simp [cntI] at h
  | k + 1, h => by
    unfold lastI
    unfold cntI at h
    split
    · rename_i hi; exact ⟨by omega, hi⟩
    · rename_i hi
      rw [if_neg hi] at h
      have := lastI_is l s k h
      exact ⟨by omega, this.2⟩
def OnlyRel (w1 : World) (n : Nat) (l : List Cut) (s : ByteArray) (v4 v5 i : Value) (wr : World) : Prop :=
  ∃ k : Nat, k ≤ n ∧ i = .int .i64 k ∧ v4 = .int .i64 (lastI l s k) ∧ v5 = .int .i64 (cntI l s k) ∧ Ext w1 wr
set_option maxRecDepth 100000 in
set_option maxHeartbeats 4000000 in
theorem only_any (e : Edl) (A : Option Addr) (n c : Nat) (s : ByteArray) (w : World) (hl : CutsAt w A n e.cuts) (hn : n ≤ 1000000) :
    Calls Tryd.prog 25 #[.agg (e.cells A n c), .string s] w fun en w' => en = .returned (.tuple #[.int .i64 (lastI e.cuts s n), .int .i64 (cntI e.cuts s n)]) ∧ Ext w w' := by
  have HL := Lib.hid hl
  have HX0 := Lib.hid ((Ext.refl w).alloc (.cells (e.cells A n c) 28))
  clear hl
  unfold Edl.cells at *
  go_enter Tryd.func25, Tryd.ntmps25
  go_wp2_with fail
  go_loopw [4, 5, 11] (fun v4 v5 i wr => OnlyRel (w.alloc (.cells #[.string e.title, .int .u8 e.rate, .bool e.drop, .slice A n c] 28)) n e.cuts s v4 v5 i wr) (fun _ _ i _ => n - (intOf i).toNat)
  case atStart => exact ⟨0, Nat.zero_le _, rfl, rfl, rfl, Ext.refl _⟩
  case round =>
    obtain ⟨k, hk, rfl, rfl, rfl, hx⟩ := hrel
    have HXr := Lib.hid (HX0.out.trans hx)
    have hb1 := cntI_le e.cuts s k
    have hb2 := lastI_le e.cuts s k
    by_cases hlt : k < n
    · obtain ⟨b, off, r, rfl, hr, c0, c1, c2, c3, c4, c5, c6⟩ := (HL.out.ext HXr.out).at7 hlt
      have HXc := Lib.hid ((Ext.refl wr).alloc (.cells r.cells 52))
      unfold Cut.cells at HXc
      by_cases he : r.reel = s
      · have he' : (r.reel.toList == s.toList) = true := by rw [bs_eq]; simpa using he
        have HI : Hid (isR e.cuts s k) := by show _ = _; rw [hr]; simpa using he
        have H1 : Hid (lastI e.cuts s (k + 1) = k) := by show _ = _; unfold lastI; rw [if_pos HI.out]
        have H2 : Hid (cntI e.cuts s (k + 1) = cntI e.cuts s k + 1) := by show _ = _; rw [cntI, if_pos HI.out]
        clear hr
        generalize cntI e.cuts s k = cc at *
        generalize lastI e.cuts s k = ll at *
        go_wp2_with fail
        exact ⟨⟨k + 1, by omega, by go_num, by rw [H1.out], by rw [H2.out]; go_num, hx.alloc _⟩, by simp [intOf]; omega⟩
      · have he' : (r.reel.toList == s.toList) = false := by rw [bs_eq]; simpa using he
        have HI : Hid (¬ isR e.cuts s k) := by show ¬ _ = _; rw [hr]; simpa using he
        have H1 : Hid (lastI e.cuts s (k + 1) = lastI e.cuts s k) := by show _ = _; rw [lastI, if_neg HI.out]
        have H2 : Hid (cntI e.cuts s (k + 1) = cntI e.cuts s k) := by show _ = _; rw [cntI, if_neg HI.out]
        clear hr
        generalize cntI e.cuts s k = cc at *
        generalize lastI e.cuts s k = ll at *
        go_wp2_with fail
        exact ⟨⟨k + 1, by omega, by go_num, by rw [H1.out], by rw [H2.out], hx.alloc _⟩, by simp [intOf]; omega⟩
    · have hkn : k = n := by omega
      subst hkn
      go_wp2_with fail
      go_ret2
      exact ⟨rfl, HXr.out⟩
/-- two variables made and filled in a drawn region -/
structure TwoJ (T : TypeId) (p q m : Nat) (a b : Array Value) (W : World) (us : List Value) (gs : Nat → Option Nat) (w : World) : Prop where
  ext : Ext W w
  va : ∀ g, gs p = some g → W.heap.size ≤ g ∧ ∃ cs, cs.size = m ∧ Blk w g T cs ∧ (0 < us.length → cs = a)
  vb : ∀ g, gs q = some g → W.heap.size ≤ g ∧ ∃ cs, cs.size = m ∧ Blk w g T cs ∧ (1 < us.length → cs = b)
  ne : ∀ g g', gs p = some g → gs q = some g' → g ≠ g'
section
variable {T : TypeId} {p q m : Nat} {a b z : Array Value} {W w : World} {us : List Value} {gs : Nat → Option Nat}
theorem twoJ_start (W : World) : TwoJ T p q m a b W [] (fun _ => none) W.drew := ⟨(Ext.refl W).drew, fun g h => (by cases h), fun g h => (by cases h), fun g g' h => (by cases h)⟩
theorem twoJ_p (h : TwoJ T p q m a b W us gs w) (hpq : p ≠ q) (hz : z.size = m) (hl : us.length ≤ 0) : TwoJ T p q m a b W us (upd gs p w.heap.size) (w.alloc (.cells z T)) := by
  have hx : Ext w (w.alloc (.cells z T)) := (Ext.refl w).alloc _
  refine ⟨h.ext.trans hx, fun g hg => ?_, fun g hg => ?_, fun g g' hg hg' => ?_⟩
  · rw [upd_self] at hg
    obtain rfl : w.heap.size = g := Option.some.inj hg
    exact ⟨h.ext.size, z, hz, Blk.new w _ _, fun h' => absurd h' (by omega)⟩
  · rw [upd_other _ (Ne.symm hpq)] at hg
    obtain ⟨h1, cs, h2, h3, h4⟩ := h.vb g hg
    exact ⟨h1, cs, h2, h3.ext hx, h4⟩
  · rw [upd_self] at hg
    rw [upd_other _ (Ne.symm hpq)] at hg'
    obtain ⟨h1, cs, h2, h3, h4⟩ := h.vb g' hg'
    have := h3.lt
    have := Option.some.inj hg
    omega
theorem twoJ_q (h : TwoJ T p q m a b W us gs w) (hpq : p ≠ q) (hz : z.size = m) (hl : us.length ≤ 1) : TwoJ T p q m a b W us (upd gs q w.heap.size) (w.alloc (.cells z T)) := by
  have hx : Ext w (w.alloc (.cells z T)) := (Ext.refl w).alloc _
  refine ⟨h.ext.trans hx, fun g hg => ?_, fun g hg => ?_, fun g g' hg hg' => ?_⟩
  · rw [upd_other _ hpq] at hg
    obtain ⟨h1, cs, h2, h3, h4⟩ := h.va g hg
    exact ⟨h1, cs, h2, h3.ext hx, h4⟩
  · rw [upd_self] at hg
    obtain rfl : w.heap.size = g := Option.some.inj hg
    exact ⟨h.ext.size, z, hz, Blk.new w _ _, fun h' => absurd h' (by omega)⟩
  · rw [upd_self] at hg'
    rw [upd_other _ hpq] at hg
    obtain ⟨h1, cs, h2, h3, h4⟩ := h.va g hg
    have := h3.lt
    have := Option.some.inj hg'
    omega
theorem twoJ_a {v : Value} {ga : Nat} {cs : Array Value} (h : TwoJ T p q m a b W [] gs w) (hg4 : gs p = some ga) (ha : a.size = m) (hB : Blk w ga T cs) : TwoJ T p q m a b W ([] ++ [v]) gs (putB w ga T a) := by
  refine ⟨h.ext.put (h.va ga hg4).1 _ _, fun g hg => ?_, fun g hg => ?_, h.ne⟩
  · rw [hg4] at hg
    obtain rfl : ga = g := Option.some.inj hg
    exact ⟨(h.va ga hg4).1, _, ha, hB.put _, fun _ => rfl⟩
  · obtain ⟨h1, cs', h2, h3, _⟩ := h.vb g hg
    exact ⟨h1, cs', h2, h3.put_other (h.ne ga g hg4 hg) _, fun h' => by simp at h'⟩
theorem twoJ_b {u0 v : Value} {gb : Nat} {cs : Array Value} (h : TwoJ T p q m a b W [u0] gs w) (hg5 : gs q = some gb) (hb : b.size = m) (hB : Blk w gb T cs) : TwoJ T p q m a b W ([u0] ++ [v]) gs (putB w gb T b) := by
  refine ⟨h.ext.put (h.vb gb hg5).1 _ _, fun g hg => ?_, fun g hg => ?_, h.ne⟩
  · obtain ⟨h1, cs', h2, h3, h4⟩ := h.va g hg
    exact ⟨h1, cs', h2, h3.put_other (Ne.symm (h.ne g gb hg hg5)) _, fun _ => h4 (by simp)⟩
  · rw [hg5] at hg
    obtain rfl : gb = g := Option.some.inj hg
    exact ⟨(h.vb gb hg5).1, _, hb, hB.put _, fun _ => rfl⟩
theorem TwoJ.end_ {u0 u1 : Value} (h : TwoJ T p q m a b W [u0, u1] gs w) (hgs : ∀ j, (j = p ∨ j = q) → (gs j).isSome = true) : ∃ ga gb, gs p = some ga ∧ gs q = some gb ∧ W.heap.size ≤ ga ∧ W.heap.size ≤ gb ∧ ga ≠ gb ∧ Blk w ga T a ∧ Blk w gb T b := by
  obtain ⟨ga, hga⟩ := Option.isSome_iff_exists.1 (hgs p (.inl rfl))
  obtain ⟨gb, hgb⟩ := Option.isSome_iff_exists.1 (hgs q (.inr rfl))
  obtain ⟨h1, cs, _, h3, h4⟩ := h.va ga hga
  obtain ⟨k1, cs', _, k3, k4⟩ := h.vb gb hgb
  have e1 := h4 (by simp)
  have e2 := k4 (by simp)
  subst e1 e2
  exact ⟨ga, gb, hga, hgb, h1, k1, h.ne _ _ hga hgb, h3, k3⟩
end
end Go.Proofs.YtablhmobekmflaaDoor

/-! SwapE -/
namespace Go.Proofs.YtablhmobekmflaaDoor
set_option linter.unusedVariables false
set_option linter.unusedSimpArgs false
open Go.RowKit
def cutI (l : List Cut) (k : Nat) : Cut := (l[k]?).getD ⟨0, ⟨#[]⟩, 0, 0, 0, 0, 0⟩
/-- the errors of Swap ahead of the copy -/
def swapPre (e : Edl) (a b : ByteArray) : Int :=
  if edlErr e ≠ 0 then edlErr e else if a = b then 1 else if cntI e.cuts a e.cuts.length = 0 ∨ cntI e.cuts b e.cuts.length = 0 then 6 else if 1 < cntI e.cuts a e.cuts.length ∨ 1 < cntI e.cuts b e.cuts.length then 7 else
    if (cutI e.cuts (lastI e.cuts a e.cuts.length)).out - (cutI e.cuts (lastI e.cuts a e.cuts.length)).inn ≠ (cutI e.cuts (lastI e.cuts b e.cuts.length)).out - (cutI e.cuts (lastI e.cuts b e.cuts.length)).inn then 1 else 0
theorem wp_alloc_cut {o : Oper} {a : Act} {w : World} {K : Act → World → Prop} {Q : Exit → Act → World → Prop} (ho : o.op = .alloc 52) (h : K (a.put o.dst (.pointer (some ⟨w.heap.size, 0, none⟩))) (w.alloc (.cells #[.int .i64 0, .string ⟨#[]⟩, .int .i64 0, .int .i64 0, .int .i64 0, .int .i64 0, .int .i64 0] 52))) : o.wp Tryd.prog a w K Q := by
  obtain ⟨dst, op, ty, pos, after, guard⟩ := o
  simp only at ho
  subst ho
  go_simp
  exact h
def edlZero : Array Value := #[.string ⟨#[]⟩, .int .u8 0, .bool false, .slice none 0 0]
section
variable {e : Edl} {a b : ByteArray} {n : Nat}
theorem pre_edl (h : edlErr e ≠ 0) : swapPre e a b = edlErr e := by unfold swapPre; rw [if_pos h]
theorem pre_same (h : edlErr e = 0) (h1 : a = b) : swapPre e a b = 1 := by unfold swapPre; rw [if_neg (by omega), if_pos h1]
theorem pre_none (hn : e.cuts.length = n) (h : edlErr e = 0) (h1 : ¬ a = b) (h2 : cntI e.cuts a n = 0 ∨ cntI e.cuts b n = 0) : swapPre e a b = 6 := by subst hn; unfold swapPre; rw [if_neg (by omega), if_neg h1, if_pos h2]
theorem pre_many (hn : e.cuts.length = n) (h : edlErr e = 0) (h1 : ¬ a = b) (h2 : ¬ (cntI e.cuts a n = 0 ∨ cntI e.cuts b n = 0)) (h3 : 1 < cntI e.cuts a n ∨ 1 < cntI e.cuts b n) : swapPre e a b = 7 := by subst hn; unfold swapPre; rw [if_neg (by omega), if_neg h1, if_neg h2, if_pos h3]
theorem pre_len (hn : e.cuts.length = n) (h : edlErr e = 0) (h1 : ¬ a = b) (h2 : ¬ (cntI e.cuts a n = 0 ∨ cntI e.cuts b n = 0)) (h3 : ¬ (1 < cntI e.cuts a n ∨ 1 < cntI e.cuts b n))
    (h4 : (cutI e.cuts (lastI e.cuts a n)).out - (cutI e.cuts (lastI e.cuts a n)).inn ≠ (cutI e.cuts (lastI e.cuts b n)).out - (cutI e.cuts (lastI e.cuts b n)).inn) : swapPre e a b = 1 := by subst hn; unfold swapPre; rw [if_neg (by omega), if_neg h1, if_neg h2, if_neg h3, if_pos h4]
theorem pre_ok (hn : e.cuts.length = n) (h : edlErr e = 0) (h1 : ¬ a = b) (h2 : ¬ (cntI e.cuts a n = 0 ∨ cntI e.cuts b n = 0)) (h3 : ¬ (1 < cntI e.cuts a n ∨ 1 < cntI e.cuts b n))
    (h4 : (cutI e.cuts (lastI e.cuts a n)).out - (cutI e.cuts (lastI e.cuts a n)).inn = (cutI e.cuts (lastI e.cuts b n)).out - (cutI e.cuts (lastI e.cuts b n)).inn) : swapPre e a b = 0 := by subst hn; unfold swapPre; rw [if_neg (by omega), if_neg h1, if_neg h2, if_neg h3, if_neg (by simpa using h4)]
end
theorem CutsAt.at_cut {w : World} {A : Option Addr} {n : Nat} {l : List Cut} (h : CutsAt w A n l) {i : Nat} (hi : i < n) : ∃ b off, A = some ⟨b, off, none⟩ ∧ l[i]? = some (cutI l i) ∧
    (w.cell? ⟨b, off + i * 7, none⟩ = some (.int .i64 (cutI l i).num) ∧ w.cell? ⟨b, off + i * 7 + 1, none⟩ = some (.string (cutI l i).reel) ∧ w.cell? ⟨b, off + i * 7 + 2, none⟩ = some (.int .i64 (cutI l i).src) ∧ w.cell? ⟨b, off + i * 7 + 3, none⟩ = some (.int .i64 (cutI l i).inn) ∧
      w.cell? ⟨b, off + i * 7 + 4, none⟩ = some (.int .i64 (cutI l i).out) ∧ w.cell? ⟨b, off + i * 7 + 5, none⟩ = some (.int .i64 (cutI l i).n) ∧ w.cell? ⟨b, off + i * 7 + 6, none⟩ = some (.int .i64 (cutI l i).d)) := by
  obtain ⟨b, off, c, hA, hc, h⟩ := h.at7 hi
  have e : cutI l i = c := by unfold cutI; rw [hc]; rfl
  rw [e]
  exact ⟨b, off, hA, hc, h⟩
set_option maxRecDepth 100000 in
set_option maxHeartbeats 8000000 in
theorem Swap_pre (e : Edl) (A : Option Addr) (n c : Nat) (a b : ByteArray) (w : World) (hE : Env w) (hl : CutsAt w A n e.cuts) (hn : n ≤ 1000000) (hok : EdlOk e) (hpre : swapPre e a b ≠ 0) :
    Calls Tryd.prog 14 #[.agg (e.cells A n c), .string a, .string b] w fun en w' => en = .returned (.tuple #[.agg edlZero, .int .i64 (swapPre e a b)]) ∧ Ext w w' := by
  have HPre := Lib.hid hpre
  clear hpre
  have HL := Lib.hid hl
  have HLn := Lib.hid hl.len
  have HX := Lib.hid (((Ext.refl w).alloc (.cells (e.cells A n c) 28)).alloc (.cells edlZero 28))
  have HB0 := Lib.hid ((Blk.new w 28 (e.cells A n c)).alloc (.cells edlZero 28))
  have HB1 := Lib.hid (Blk.new' (w := w.alloc (.cells (e.cells A n c) 28)) (g := w.heap.size + 1) (t := 28) (cs := edlZero) (by simp))
  have HCk := Lib.hid (fun w' (hx : Ext w w') => Check_any e A n c w' (hE.ext hx) (hl.ext hx) hn hok.r0 hok.r1 hok.title hok.fits)
  have HOn := Lib.hid (fun s w' (hx : Ext w w') => only_any e A n c s w' (hl.ext hx) hn)
  have HSn := Lib.hid (fun (h : edlErr e = 0) (c : Cut) (hc : c ∈ e.cuts) => edl_sane h hc)
  have P1 := Lib.hid (@pre_edl e a b)
  have P2 := Lib.hid (@pre_same e a b)
  have P3 := Lib.hid (@pre_none e a b n hl.len)
  have P4 := Lib.hid (@pre_many e a b n hl.len)
  have P5 := Lib.hid (@pre_len e a b n hl.len)
  have P6 := Lib.hid (@pre_ok e a b n hl.len)
  clear hl hok hE
  unfold Edl.cells edlZero at *
  go_enter Tryd.func14, Tryd.ntmps14
  go_wp2_with (refine wpList_loadB rfl 28 (.tmp 3) rfl w.heap.size 28 _ _ (by exact rfl) (by exact HB0.out) Tryd.underlying28 rfl (by exact size_list) ?_)
  refine (HCk.out _ HX.out).mono ?_
  rintro en w1 ⟨rfl, hx1⟩
  have HX1 := Lib.hid (HX.out.trans hx1)
  have HBl := Lib.hid (HB0.out.ext hx1)
  have HBr := Lib.hid (HB1.out.ext hx1)
  clear hx1 HB0 HB1 HX
  by_cases hee : edlErr e = 0
  case neg =>
    have hne : (edlErr e != 0) = true := by simpa using hee
    have HEr := Lib.hid hee
    clear hee
    go_wp2_with (refine wpList_storeB rfl 28 (.tmp 6) (.tmp 20) rfl (w.heap.size + 1) 28 _ _ (by exact rfl) (by exact rfl) (by exact HBr.out) (by exact rfl) (by exact size_list) (by simp [Value.oneCell']) ?_)
    refine bodyPost_ret (v := .tuple #[.agg #[.string ⟨#[]⟩, .int .u8 0, .bool false, .slice none 0 0], .int .i64 (edlErr e)]) ?_ rfl ⟨by rw [P1.out HEr.out], ?_⟩
    · exact results_B_tmp (P := Tryd.prog) Tryd.results14 (g := w.heap.size + 1) rfl (by exact HBr.out.put _) Tryd.underlying28 rfl size_list
    · exact HX1.out.put (by omega) _ _
  rw [hee]
  have HZ := Lib.hid hee
  clear hee P1
  go_wp2_with (refine wpList_loadB rfl 28 (.tmp 3) rfl w.heap.size 28 _ _ (by exact rfl) (by exact HBl.out) Tryd.underlying28 rfl (by exact size_list) ?_)
  refine (HOn.out a _ HX1.out).mono ?_
  rintro en w2 ⟨rfl, hx2⟩
  have HX2 := Lib.hid (HX1.out.trans hx2)
  have HBl2 := Lib.hid (HBl.out.ext hx2)
  have HBr2 := Lib.hid (HBr.out.ext hx2)
  clear hx2 HX1 HBl HBr
  go_wp2_with (refine wpList_loadB rfl 28 (.tmp 3) rfl w.heap.size 28 _ _ (by exact rfl) (by exact HBl2.out) Tryd.underlying28 rfl (by exact size_list) ?_)
  refine (HOn.out b _ HX2.out).mono ?_
  rintro en w3 ⟨rfl, hx3⟩
  have HX3 := Lib.hid (HX2.out.trans hx3)
  have HBl3 := Lib.hid (HBl2.out.ext hx3)
  have HBr3 := Lib.hid (HBr2.out.ext hx3)
  clear hx3 HX2 HBl2 HBr2 HOn
  by_cases hab : a = b
  · have hab' : (a.toList == b.toList) = true := by rw [bs_eq]; simpa using hab
    have HAB := Lib.hid hab
    clear hab
    go_wp2_with (refine wpList_storeB rfl 28 (.tmp 6) (.tmp 38) rfl (w.heap.size + 1) 28 _ _ (by exact rfl) (by exact rfl) (by exact HBr3.out) (by exact rfl) (by exact size_list) (by simp [Value.oneCell']) ?_)
    refine bodyPost_ret (v := .tuple #[.agg #[.string ⟨#[]⟩, .int .u8 0, .bool false, .slice none 0 0], .int .i64 (1)]) ?_ rfl ⟨by rw [P2.out HZ.out HAB.out], ?_⟩
    · exact results_B_tmp (P := Tryd.prog) Tryd.results14 (g := w.heap.size + 1) rfl (by exact HBr3.out.put _) Tryd.underlying28 rfl size_list
    · exact HX3.out.put (by omega) _ _
  have hab' : (a.toList == b.toList) = false := by rw [bs_eq]; simpa using hab
  have HAB := Lib.hid hab
  clear hab P2
  have HIa := Lib.hid (lastI_is e.cuts a n)
  have HIb := Lib.hid (lastI_is e.cuts b n)
  generalize hia : lastI e.cuts a n = ia at *
  generalize hib : lastI e.cuts b n = ib at *
  generalize hca : cntI e.cuts a n = ca at *
  generalize hcb : cntI e.cuts b n = cb at *
  have HGe := Lib.hid (And.intro hia (And.intro hib (And.intro hca hcb)))
  clear hia hib hca hcb
  by_cases hc0 : ca = 0
  · subst hc0
    go_wp2_with (refine wpList_storeB rfl 28 (.tmp 6) (.tmp 46) rfl (w.heap.size + 1) 28 _ _ (by exact rfl) (by exact rfl) (by exact HBr3.out) (by exact rfl) (by exact size_list) (by simp [Value.oneCell']) ?_)
    refine bodyPost_ret (v := .tuple #[.agg #[.string ⟨#[]⟩, .int .u8 0, .bool false, .slice none 0 0], .int .i64 (6)]) ?_ rfl ⟨by rw [P3.out HZ.out HAB.out (by simp)], ?_⟩
    · exact results_B_tmp (P := Tryd.prog) Tryd.results14 (g := w.heap.size + 1) rfl (by exact HBr3.out.put _) Tryd.underlying28 rfl size_list
    · exact HX3.out.put (by omega) _ _
  have hc0i : ¬ (ca : Int) = 0 := by omega
  have hc0b : ((ca : Int) == 0) = false := by simp; omega
  by_cases hd0 : cb = 0
  · subst hd0
    go_wp2_with (refine wpList_storeB rfl 28 (.tmp 6) (.tmp 46) rfl (w.heap.size + 1) 28 _ _ (by exact rfl) (by exact rfl) (by exact HBr3.out) (by exact rfl) (by exact size_list) (by simp [Value.oneCell']) ?_)
    refine bodyPost_ret (v := .tuple #[.agg #[.string ⟨#[]⟩, .int .u8 0, .bool false, .slice none 0 0], .int .i64 (6)]) ?_ rfl ⟨by rw [P3.out HZ.out HAB.out (by simp)], ?_⟩
    · exact results_B_tmp (P := Tryd.prog) Tryd.results14 (g := w.heap.size + 1) rfl (by exact HBr3.out.put _) Tryd.underlying28 rfl size_list
    · exact HX3.out.put (by omega) _ _
  have hd0i : ¬ (cb : Int) = 0 := by omega
  have hd0b : ((cb : Int) == 0) = false := by simp; omega
  have HNo : Hid (¬ (ca = 0 ∨ cb = 0)) := by show ¬ _; omega
  clear P3
  by_cases hc1 : 1 < ca
  · have hc1i : (1 : Int) < (ca : Int) := by omega
    go_wp2_with (refine wpList_storeB rfl 28 (.tmp 6) (.tmp 54) rfl (w.heap.size + 1) 28 _ _ (by exact rfl) (by exact rfl) (by exact HBr3.out) (by exact rfl) (by exact size_list) (by simp [Value.oneCell']) ?_)
    refine bodyPost_ret (v := .tuple #[.agg #[.string ⟨#[]⟩, .int .u8 0, .bool false, .slice none 0 0], .int .i64 (7)]) ?_ rfl ⟨by rw [P4.out HZ.out HAB.out HNo.out (.inl hc1)], ?_⟩
    · exact results_B_tmp (P := Tryd.prog) Tryd.results14 (g := w.heap.size + 1) rfl (by exact HBr3.out.put _) Tryd.underlying28 rfl size_list
    · exact HX3.out.put (by omega) _ _
  have hc1i : ¬ (1 : Int) < (ca : Int) := by omega
  by_cases hd1 : 1 < cb
  · have hd1i : (1 : Int) < (cb : Int) := by omega
    go_wp2_with (refine wpList_storeB rfl 28 (.tmp 6) (.tmp 54) rfl (w.heap.size + 1) 28 _ _ (by exact rfl) (by exact rfl) (by exact HBr3.out) (by exact rfl) (by exact size_list) (by simp [Value.oneCell']) ?_)
    refine bodyPost_ret (v := .tuple #[.agg #[.string ⟨#[]⟩, .int .u8 0, .bool false, .slice none 0 0], .int .i64 (7)]) ?_ rfl ⟨by rw [P4.out HZ.out HAB.out HNo.out (.inr hd1)], ?_⟩
    · exact results_B_tmp (P := Tryd.prog) Tryd.results14 (g := w.heap.size + 1) rfl (by exact HBr3.out.put _) Tryd.underlying28 rfl size_list
    · exact HX3.out.put (by omega) _ _
  have hd1i : ¬ (1 : Int) < (cb : Int) := by omega
  have HOne : Hid (¬ (1 < ca ∨ 1 < cb)) := by show ¬ _; omega
  clear P4
  obtain ⟨hia, hria⟩ := HIa.out (by omega)
  obtain ⟨hib, hrib⟩ := HIb.out (by omega)
  have HRa := Lib.hid hria
  have HRb := Lib.hid hrib
  clear hria hrib
  obtain ⟨bk, off, rfl, hra, c0, c1, c2, c3, c4, c5, c6⟩ := (HL.out.ext HX3.out).at_cut hia
  obtain ⟨bk', off', hA', hrb, d0, d1, d2, d3, d4, d5, d6⟩ := (HL.out.ext HX3.out).at_cut hib
  cases hA'
  have hsa := HSn.out HZ.out _ (List.mem_of_getElem? hra)
  have hsb := HSn.out HZ.out _ (List.mem_of_getElem? hrb)
  have HRra := Lib.hid hra
  have HRrb := Lib.hid hrb
  clear hra hrb HSn
  generalize cutI e.cuts ia = xa at *
  generalize cutI e.cuts ib = xb at *
  obtain ⟨num, rl, src, inn, out, nn, dd⟩ := xa
  obtain ⟨num', rl', src', inn', out', nn', dd'⟩ := xb
  obtain ⟨sa1, sa2, sa3, sa4, sa5, sa6, sa7, sa8, sa9⟩ := hsa
  obtain ⟨sb1, sb2, sb3, sb4, sb5, sb6, sb7, sb8, sb9⟩ := hsb
  dsimp only at *
  have hcl := fun o => HBl3.out.cell o
  go_wp2_with fail
  refine wp_region_allocs [some 55, some 56, some 57, some 58, some 59, some 60, some 61, some 62, some 63, some 64, some 13, some 14, none, none] [[], [0], [], [1, 2], [3], [], [5], [], [6, 7], [8], [], [], [10, 4, 0, 1, 2, 3, 4, 10, 11], [11, 9, 12, 0, 1, 2, 3, 4, 5, 6, 7, 8, 9, 10, 11, 12]] [12, 13] [10, 11] [.pointer (some ⟨w.heap.size, 3, none⟩), .slice (some ⟨bk, off, none⟩) n c, .int .i64 ia, .pointer (some ⟨bk, off + ia * 7, none⟩), .agg #[.int .i64 num, .string rl, .int .i64 src, .int .i64 inn, .int .i64 out, .int .i64 nn, .int .i64 dd], .pointer (some ⟨w.heap.size, 3, none⟩), .slice (some ⟨bk, off, none⟩) n c, .int .i64 ib, .pointer (some ⟨bk, off + ib * 7, none⟩), .agg #[.int .i64 num', .string rl', .int .i64 src', .int .i64 inn', .int .i64 out', .int .i64 nn', .int .i64 dd'], undef, undef, undef, undef] (fun _ => .cells #[.int .i64 0, .string ⟨#[]⟩, .int .i64 0, .int .i64 0, .int .i64 0, .int .i64 0, .int .i64 0] 52) (TwoJ 52 10 11 7 #[.int .i64 num, .string rl, .int .i64 src, .int .i64 inn, .int .i64 out, .int .i64 nn, .int .i64 dd] #[.int .i64 num', .string rl', .int .i64 src', .int .i64 inn', .int .i64 out', .int .i64 nn', .int .i64 dd'] w3) (by kernel_rfl) (by kernel_rfl) (by kernel_rfl) (by kernel_rfl) (by kernel_rfl) (by kernel_rfl) (by kernel_rfl) (by decide) (by kernel_rfl) ?_ ?_ ?_ ?_ ?_ ?_
  · exact twoJ_start w3
  · clear hcl
    intro i o ho ha a w' K' hk
    match i, ho with
    | 0, ho => simp at ha
    | 1, ho => simp at ha
    | 2, ho => simp at ha
    | 3, ho => simp at ha
    | 4, ho => simp at ha
    | 5, ho => simp at ha
    | 6, ho => simp at ha
    | 7, ho => simp at ha
    | 8, ho => simp at ha
    | 9, ho => simp at ha
    | 10, ho =>
      simp only [List.getElem?_toArray, List.getElem?_cons_zero, List.getElem?_cons_succ, Option.some.injEq] at ho
      subst ho
      exact wp_alloc_cut rfl hk
    | 11, ho =>
      simp only [List.getElem?_toArray, List.getElem?_cons_zero, List.getElem?_cons_succ, Option.some.injEq] at ho
      subst ho
      exact wp_alloc_cut rfl hk
    | 12, ho => simp at ha
    | 13, ho => simp at ha
    | i + 14, ho => simp at ho
  · clear hcl
    intro i ha us gs w' hJ hn hlim
    match i, ha with
    | 0, ha => simp at ha
    | 1, ha => simp at ha
    | 2, ha => simp at ha
    | 3, ha => simp at ha
    | 4, ha => simp at ha
    | 5, ha => simp at ha
    | 6, ha => simp at ha
    | 7, ha => simp at ha
    | 8, ha => simp at ha
    | 9, ha => simp at ha
    | 10, ha => exact twoJ_p hJ (by decide) rfl (hlim 0 12 rfl rfl)
    | 11, ha => exact twoJ_q hJ (by decide) rfl (by have := hlim 0 12 rfl rfl; omega)
    | 12, ha => simp at ha
    | 13, ha => simp at ha
    | i + 14, ha => simp at ha
  · clear hcl
    intro i o ho hc ha a w' us gs K' hJ hF hlim hk
    match i, ho with
    | 0, ho =>
      simp only [List.getElem?_toArray, List.getElem?_cons_zero, List.getElem?_cons_succ, Option.some.injEq] at ho
      subst ho
      have e3 := hF.old 3 (.pointer (some ⟨w.heap.size, 0, none⟩)) rfl rfl
      simp only [Act.eval] at e3
      clear hF hlim hJ
      go_simp
      exact hk
    | 1, ho =>
      simp only [List.getElem?_toArray, List.getElem?_cons_zero, List.getElem?_cons_succ, Option.some.injEq] at ho
      subst ho
      have e55 := hF.pure 0 55 (.pointer (some ⟨w.heap.size, 3, none⟩)) rfl rfl rfl rfl rfl
      have hcl : w'.cell? ⟨w.heap.size, 3, none⟩ = some (.slice (some ⟨bk, off, none⟩) n c) := (HBl3.out.ext hJ.ext).cell 3
      simp only [Act.eval] at e55
      clear hF hlim hJ
      go_simp
      exact hk
    | 2, ho =>
      simp only [List.getElem?_toArray, List.getElem?_cons_zero, List.getElem?_cons_succ, Option.some.injEq] at ho
      subst ho
      have e9 := hF.old 9 (.int .i64 ia) rfl rfl
      simp only [Act.eval] at e9
      clear hF hlim hJ
      go_simp
      exact hk
    | 3, ho =>
      simp only [List.getElem?_toArray, List.getElem?_cons_zero, List.getElem?_cons_succ, Option.some.injEq] at ho
      subst ho
      have e56 := hF.pure 1 56 (.slice (some ⟨bk, off, none⟩) n c) rfl rfl rfl rfl rfl
      have e57 := hF.pure 2 57 (.int .i64 ia) rfl rfl rfl rfl rfl
      have hix : ia < n := hia
      have hix2 : ¬ n ≤ ia := by omega
      simp only [Act.eval] at e56 e57
      clear hF hlim hJ
      go_simp
      exact hk
    | 4, ho =>
      simp only [List.getElem?_toArray, List.getElem?_cons_zero, List.getElem?_cons_succ, Option.some.injEq] at ho
      subst ho
      have e58 := hF.pure 3 58 (.pointer (some ⟨bk, off + ia * 7, none⟩)) rfl rfl rfl rfl rfl
      have h0 := hJ.ext.cell c0
      have h1 := hJ.ext.cell c1
      have h2 := hJ.ext.cell c2
      have h3 := hJ.ext.cell c3
      have h4 := hJ.ext.cell c4
      have h5 := hJ.ext.cell c5
      have h6 := hJ.ext.cell c6
      clear c0 c1 c2 c3 c4 c5 c6 d0 d1 d2 d3 d4 d5 d6
      simp only [Act.eval] at e58
      clear hF hlim hJ
      go_simp
      exact hk
    | 5, ho =>
      simp only [List.getElem?_toArray, List.getElem?_cons_zero, List.getElem?_cons_succ, Option.some.injEq] at ho
      subst ho
      have e3 := hF.old 3 (.pointer (some ⟨w.heap.size, 0, none⟩)) rfl rfl
      simp only [Act.eval] at e3
      clear hF hlim hJ
      go_simp
      exact hk
    | 6, ho =>
      simp only [List.getElem?_toArray, List.getElem?_cons_zero, List.getElem?_cons_succ, Option.some.injEq] at ho
      subst ho
      have e60 := hF.pure 5 60 (.pointer (some ⟨w.heap.size, 3, none⟩)) rfl rfl rfl rfl rfl
      have hcl : w'.cell? ⟨w.heap.size, 3, none⟩ = some (.slice (some ⟨bk, off, none⟩) n c) := (HBl3.out.ext hJ.ext).cell 3
      simp only [Act.eval] at e60
      clear hF hlim hJ
      go_simp
      exact hk
    | 7, ho =>
      simp only [List.getElem?_toArray, List.getElem?_cons_zero, List.getElem?_cons_succ, Option.some.injEq] at ho
      subst ho
      have e11 := hF.old 11 (.int .i64 ib) rfl rfl
      simp only [Act.eval] at e11
      clear hF hlim hJ
      go_simp
      exact hk
    | 8, ho =>
      simp only [List.getElem?_toArray, List.getElem?_cons_zero, List.getElem?_cons_succ, Option.some.injEq] at ho
      subst ho
      have e61 := hF.pure 6 61 (.slice (some ⟨bk, off, none⟩) n c) rfl rfl rfl rfl rfl
      have e62 := hF.pure 7 62 (.int .i64 ib) rfl rfl rfl rfl rfl
      have hix : ib < n := hib
      have hix2 : ¬ n ≤ ib := by omega
      simp only [Act.eval] at e61 e62
      clear hF hlim hJ
      go_simp
      exact hk
    | 9, ho =>
      simp only [List.getElem?_toArray, List.getElem?_cons_zero, List.getElem?_cons_succ, Option.some.injEq] at ho
      subst ho
      have e63 := hF.pure 8 63 (.pointer (some ⟨bk, off + ib * 7, none⟩)) rfl rfl rfl rfl rfl
      have h0 := hJ.ext.cell d0
      have h1 := hJ.ext.cell d1
      have h2 := hJ.ext.cell d2
      have h3 := hJ.ext.cell d3
      have h4 := hJ.ext.cell d4
      have h5 := hJ.ext.cell d5
      have h6 := hJ.ext.cell d6
      clear c0 c1 c2 c3 c4 c5 c6 d0 d1 d2 d3 d4 d5 d6
      simp only [Act.eval] at e63
      clear hF hlim hJ
      go_simp
      exact hk
    | 10, ho => simp at ha
    | 11, ho => simp at ha
    | 12, ho => simp at hc
    | 13, ho => simp at hc
    | i + 14, ho => simp at ho
  · clear hcl
    intro p c' o hp ho a w' us gs K' hl hJ hF hk
    match p, hp with
    | 0, hp =>
      obtain rfl : 12 = c' := by simpa using hp
      simp only [List.getElem?_toArray, List.getElem?_cons_zero, List.getElem?_cons_succ, Option.some.injEq] at ho
      subst ho
      obtain rfl : us = [] := List.eq_nil_of_length_eq_zero hl
      obtain ⟨g13, hg13, e13⟩ := hF.ptr 10 13 rfl rfl rfl rfl
      have e59 := hF.pure 4 59 (.agg #[.int .i64 num, .string rl, .int .i64 src, .int .i64 inn, .int .i64 out, .int .i64 nn, .int .i64 dd]) rfl rfl rfl rfl rfl
      obtain ⟨_, cs, hcs, hB, _⟩ := hJ.va g13 hg13
      exact wp_storeB 52 (.tmp 13) (.tmp 59) rfl g13 52 _ _ e13 e59 (by exact size_cut) (by simp [Value.oneCell']) hB hcs (hk undef _ (twoJ_a hJ hg13 rfl hB))
    | 1, hp =>
      obtain rfl : 13 = c' := by simpa using hp
      simp only [List.getElem?_toArray, List.getElem?_cons_zero, List.getElem?_cons_succ, Option.some.injEq] at ho
      subst ho
      obtain ⟨u0, rfl⟩ := list_1 hl
      obtain ⟨g14, hg14, e14⟩ := hF.ptr 11 14 rfl rfl rfl rfl
      have e64 := hF.pure 9 64 (.agg #[.int .i64 num', .string rl', .int .i64 src', .int .i64 inn', .int .i64 out', .int .i64 nn', .int .i64 dd']) rfl rfl rfl rfl rfl
      obtain ⟨_, cs, hcs, hB, _⟩ := hJ.vb g14 hg14
      exact wp_storeB 52 (.tmp 14) (.tmp 64) rfl g14 52 _ _ e14 e64 (by exact size_cut) (by simp [Value.oneCell']) hB hcs (hk undef _ (twoJ_b hJ hg14 rfl hB))
    | p + 2, hp => simp at hp
  intro us gs w4 hl hgs hJ
  rename_i hK
  obtain ⟨u0, u1, rfl⟩ := list_2 hl
  obtain ⟨ga, gb, hga, hgb, hga1, hgb1, hgne, hBa, hBb⟩ := hJ.end_ (fun j hj => hgs j (by rcases hj with rfl | rfl <;> rfl))
  refine hK _ _ ?_
  clear hK
  generalize hL : frameA _ _ _ _ _ _ = L
  obtain rfl : L = [(55, .pointer (some ⟨w.heap.size, 3, none⟩)), (56, .slice (some ⟨bk, off, none⟩) n c), (57, .int .i64 ia), (58, .pointer (some ⟨bk, off + ia * 7, none⟩)), (59, .agg #[.int .i64 num, .string rl, .int .i64 src, .int .i64 inn, .int .i64 out, .int .i64 nn, .int .i64 dd]), (60, .pointer (some ⟨w.heap.size, 3, none⟩)), (61, .slice (some ⟨bk, off, none⟩) n c), (62, .int .i64 ib), (63, .pointer (some ⟨bk, off + ib * 7, none⟩)), (64, .agg #[.int .i64 num', .string rl', .int .i64 src', .int .i64 inn', .int .i64 out', .int .i64 nn', .int .i64 dd']), (13, .pointer ((gs 10).map fun g => ⟨g, 0, none⟩)), (14, .pointer ((gs 11).map fun g => ⟨g, 0, none⟩))] := hL.symm.trans (by kernel_rfl)
  rw [hga, hgb]
  clear hL hl hgs
  simp only [Act.put, Option.map_some, List.foldl_cons, List.foldl_nil, List.setIfInBounds_toArray, List.set_cons_zero, List.set_cons_succ]
  have HX4 := Lib.hid (HX3.out.trans hJ.ext)
  have HBl4 := Lib.hid (HBl3.out.ext hJ.ext)
  have HBr4 := Lib.hid (HBr3.out.ext hJ.ext)
  have HBa := Lib.hid hBa
  have HBb := Lib.hid hBb
  have hgl : w.heap.size + 1 < ga := by have := HBr3.out.lt; omega
  have hgl' : w.heap.size + 1 < gb := by have := HBr3.out.lt; omega
  clear hJ hBa hBb hga hgb hcl HBl3 HBr3 HX3 hga1 hgb1 c0 c1 c2 c3 c4 c5 c6 d0 d1 d2 d3 d4 d5 d6
  have hca4 := fun o => HBa.out.cell o
  have hcb4 := fun o => HBb.out.cell o
  by_cases hlen : out - inn = out' - inn'
  case neg =>
    have hlen' : (out - inn != out' - inn') = true := by simpa using hlen
    have HLe := Lib.hid hlen
    go_wp2_with (refine wpList_storeB rfl 28 (.tmp 6) (.tmp 80) rfl (w.heap.size + 1) 28 _ _ (by exact rfl) (by exact rfl) (by exact HBr4.out) (by exact rfl) (by exact size_list) (by simp [Value.oneCell']) ?_)
    refine bodyPost_ret (v := .tuple #[.agg #[.string ⟨#[]⟩, .int .u8 0, .bool false, .slice none 0 0], .int .i64 (1)]) ?_ rfl ⟨by rw [P5.out HZ.out HAB.out HNo.out HOne.out HLe.out], ?_⟩
    · exact results_B_tmp (P := Tryd.prog) Tryd.results14 (g := w.heap.size + 1) rfl (by exact HBr4.out.put _) Tryd.underlying28 rfl size_list
    · exact HX4.out.put (by omega) _ _
  exact absurd (P6.out HZ.out HAB.out HNo.out HOne.out hlen) HPre.out
end Go.Proofs.YtablhmobekmflaaDoor

/-! LawA -/
namespace Go.Proofs.YtablhmobekmflaaDoor
set_option linter.unusedVariables false
set_option linter.unusedSimpArgs false
open Go.RowKit
set_option maxRecDepth 100000 in
set_option maxHeartbeats 2000000 in
theorem Of_any (e : Edl) (A : Option Addr) (n c : Nat) (w : World) : Calls Tryd.prog 6 #[.agg (e.cells A n c)] w fun en w' => en = .returned (.agg (e.cells A n c)) ∧ Ext w w' := by
  have HX := Lib.hid (((Ext.refl w).alloc (.cells (e.cells A n c) 25)).alloc (.cells edlZero 28))
  have HB1 := Lib.hid (Blk.new' (w := w.alloc (.cells (e.cells A n c) 25)) (g := w.heap.size + 1) (t := 28) (cs := edlZero) (by simp))
  unfold Edl.cells edlZero at *
  go_enter Tryd.func6, Tryd.ntmps6
  go_wp2_with (refine wpList_storeB rfl 28 (.tmp 2) (.tmp 11) rfl (w.heap.size + 1) 28 _ _ (by exact rfl) (by exact rfl) (by exact HB1.out) (by exact rfl) (by exact size_list) (by simp [Value.oneCell']) ?_)
  refine bodyPost_ret (v := .agg #[.string e.title, .int .u8 e.rate, .bool e.drop, .slice A n c]) ?_ rfl ⟨rfl, ?_⟩
  · exact results_B (P := Tryd.prog) Tryd.results6 (g := w.heap.size + 1) rfl (by exact HB1.out.put _) Tryd.underlying28 rfl size_list
  · exact HX.out.put (by omega) _ _
def smallB (e : Edl) (n : Nat) : Bool := decide (n ≤ 128 ∧ e.title.size ≤ 800)
set_option maxRecDepth 100000 in
set_option maxHeartbeats 2000000 in
theorem small_any (e : Edl) (A : Option Addr) (n c : Nat) (w : World) : Calls Tryd.prog 5 #[.agg (e.cells A n c)] w fun en w' => en = .returned (.bool (smallB e n)) ∧ Ext w w' := by
  have HX := Lib.hid ((Ext.refl w).alloc (.cells (e.cells A n c) 25))
  have HF : Hid (smallB e n = decide (n ≤ 128 ∧ e.title.size ≤ 800)) := rfl
  unfold Edl.cells at *
  by_cases h1 : n ≤ 128
  · have h1i : (n : Int) ≤ 128 := by omega
    by_cases h2 : e.title.size ≤ 800
    · have h2i : (e.title.size : Int) ≤ 800 := by omega
      have HG : Hid (smallB e n = true) := HF.out.trans (decide_eq_true ⟨h1, h2⟩)
      go_enter Tryd.func5, Tryd.ntmps5
      go_wp2_with fail
      go_ret
      exact ⟨by rw [HG.out]; first | rfl | (simp; done) | (simp; omega), HX.out⟩
    · have h2i : ¬ (e.title.size : Int) ≤ 800 := by omega
      have HG : Hid (smallB e n = false) := HF.out.trans (decide_eq_false (fun h => h2 h.2))
      go_enter Tryd.func5, Tryd.ntmps5
      go_wp2_with fail
      go_ret
      exact ⟨by rw [HG.out]; first | rfl | (simp; done) | (simp; omega), HX.out⟩
  · have h1i : ¬ (n : Int) ≤ 128 := by omega
    have HG : Hid (smallB e n = false) := HF.out.trans (decide_eq_false (fun h => h1 h.1))
    go_enter Tryd.func5, Tryd.ntmps5
    go_wp2_with fail
    go_ret
    exact ⟨by rw [HG.out]; first | rfl | (simp; done) | (simp; omega), HX.out⟩
/-- the example -/
def cutA : Cut := ⟨1, ⟨#[65]⟩, 250, 0, 100, 1, 1⟩
def cutB : Cut := ⟨2, ⟨#[66]⟩, 0, 100, 110, 1, 2⟩
def e0 : Edl := ⟨⟨#[]⟩, 3, false, [cutA, cutB]⟩
theorem vld_nil : vld ⟨#[]⟩ = true := by rw [vld_runes, runes_end _ _ (by decide)]; rfl
theorem e0_cnt : cnt e0.names = 2 := (cnt_eq (l := [[65], [66]]) (by decide) (fun x => by rfl)).symm
theorem e0_ok : edlErr e0 = 0 := edl_ok vld_nil (by decide) (by decide) (by decide) (by decide +kernel) (by rw [e0_cnt]; decide)
theorem e0_99 : atE e0 99 = (⟨#[65]⟩, 349, true) := atE_some (c := cutA) e0_ok (by decide +kernel)
theorem e0_109 : atE e0 109 = (⟨#[66]⟩, 4, true) := atE_some (c := cutB) e0_ok (by decide +kernel)
theorem e0_110 : atE e0 110 = (⟨#[]⟩, 0, false) := atE_none e0_ok (by decide +kernel)
theorem e0_swap : swapPre e0 ⟨#[65]⟩ ⟨#[66]⟩ = 1 := pre_len (n := 2) rfl e0_ok (by decide +kernel) (by decide +kernel) (by decide +kernel) (by decide +kernel)
theorem e0_edlok : EdlOk e0 := ⟨by decide, by decide, by decide, fun c hc => by
  simp only [e0, List.mem_cons, List.not_mem_nil, or_false] at hc
  rcases hc with rfl | rfl <;> (unfold Cut.Fits I64; decide)⟩
end Go.Proofs.YtablhmobekmflaaDoor
