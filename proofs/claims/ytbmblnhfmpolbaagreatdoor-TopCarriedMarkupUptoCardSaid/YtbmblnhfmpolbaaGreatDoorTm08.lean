/- Texts laid together. -/
import Derived.Test.YtbmblnhfmpolbaaGreatDoorTm07
set_option linter.unusedVariables false
set_option linter.unusedSimpArgs false
namespace Go.Proofs.YtbmblnhfmpolbaaGreatDoor
section
open Go.RowKit
def valA (chain al : List Nat) (pv us : List Value) (gs : Nat → Option Nat) (j : Nat) : Value :=
 match chain.idxOf? j with
 | some i => us.getD i undef
 | none => if al.contains j then .pointer ((gs j).map fun g => ⟨g, 0, none⟩) else pv.getD j undef
def upd (gs : Nat → Option Nat) (j g : Nat) : Nat → Option Nat := fun k => if k = j then some g else gs k
theorem upd_self (gs : Nat → Option Nat) (j g : Nat) : upd gs j g j = some g := by simp [upd]
theorem upd_other (gs : Nat → Option Nat) {j k : Nat} (h : k ≠ j) (g : Nat) : upd gs j g k = gs k := by simp [upd, h]
def AlInv (ops : Array Oper) (chain al : List Nat) (pv : List Value) (a0 : Act) (J : List Value → (Nat → Option Nat) → World → Prop) (l : Array Bool) (a : Act) (w : World) : Prop :=
 l.size = ops.size ∧ a.defers = a0.defers ∧ a.tmps.size = a0.tmps.size ∧ (∀ s, (∀ j, dstO ops j = some s → l.getD j false = false) → a.tmps[s]? = a0.tmps[s]?) ∧
 (∀ j o, l.getD j false = true → ops[j]? = some o → ∀ d ∈ o.after, Region.binds .any d = true → l.getD d.on false = true) ∧
 ∃ (us : List Value) (gs : Nat → Option Nat), us.length ≤ chain.length ∧ (∀ i c, chain[i]? = some c → (l.getD c false = true ↔ i < us.length)) ∧ (∀ j, al.contains j = true → (l.getD j false = true ↔ (gs j).isSome = true)) ∧
  (∀ j s, l.getD j false = true → dstO ops j = some s → a.tmps[s]? = some (valA chain al pv us gs j)) ∧ J us gs w
structure SeesA (slots : List (Option Nat)) (deps : List (List Nat)) (chain al : List Nat) (pv us : List Value) (gs : Nat → Option Nat) (a0 a : Act) (i : Nat) : Prop where
 old : ∀ (s : Nat) (v : Value), slots.contains (some s) = false → a0.eval (.tmp s) = v → a.eval (.tmp s) = v
 pure : ∀ (j s : Nat) (v : Value), (deps.getD i []).contains j = true → slots[j]? = some (some s) → chain.contains j = false → al.contains j = false → pv[j]? = some v → a.eval (.tmp s) = v
 link : ∀ (p j s : Nat) (v : Value), chain[p]? = some j → (deps.getD i []).contains j = true → slots[j]? = some (some s) → us[p]? = some v → a.eval (.tmp s) = v
 ptr : ∀ (j s : Nat), (deps.getD i []).contains j = true → slots[j]? = some (some s) → chain.contains j = false → al.contains j = true → ∃ g, gs j = some g ∧ a.eval (.tmp s) = .pointer (some ⟨g, 0, none⟩)
 made : ∀ (j : Nat), (deps.getD i []).contains j = true → al.contains j = true → (gs j).isSome = true
 did : ∀ (p j : Nat), chain[p]? = some j → (deps.getD i []).contains j = true → p < us.length
 olds : ∀ (p j s : Nat) (v : Value), chain[p]? = some j → slots[j]? = some (some s) → us.length ≤ p → a0.eval (.tmp s) = v → a.eval (.tmp s) = v
def frameA (ops : Array Oper) (chain al : List Nat) (pv us : List Value) (gs : Nat → Option Nat) : List (Nat × Value) := (List.range ops.size).filterMap fun j => (dstO ops j).map fun s => (s, valA chain al pv us gs j)
theorem wp_region_allocs {P : Program} {ops : Array Oper} {Q : Exit → Act → World → Prop} {id : Nat} {a0 : Act} {W : World} (slots : List (Option Nat)) (deps : List (List Nat)) (chain al : List Nat) (pv : List Value) (obj : Nat → Obj) (J : List Value → (Nat → Option Nat) → World → Prop) (hm : P.follows .mixedOrders = true) (hdst : dstOK2 ops a0.tmps.size = true) (hord : ordB 0 ops.toList = true)
 (hs : ops.toList.map (·.dst) = slots) (hd : ops.toList.map depsOf = deps) (hg : ops.toList.all (fun o => o.guard.isNone) = true) (hch : chainB ops chain = true) (hnd : chain.Nodup) (hal : (al.all fun j => decide (j < ops.size) && !chain.contains j) = true) (h0 : J [] (fun _ => none) W.drew)
 (halloc : ∀ (i : Nat) (o : Oper), ops[i]? = some o → al.contains i = true → ∀ (a : Act) (w : World) (K : Act → World → Prop), K (a.put o.dst (.pointer (some ⟨w.heap.size, 0, none⟩))) (w.alloc (obj i)) → Oper.wp P o a w K Q)
 (hJal : ∀ (i : Nat), al.contains i = true → ∀ us gs w, J us gs w → gs i = none → (∀ p c, chain[p]? = some c → (deps.getD c []).contains i = true → us.length ≤ p) → J us (upd gs i w.heap.size) (w.alloc (obj i)))
 (hpure : ∀ (i : Nat) (o : Oper), ops[i]? = some o → chain.contains i = false → al.contains i = false → ∀ (a : Act) (w : World) (us : List Value) (gs : Nat → Option Nat) (K : Act → World → Prop), J us gs w → SeesA slots deps chain al pv us gs a0 a i → (∀ p c, chain[p]? = some c → (deps.getD c []).contains i = true → us.length ≤ p) → K (a.put o.dst (pv.getD i undef)) w → Oper.wp P o a w K Q)
 (hlink : ∀ (p c : Nat) (o : Oper), chain[p]? = some c → ops[c]? = some o → ∀ (a : Act) (w : World) (us : List Value) (gs : Nat → Option Nat) (K : Act → World → Prop), us.length = p → J us gs w → SeesA slots deps chain al pv us gs a0 a c → (∀ v w', J (us ++ [v]) gs w' → K (a.put o.dst v) w') → Oper.wp P o a w K Q)
 (hQ : ∀ us gs w, us.length = chain.length → (∀ j, al.contains j = true → (gs j).isSome = true) → J us gs w → Q .normal { a0 with tmps := (frameA ops chain al pv us gs).foldl (fun t p => t.setIfInBounds p.1 p.2) a0.tmps } w) :
 (Code.region id ops true).wp P Q a0 W := by
 have hgd : ∀ (i : Nat) (o : Oper), ops[i]? = some o → o.guard = none := fun i o ho => by
  have := List.all_eq_true.1 hg o (by simpa using Array.mem_of_getElem? ho)
  simpa using this
 have hdep : ∀ (i : Nat) (o : Oper), ops[i]? = some o → deps.getD i [] = depsOf o := fun i o ho => by
  rw [← hd, List.getD_eq_getElem?_getD, List.getElem?_map]
  have : ops.toList[i]? = some o := by simpa using ho
  rw [this]; rfl
 have hsl : ∀ j s, slots[j]? = some (some s) → dstO ops j = some s := fun j s h => by
  rw [← hs, List.getElem?_map, Option.map_eq_some_iff] at h
  obtain ⟨o', h1, h2⟩ := h
  have h1' : ops[j]? = some o' := by simpa using h1
  simp [dstO, h1', h2]
 have hallt : ∀ j, al.contains j = true → j < ops.size ∧ chain.contains j = false := fun j hj => by
  have := List.all_eq_true.1 hal j (by simpa using hj)
  simpa using this
 refine wp_region_any hm ?_
 refine wpAny_inv (AlInv ops chain al pv a0 J) (fun l a w h => h.1) ?_ (hordB hord) ?_ _ _ _ _ (by simp) ?_
 · intro l a w hI i o ho hl hall K hK
   obtain ⟨hsz0, hdf, hsz, hnot, hcl, us, gs, hul, hcu, hga, hval, hJ⟩ := hI
   have hi : i < ops.size := (Array.getElem?_eq_some_iff.1 ho).1
   have hnl := not_listed hl
   have hself : (l.setIfInBounds i true).getD i false = true := getD_set_self (by omega)
   have hdone : ∀ j, (deps.getD i []).contains j = true → l.getD j false = true := fun j hj => by
    rw [hdep i o ho] at hj
    obtain ⟨d, hd1, hd2, hd3⟩ := edge_of (edge_deps hj)
    rw [← hd3]
    exact hall d hd1 hd2
   have hfind : SeesA slots deps chain al pv us gs a0 a i := by
    refine ⟨fun s v hc hv => ?_, fun j s v he hj hc ha hv => ?_, fun p j s v hp he hj hv => ?_, fun j s he hj hc ha => ?_, fun j he ha => (hga j ha).1 (hdone j he), fun p j hp he => (hcu p j hp).1 (hdone j he), fun p j s v hp hj hl0 hv => by
     have := hnot s fun j' hj' => by
      have e : j' = j := dst_inj hdst hj' (hsl j s hj)
      subst e
      cases hx : l.getD j' false
      · rfl
      · exact absurd ((hcu p _ hp).1 hx) (by omega)
     rw [← hv]
     simp [Act.eval, this]⟩
    · have hn : some s ∉ ops.toList.map (·.dst) := by rw [hs]; simpa using hc
      have := hnot s (fun j hj => by
       unfold dstO at hj
       rw [Option.bind_eq_some_iff] at hj
       obtain ⟨o', h1, h2⟩ := hj
       exact absurd (List.mem_map.2 ⟨o', by simpa using Array.mem_of_getElem? h1, h2⟩) hn)
      rw [← hv]
      simp [Act.eval, this]
    · refine eval_of ?_
      rw [hval j s (hdone j he) (hsl j s hj)]
      have : chain.idxOf? j = none := idxOf_none (by simpa using hc)
      simp only [valA, this, ha]
      simp [hv]
    · refine eval_of ?_
      rw [hval j s (hdone j he) (hsl j s hj)]
      have : chain.idxOf? j = some p := idxOf_some hnd hp
      simp only [valA, this]
      simp [hv]
    · obtain ⟨g, hg'⟩ := Option.isSome_iff_exists.1 ((hga j ha).1 (hdone j he))
      refine ⟨g, hg', eval_of ?_⟩
      rw [hval j s (hdone j he) (hsl j s hj)]
      have : chain.idxOf? j = none := idxOf_none (by simpa using hc)
      simp only [valA, this, ha, hg']
      rfl
   have hclosed : ∀ j o', (l.setIfInBounds i true).getD j false = true → ops[j]? = some o' → ∀ d ∈ o'.after, Region.binds .any d = true → (l.setIfInBounds i true).getD d.on false = true := by
    intro j o' hj ho' d hd hb
    have mono : ∀ k, l.getD k false = true → (l.setIfInBounds i true).getD k false = true := fun k hk => by
     by_cases hik : i = k
     · subst hik; exact hself
     · rw [getD_set_other hik]; exact hk
    by_cases hij : i = j
    · subst hij
      rw [ho] at ho'
      cases ho'
      exact mono _ (hall d hd hb)
    · rw [getD_set_other hij] at hj
      exact mono _ (hcl j o' hj ho' d hd hb)
   have hput : ∀ v s, (∀ j, dstO ops j = some s → (l.setIfInBounds i true).getD j false = false) → (a.put o.dst v).tmps[s]? = a0.tmps[s]? := fun v s hsn => by
    have hsn' : ∀ j, dstO ops j = some s → l.getD j false = false := fun j hj => by
     have h1 := hsn j hj
     by_cases hij : i = j
     · subst hij; rw [hself] at h1; cases h1
     · rwa [getD_set_other hij] at h1
    cases hd : o.dst with
    | none => simp only [Act.put]; exact hnot s hsn'
    | some t =>
     have : dstO ops i = some t := by unfold dstO; rw [ho]; exact hd
     have hts : t ≠ s := fun e => by
      have h1 := hsn i (by rw [this, e])
      rw [hself] at h1; cases h1
     simp only [Act.put]
     rw [Array.getElem?_setIfInBounds_ne hts]
     exact hnot s hsn'
   have hputd : ∀ v, (a.put o.dst v).defers = a0.defers ∧ (a.put o.dst v).tmps.size = a0.tmps.size := fun v => by
    cases hd : o.dst with
    | none => exact ⟨hdf, hsz⟩
    | some t => exact ⟨hdf, by simpa [Act.put] using hsz⟩
   have hputv : ∀ us' gs' v, valA chain al pv us' gs' i = v → (∀ j, l.getD j false = true → valA chain al pv us' gs' j = valA chain al pv us gs j) → ∀ j s, (l.setIfInBounds i true).getD j false = true → dstO ops j = some s → (a.put o.dst v).tmps[s]? = some (valA chain al pv us' gs' j) := by
    intro us' gs' v hv hsame j s hj hd
    by_cases hij : i = j
    · subst hij
      have hod : o.dst = some s := by unfold dstO at hd; rw [ho] at hd; exact hd
      rw [hod, hv]
      have := dst_lt hdst hd
      simp [Act.put, hsz, this]
    · rw [getD_set_other hij] at hj
      rw [hsame j hj]
      cases hod : o.dst with
      | none => simp only [Act.put]; exact hval j s hj hd
      | some t =>
       have h1 : dstO ops i = some t := by unfold dstO; rw [ho]; exact hod
       have hts : t ≠ s := fun e => hij (dst_inj hdst h1 (by rw [hd, e]))
       simp only [Act.put]
       rw [Array.getElem?_setIfInBounds_ne hts]
       exact hval j s hj hd
   have hlim : i ∉ chain → ∀ p c, chain[p]? = some c → (deps.getD c []).contains i = true → us.length ≤ p := fun hic p c hp he => by
    rcases Nat.lt_or_ge p us.length with h | h
    · have hclt := chainB_lt hch hp
      have hoc : ops[c]? = some ops[c] := by simp [hclt]
      rw [hdep c _ hoc] at he
      obtain ⟨d, hd1, hd2, hd3⟩ := edge_of (edge_deps he)
      have := hcl c _ ((hcu p c hp).2 h) hoc d hd1 hd2
      rw [hd3, hnl] at this
      cases this
    · exact h
   refine want_none (hgd i o ho) ?_
   by_cases hc : i ∈ chain
   · obtain ⟨p, hp⟩ := List.getElem?_of_mem hc
     have hle : us.length ≤ p := by
      rcases Nat.lt_or_ge p us.length with h | h
      · have := (hcu p i hp).2 h
        rw [hnl] at this
        cases this
      · exact h
     have hge : p ≤ us.length := by
      cases p with
      | zero => omega
      | succ q =>
       have hpl := (List.getElem?_eq_some_iff.1 hp).1
       have hq : chain[q]? = some chain[q] := List.getElem?_eq_getElem (by omega)
       have := (hcu q _ hq).1 (chain_done hcl hall hch hq hp ho)
       omega
     have hpl := (List.getElem?_eq_some_iff.1 hp).1
     refine hlink p i o hp ho a w us gs K (by omega) hJ hfind (fun v w' hJ' => ?_)
     apply hK
     have hlen : (us ++ [v]).length = us.length + 1 := by simp
     refine ⟨by simpa using hsz0, (hputd v).1, (hputd v).2, hput v, hclosed, us ++ [v], gs, by rw [hlen]; omega, fun q c hq => ?_, fun j hj => ?_, hputv _ gs v ?_ ?_, hJ'⟩
     · rw [hlen]
       by_cases hic : i = c
       · subst hic
         have : q = p := by
          have h1 := idxOf_some hnd hq
          have h2 := idxOf_some hnd hp
          rw [h1] at h2
          exact Option.some.inj h2
         rw [hself]
         simp
         omega
       · rw [getD_set_other hic, hcu q c hq]
         have : q ≠ p := fun e => hic (by rw [e, hp] at hq; exact Option.some.inj hq)
         omega
     · have : i ≠ j := fun e => by
        have := (hallt j hj).2
        rw [← e] at this
        exact absurd hc (by simpa using this)
       rw [getD_set_other this]
       exact hga j hj
     · simp only [valA, idxOf_some hnd hp]
       rw [List.getD_eq_getElem?_getD, List.getElem?_append_right (by omega)]
       have : p - us.length = 0 := by omega
       simp [this]
     · intro j hj
       unfold valA
       cases hx : chain.idxOf? j with
       | none => rfl
       | some q =>
        have hq : chain[q]? = some j := by
         obtain ⟨h1, h2, _⟩ := List.idxOf?_eq_some_iff.1 hx
         rw [List.getElem?_eq_getElem h1, h2]
        have := (hcu q j hq).1 hj
        simp only [List.getD_eq_getElem?_getD]
        rw [List.getElem?_append_left this]
   · have hcf : chain.contains i = false := by simpa using hc
     have hcq : ∀ q c, chain[q]? = some c → ((l.setIfInBounds i true).getD c false = true ↔ q < us.length) := fun q c hq => by
      have : i ≠ c := fun e => hc (by rw [e]; exact List.mem_of_getElem? hq)
      rw [getD_set_other this]
      exact hcu q c hq
     cases ha : al.contains i with
     | true =>
      have hgn : gs i = none := by
       have := hga i ha
       rw [hnl] at this
       cases h : gs i with
       | none => rfl
       | some g => rw [h] at this; simp at this
      refine halloc i o ho ha a w K ?_
      apply hK
      refine ⟨by simpa using hsz0, (hputd _).1, (hputd _).2, hput _, hclosed, us, upd gs i w.heap.size, hul, hcq, fun j hj => ?_, hputv us _ _ ?_ (fun j hj => ?_), hJal i ha us gs w hJ hgn (hlim hc)⟩
      · by_cases hij : j = i
        · subst hij
          rw [hself, upd_self]
          simp
        · rw [getD_set_other (Ne.symm hij), upd_other _ hij]
          exact hga j hj
      · simp only [valA, idxOf_none hc, ha, upd_self]
        rfl
      · have hij : j ≠ i := fun e => by rw [e, hnl] at hj; cases hj
        simp only [valA, upd_other _ hij]
     | false =>
      refine hpure i o ho hcf ha a w us gs K hJ hfind (hlim hc) ?_
      apply hK
      refine ⟨by simpa using hsz0, (hputd _).1, (hputd _).2, hput _, hclosed, us, gs, hul, hcq, fun j hj => ?_, hputv us gs _ ?_ (fun _ _ => rfl), hJ⟩
      · have : i ≠ j := fun e => by rw [e, hj] at ha; cases ha
        rw [getD_set_other this]
        exact hga j hj
      · simp only [valA, idxOf_none hc, ha]
        rfl
 · rintro l a w ⟨hsz0, hdf, hsz, hnot, hcl, us, gs, hul, hcu, hga, hval, hJ⟩ hall
   have hlen : us.length = chain.length := by
    rcases Nat.lt_or_ge us.length chain.length with h | h
    · have hq : chain[us.length]? = some chain[us.length] := List.getElem?_eq_getElem h
      have := (hcu _ _ hq).1 (hall _ (chainB_lt hch hq))
      omega
    · omega
   have hfr := frame_eq (a0 := a0.tmps) (frameA ops chain al pv us gs) a.tmps a0.tmps hsz (fun p hp => by
    obtain ⟨j, hj, hv⟩ := List.mem_filterMap.1 hp
    rw [Option.map_eq_some_iff] at hv
    obtain ⟨s, hd, rfl⟩ := hv
    exact hval j s (hall j (by simpa using hj)) hd) (fun s hsn => hnot s fun j hj => absurd (by
     have hjl : j < ops.size := by
      unfold dstO at hj
      rw [Option.bind_eq_some_iff] at hj
      obtain ⟨o', h1, _⟩ := hj
      exact (Array.getElem?_eq_some_iff.1 h1).1
     rw [List.mem_map]
     exact ⟨(s, valA chain al pv us gs j), List.mem_filterMap.2 ⟨j, by simpa using hjl, by rw [hj]; rfl⟩, rfl⟩) hsn)
   have : a = { a0 with tmps := (frameA ops chain al pv us gs).foldl (fun t p => t.setIfInBounds p.1 p.2) a0.tmps } := by
    obtain ⟨at_, ad⟩ := a
    simp only at hfr hdf
    rw [hfr, hdf]
   rw [this]
   exact hQ us gs w hlen (fun j hj => (hga j hj).1 (hall j (hallt j hj).1)) hJ
 · refine ⟨by simp, rfl, rfl, fun _ _ => rfl, fun j o h => ?_, [], fun _ => none, by simp, fun i c hc => ?_, fun j hj => ?_, fun j s h => ?_, h0⟩
   · simp [Array.getElem?_replicate] at h
     split at h <;> simp at h
   · have : (Array.replicate ops.size false).getD c false = false := by
      simp [Array.getElem?_replicate]
      split <;> rfl
     rw [this]
     simp
   · have : (Array.replicate ops.size false).getD j false = false := by
      simp [Array.getElem?_replicate]
      split <;> rfl
     rw [this]
     simp
   · simp [Array.getElem?_replicate] at h
     split at h <;> simp at h
end
end Go.Proofs.YtbmblnhfmpolbaaGreatDoor