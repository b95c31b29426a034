/- Texts laid together. -/
import Derived.Test.YtablhmobekmflaaGreatDoorCt05
import Derived.Test.YtablhmobekmflaaGreatDoorCt09
import Derived.Shelf.SlGeneric
import Derived.Shelf.SlSortCmp.KitK
import Derived.Ground.SlsfProg
import Derived.Test.YtablhmobekmflaaGreatDoorProg
import Derived.Test.YtablhmobekmflaaGreatDoorRows
import Derived.Test.YtablhmobekmflaaGreatDoorCt01
import Derived.Sort.Grow
import Derived.Sort.WalkB2
import Derived.Sort.WalkB12
import Derived.Deep.LoopGhost
set_option linter.unusedVariables false
set_option linter.unusedSimpArgs false
namespace Go.Proofs.YtablhmobekmflaaGreatDoor
section
open Go.RowKit
def valA (chain al : List Nat) (pv us : List Value) (gs : Nat → Option Nat) (j : Nat) : Value :=
 match chain.idxOf? j with
 | some i => us.getD i undef
 | none => if al.contains j then .pointer ((gs j).map fun g => ⟨g, 0, none⟩) else pv.getD j undef
def upd (gs : Nat → Option Nat) (j g : Nat) : Nat → Option Nat := fun k => if k = j then some g else gs k
theorem upd_self (gs : Nat → Option Nat) (j g : Nat) : upd gs j g j = some g := by simp [upd]
theorem upd_other (gs : Nat → Option Nat) {j k : Nat} (h : k ≠ j) (g : Nat) : upd gs j g k = gs k := by simp [upd, h]
def AlInv (ops : Array Oper) (chain al : List Nat) (pv : List Value) (a0 : Act) (J : List Value → (Nat → Option Nat) → World → Prop) (l : Array Bool) (a : Act) (w : World) : Prop :=
 l.size = ops.size ∧ a.defers = a0.defers ∧ a.tmps.size = a0.tmps.size ∧ (∀ s, (∀ j, dstO ops j = some s → l.getD j false = false) → a.tmps[s]? = a0.tmps[s]?) ∧
 (∀ j o, l.getD j false = true → ops[j]? = some o → ∀ d ∈ o.after, Region.binds .any d = true → l.getD d.on false = true) ∧
 ∃ (us : List Value) (gs : Nat → Option Nat), us.length ≤ chain.length ∧ (∀ i c, chain[i]? = some c → (l.getD c false = true ↔ i < us.length)) ∧ (∀ j, al.contains j = true → (l.getD j false = true ↔ (gs j).isSome = true)) ∧
  (∀ j s, l.getD j false = true → dstO ops j = some s → a.tmps[s]? = some (valA chain al pv us gs j)) ∧ J us gs w
structure SeesA (slots : List (Option Nat)) (deps : List (List Nat)) (chain al : List Nat) (pv us : List Value) (gs : Nat → Option Nat) (a0 a : Act) (i : Nat) : Prop where
 old : ∀ (s : Nat) (v : Value), slots.contains (some s) = false → a0.eval (.tmp s) = v → a.eval (.tmp s) = v
 pure : ∀ (j s : Nat) (v : Value), (deps.getD i []).contains j = true → slots[j]? = some (some s) → chain.contains j = false → al.contains j = false → pv[j]? = some v → a.eval (.tmp s) = v
 link : ∀ (p j s : Nat) (v : Value), chain[p]? = some j → (deps.getD i []).contains j = true → slots[j]? = some (some s) → us[p]? = some v → a.eval (.tmp s) = v
 ptr : ∀ (j s : Nat), (deps.getD i []).contains j = true → slots[j]? = some (some s) → chain.contains j = false → al.contains j = true → ∃ g, gs j = some g ∧ a.eval (.tmp s) = .pointer (some ⟨g, 0, none⟩)
 made : ∀ (j : Nat), (deps.getD i []).contains j = true → al.contains j = true → (gs j).isSome = true
 did : ∀ (p j : Nat), chain[p]? = some j → (deps.getD i []).contains j = true → p < us.length
 olds : ∀ (p j s : Nat) (v : Value), chain[p]? = some j → slots[j]? = some (some s) → us.length ≤ p → a0.eval (.tmp s) = v → a.eval (.tmp s) = v
def frameA (ops : Array Oper) (chain al : List Nat) (pv us : List Value) (gs : Nat → Option Nat) : List (Nat × Value) := (List.range ops.size).filterMap fun j => (dstO ops j).map fun s => (s, valA chain al pv us gs j)
theorem wp_region_allocs {P : Program} {ops : Array Oper} {Q : Exit → Act → World → Prop} {id : Nat} {a0 : Act} {W : World} (slots : List (Option Nat)) (deps : List (List Nat)) (chain al : List Nat) (pv : List Value) (obj : Nat → Obj) (J : List Value → (Nat → Option Nat) → World → Prop) (hm : P.follows .mixedOrders = true) (hdst : dstOK2 ops a0.tmps.size = true) (hord : ordB 0 ops.toList = true)
 (hs : ops.toList.map (·.dst) = slots) (hd : ops.toList.map depsOf = deps) (hg : ops.toList.all (fun o => o.guard.isNone) = true) (hch : chainB ops chain = true) (hnd : chain.Nodup) (hal : (al.all fun j => decide (j < ops.size) && !chain.contains j) = true) (h0 : J [] (fun _ => none) W.drew)
 (halloc : ∀ (i : Nat) (o : Oper), ops[i]? = some o → al.contains i = true → ∀ (a : Act) (w : World) (K : Act → World → Prop), K (a.put o.dst (.pointer (some ⟨w.heap.size, 0, none⟩))) (w.alloc (obj i)) → Oper.wp P o a w K Q)
 (hJal : ∀ (i : Nat), al.contains i = true → ∀ us gs w, J us gs w → gs i = none → (∀ p c, chain[p]? = some c → (deps.getD c []).contains i = true → us.length ≤ p) → J us (upd gs i w.heap.size) (w.alloc (obj i)))
 (hpure : ∀ (i : Nat) (o : Oper), ops[i]? = some o → chain.contains i = false → al.contains i = false → ∀ (a : Act) (w : World) (us : List Value) (gs : Nat → Option Nat) (K : Act → World → Prop), J us gs w → SeesA slots deps chain al pv us gs a0 a i → (∀ p c, chain[p]? = some c → (deps.getD c []).contains i = true → us.length ≤ p) → K (a.put o.dst (pv.getD i undef)) w → Oper.wp P o a w K Q)
 (hlink : ∀ (p c : Nat) (o : Oper), chain[p]? = some c → ops[c]? = some o → ∀ (a : Act) (w : World) (us : List Value) (gs : Nat → Option Nat) (K : Act → World → Prop), us.length = p → J us gs w → SeesA slots deps chain al pv us gs a0 a c → (∀ v w', J (us ++ [v]) gs w' → K (a.put o.dst v) w') → Oper.wp P o a w K Q)
 (hQ : ∀ us gs w, us.length = chain.length → (∀ j, al.contains j = true → (gs j).isSome = true) → J us gs w → Q .normal { a0 with tmps := (frameA ops chain al pv us gs).foldl (fun t p => t.setIfInBounds p.1 p.2) a0.tmps } w) :
 (Code.region id ops true).wp P Q a0 W := by
 have hgd : ∀ (i : Nat) (o : Oper), ops[i]? = some o → o.guard = none := fun i o ho => by
  have := List.all_eq_true.1 hg o (by simpa using Array.mem_of_getElem? ho)
  simpa using this
 have hdep : ∀ (i : Nat) (o : Oper), ops[i]? = some o → deps.getD i [] = depsOf o := fun i o ho => by
  rw [← hd, List.getD_eq_getElem?_getD, List.getElem?_map]
  have : ops.toList[i]? = some o := by simpa using ho
  rw [this]; rfl
 have hsl : ∀ j s, slots[j]? = some (some s) → dstO ops j = some s := fun j s h => by
  rw [← hs, List.getElem?_map, Option.map_eq_some_iff] at h
  obtain ⟨o', h1, h2⟩ := h
  have h1' : ops[j]? = some o' := by simpa using h1
  simp [dstO, h1', h2]
 have hallt : ∀ j, al.contains j = true → j < ops.size ∧ chain.contains j = false := fun j hj => by
  have := List.all_eq_true.1 hal j (by simpa using hj)
  simpa using this
 refine wp_region_any hm ?_
 refine wpAny_inv (AlInv ops chain al pv a0 J) (fun l a w h => h.1) ?_ (hordB hord) ?_ _ _ _ _ (by simp) ?_
 · intro l a w hI i o ho hl hall K hK
   obtain ⟨hsz0, hdf, hsz, hnot, hcl, us, gs, hul, hcu, hga, hval, hJ⟩ := hI
   have hi : i < ops.size := (Array.getElem?_eq_some_iff.1 ho).1
   have hnl := not_listed hl
   have hself : (l.setIfInBounds i true).getD i false = true := getD_set_self (by omega)
   have hdone : ∀ j, (deps.getD i []).contains j = true → l.getD j false = true := fun j hj => by
    rw [hdep i o ho] at hj
    obtain ⟨d, hd1, hd2, hd3⟩ := edge_of (edge_deps hj)
    rw [← hd3]
    exact hall d hd1 hd2
   have hfind : SeesA slots deps chain al pv us gs a0 a i := by
    refine ⟨fun s v hc hv => ?_, fun j s v he hj hc ha hv => ?_, fun p j s v hp he hj hv => ?_, fun j s he hj hc ha => ?_, fun j he ha => (hga j ha).1 (hdone j he), fun p j hp he => (hcu p j hp).1 (hdone j he), fun p j s v hp hj hl0 hv => by
     have := hnot s fun j' hj' => by
      have e : j' = j := dst_inj hdst hj' (hsl j s hj)
      subst e
      cases hx : l.getD j' false
      · rfl
      · exact absurd ((hcu p _ hp).1 hx) (by omega)
     rw [← hv]
     simp [Act.eval, this]⟩
    · have hn : some s ∉ ops.toList.map (·.dst) := by rw [hs]; simpa using hc
      have := hnot s (fun j hj => by
       unfold dstO at hj
       rw [Option.bind_eq_some_iff] at hj
       obtain ⟨o', h1, h2⟩ := hj
       exact absurd (List.mem_map.2 ⟨o', by simpa using Array.mem_of_getElem? h1, h2⟩) hn)
      rw [← hv]
      simp [Act.eval, this]
    · refine eval_of ?_
      rw [hval j s (hdone j he) (hsl j s hj)]
      have : chain.idxOf? j = none := idxOf_none (by simpa using hc)
      simp only [valA, this, ha]
      simp [hv]
    · refine eval_of ?_
      rw [hval j s (hdone j he) (hsl j s hj)]
      have : chain.idxOf? j = some p := idxOf_some hnd hp
      simp only [valA, this]
      simp [hv]
    · obtain ⟨g, hg'⟩ := Option.isSome_iff_exists.1 ((hga j ha).1 (hdone j he))
      refine ⟨g, hg', eval_of ?_⟩
      rw [hval j s (hdone j he) (hsl j s hj)]
      have : chain.idxOf? j = none := idxOf_none (by simpa using hc)
      simp only [valA, this, ha, hg']
      rfl
   have hclosed : ∀ j o', (l.setIfInBounds i true).getD j false = true → ops[j]? = some o' → ∀ d ∈ o'.after, Region.binds .any d = true → (l.setIfInBounds i true).getD d.on false = true := by
    intro j o' hj ho' d hd hb
    have mono : ∀ k, l.getD k false = true → (l.setIfInBounds i true).getD k false = true := fun k hk => by
     by_cases hik : i = k
     · subst hik; exact hself
     · rw [getD_set_other hik]; exact hk
    by_cases hij : i = j
    · subst hij
      rw [ho] at ho'
      cases ho'
      exact mono _ (hall d hd hb)
    · rw [getD_set_other hij] at hj
      exact mono _ (hcl j o' hj ho' d hd hb)
   have hput : ∀ v s, (∀ j, dstO ops j = some s → (l.setIfInBounds i true).getD j false = false) → (a.put o.dst v).tmps[s]? = a0.tmps[s]? := fun v s hsn => by
    have hsn' : ∀ j, dstO ops j = some s → l.getD j false = false := fun j hj => by
     have h1 := hsn j hj
     by_cases hij : i = j
     · subst hij; rw [hself] at h1; cases h1
     · rwa [getD_set_other hij] at h1
    cases hd : o.dst with
    | none => simp only [Act.put]; exact hnot s hsn'
    | some t =>
     have : dstO ops i = some t := by unfold dstO; rw [ho]; exact hd
     have hts : t ≠ s := fun e => by
      have h1 := hsn i (by rw [this, e])
      rw [hself] at h1; cases h1
     simp only [Act.put]
     rw [Array.getElem?_setIfInBounds_ne hts]
     exact hnot s hsn'
   have hputd : ∀ v, (a.put o.dst v).defers = a0.defers ∧ (a.put o.dst v).tmps.size = a0.tmps.size := fun v => by
    cases hd : o.dst with
    | none => exact ⟨hdf, hsz⟩
    | some t => exact ⟨hdf, by simpa [Act.put] using hsz⟩
   have hputv : ∀ us' gs' v, valA chain al pv us' gs' i = v → (∀ j, l.getD j false = true → valA chain al pv us' gs' j = valA chain al pv us gs j) → ∀ j s, (l.setIfInBounds i true).getD j false = true → dstO ops j = some s → (a.put o.dst v).tmps[s]? = some (valA chain al pv us' gs' j) := by
    intro us' gs' v hv hsame j s hj hd
    by_cases hij : i = j
    · subst hij
      have hod : o.dst = some s := by unfold dstO at hd; rw [ho] at hd; exact hd
      rw [hod, hv]
      have := dst_lt hdst hd
      simp [Act.put, hsz, this]
    · rw [getD_set_other hij] at hj
      rw [hsame j hj]
      cases hod : o.dst with
      | none => simp only [Act.put]; exact hval j s hj hd
      | some t =>
       have h1 : dstO ops i = some t := by unfold dstO; rw [ho]; exact hod
       have hts : t ≠ s := fun e => hij (dst_inj hdst h1 (by rw [hd, e]))
       simp only [Act.put]
       rw [Array.getElem?_setIfInBounds_ne hts]
       exact hval j s hj hd
   have hlim : i ∉ chain → ∀ p c, chain[p]? = some c → (deps.getD c []).contains i = true → us.length ≤ p := fun hic p c hp he => by
    rcases Nat.lt_or_ge p us.length with h | h
    · have hclt := chainB_lt hch hp
      have hoc : ops[c]? = some ops[c] := by simp [hclt]
      rw [hdep c _ hoc] at he
      obtain ⟨d, hd1, hd2, hd3⟩ := edge_of (edge_deps he)
      have := hcl c _ ((hcu p c hp).2 h) hoc d hd1 hd2
      rw [hd3, hnl] at this
      cases this
    · exact h
   refine want_none (hgd i o ho) ?_
   by_cases hc : i ∈ chain
   · obtain ⟨p, hp⟩ := List.getElem?_of_mem hc
     have hle : us.length ≤ p := by
      rcases Nat.lt_or_ge p us.length with h | h
      · have := (hcu p i hp).2 h
        rw [hnl] at this
        cases this
      · exact h
     have hge : p ≤ us.length := by
      cases p with
      | zero => omega
      | succ q =>
       have hpl := (List.getElem?_eq_some_iff.1 hp).1
       have hq : chain[q]? = some chain[q] := List.getElem?_eq_getElem (by omega)
       have := (hcu q _ hq).1 (chain_done hcl hall hch hq hp ho)
       omega
     have hpl := (List.getElem?_eq_some_iff.1 hp).1
     refine hlink p i o hp ho a w us gs K (by omega) hJ hfind (fun v w' hJ' => ?_)
     apply hK
     have hlen : (us ++ [v]).length = us.length + 1 := by simp
     refine ⟨by simpa using hsz0, (hputd v).1, (hputd v).2, hput v, hclosed, us ++ [v], gs, by rw [hlen]; omega, fun q c hq => ?_, fun j hj => ?_, hputv _ gs v ?_ ?_, hJ'⟩
     · rw [hlen]
       by_cases hic : i = c
       · subst hic
         have : q = p := by
          have h1 := idxOf_some hnd hq
          have h2 := idxOf_some hnd hp
          rw [h1] at h2
          exact Option.some.inj h2
         rw [hself]
         simp
         omega
       · rw [getD_set_other hic, hcu q c hq]
         have : q ≠ p := fun e => hic (by rw [e, hp] at hq; exact Option.some.inj hq)
         omega
     · have : i ≠ j := fun e => by
        have := (hallt j hj).2
        rw [← e] at this
        exact absurd hc (by simpa using this)
       rw [getD_set_other this]
       exact hga j hj
     · simp only [valA, idxOf_some hnd hp]
       rw [List.getD_eq_getElem?_getD, List.getElem?_append_right (by omega)]
       have : p - us.length = 0 := by omega
       simp [this]
     · intro j hj
       unfold valA
       cases hx : chain.idxOf? j with
       | none => rfl
       | some q =>
        have hq : chain[q]? = some j := by
         obtain ⟨h1, h2, _⟩ := List.idxOf?_eq_some_iff.1 hx
         rw [List.getElem?_eq_getElem h1, h2]
        have := (hcu q j hq).1 hj
        simp only [List.getD_eq_getElem?_getD]
        rw [List.getElem?_append_left this]
   · have hcf : chain.contains i = false := by simpa using hc
     have hcq : ∀ q c, chain[q]? = some c → ((l.setIfInBounds i true).getD c false = true ↔ q < us.length) := fun q c hq => by
      have : i ≠ c := fun e => hc (by rw [e]; exact List.mem_of_getElem? hq)
      rw [getD_set_other this]
      exact hcu q c hq
     cases ha : al.contains i with
     | true =>
      have hgn : gs i = none := by
       have := hga i ha
       rw [hnl] at this
       cases h : gs i with
       | none => rfl
       | some g => rw [h] at this; simp at this
      refine halloc i o ho ha a w K ?_
      apply hK
      refine ⟨by simpa using hsz0, (hputd _).1, (hputd _).2, hput _, hclosed, us, upd gs i w.heap.size, hul, hcq, fun j hj => ?_, hputv us _ _ ?_ (fun j hj => ?_), hJal i ha us gs w hJ hgn (hlim hc)⟩
      · by_cases hij : j = i
        · subst hij
          rw [hself, upd_self]
          simp
        · rw [getD_set_other (Ne.symm hij), upd_other _ hij]
          exact hga j hj
      · simp only [valA, idxOf_none hc, ha, upd_self]
        rfl
      · have hij : j ≠ i := fun e => by rw [e, hnl] at hj; cases hj
        simp only [valA, upd_other _ hij]
     | false =>
      refine hpure i o ho hcf ha a w us gs K hJ hfind (hlim hc) ?_
      apply hK
      refine ⟨by simpa using hsz0, (hputd _).1, (hputd _).2, hput _, hclosed, us, gs, hul, hcq, fun j hj => ?_, hputv us gs _ ?_ (fun _ _ => rfl), hJ⟩
      · have : i ≠ j := fun e => by rw [e, hj] at ha; cases ha
        rw [getD_set_other this]
        exact hga j hj
      · simp only [valA, idxOf_none hc, ha]
        rfl
 · rintro l a w ⟨hsz0, hdf, hsz, hnot, hcl, us, gs, hul, hcu, hga, hval, hJ⟩ hall
   have hlen : us.length = chain.length := by
    rcases Nat.lt_or_ge us.length chain.length with h | h
    · have hq : chain[us.length]? = some chain[us.length] := List.getElem?_eq_getElem h
      have := (hcu _ _ hq).1 (hall _ (chainB_lt hch hq))
      omega
    · omega
   have hfr := frame_eq (a0 := a0.tmps) (frameA ops chain al pv us gs) a.tmps a0.tmps hsz (fun p hp => by
    obtain ⟨j, hj, hv⟩ := List.mem_filterMap.1 hp
    rw [Option.map_eq_some_iff] at hv
    obtain ⟨s, hd, rfl⟩ := hv
    exact hval j s (hall j (by simpa using hj)) hd) (fun s hsn => hnot s fun j hj => absurd (by
     have hjl : j < ops.size := by
      unfold dstO at hj
      rw [Option.bind_eq_some_iff] at hj
      obtain ⟨o', h1, _⟩ := hj
      exact (Array.getElem?_eq_some_iff.1 h1).1
     rw [List.mem_map]
     exact ⟨(s, valA chain al pv us gs j), List.mem_filterMap.2 ⟨j, by simpa using hjl, by rw [hj]; rfl⟩, rfl⟩) hsn)
   have : a = { a0 with tmps := (frameA ops chain al pv us gs).foldl (fun t p => t.setIfInBounds p.1 p.2) a0.tmps } := by
    obtain ⟨at_, ad⟩ := a
    simp only at hfr hdf
    rw [hfr, hdf]
   rw [this]
   exact hQ us gs w hlen (fun j hj => (hga j hj).1 (hall j (hallt j hj).1)) hJ
 · refine ⟨by simp, rfl, rfl, fun _ _ => rfl, fun j o h => ?_, [], fun _ => none, by simp, fun i c hc => ?_, fun j hj => ?_, fun j s h => ?_, h0⟩
   · simp [Array.getElem?_replicate] at h
     split at h <;> simp at h
   · have : (Array.replicate ops.size false).getD c false = false := by
      simp [Array.getElem?_replicate]
      split <;> rfl
     rw [this]
     simp
   · have : (Array.replicate ops.size false).getD j false = false := by
      simp [Array.getElem?_replicate]
      split <;> rfl
     rw [this]
     simp
   · simp [Array.getElem?_replicate] at h
     split at h <;> simp at h
end
section
open Go.RowKit
theorem bs_eq (x y : ByteArray) : (x.toList == y.toList) = decide (x = y) := by
 by_cases h : x = y
 · subst h; simp
 · rw [decide_eq_false h, beq_eq_false_iff_ne]
   intro he
   rw [ByteArray.toList_eq, ByteArray.toList_eq] at he
   exact h (by cases x; cases y; simp_all [Array.toList_inj])
def isR (l : List Cut) (s : ByteArray) (k : Nat) : Prop := (l[k]?).map (·.reel) = some s
instance (l : List Cut) (s : ByteArray) (k : Nat) : Decidable (isR l s k) := inferInstanceAs (Decidable ((l[k]?).map (·.reel) = some s))
def lastI (l : List Cut) (s : ByteArray) : Nat → Nat | 0 => 0 | k + 1 => if isR l s k then k else lastI l s k
def cntI (l : List Cut) (s : ByteArray) : Nat → Nat | 0 => 0 | k + 1 => if isR l s k then cntI l s k + 1 else cntI l s k
def OnlyRel (w1 : World) (n : Nat) (l : List Cut) (s : ByteArray) (v4 v5 i : Value) (wr : World) : Prop :=
 ∃ k : Nat, k ≤ n ∧ i = .int .i64 k ∧ v4 = .int .i64 (lastI l s k) ∧ v5 = .int .i64 (cntI l s k) ∧ Ext w1 wr
structure TwoJ (T : TypeId) (p q m : Nat) (a b : Array Value) (W : World) (us : List Value) (gs : Nat → Option Nat) (w : World) : Prop where
 ext : Ext W w
 va : ∀ g, gs p = some g → W.heap.size ≤ g ∧ ∃ cs, cs.size = m ∧ Blk w g T cs ∧ (0 < us.length → cs = a)
 vb : ∀ g, gs q = some g → W.heap.size ≤ g ∧ ∃ cs, cs.size = m ∧ Blk w g T cs ∧ (1 < us.length → cs = b)
 ne : ∀ g g', gs p = some g → gs q = some g' → g ≠ g'
section
variable {T : TypeId} {p q m : Nat} {a b z : Array Value} {W w : World} {us : List Value} {gs : Nat → Option Nat}
end
end
end Go.Proofs.YtablhmobekmflaaGreatDoor
namespace Go.Proofs
open Go.Shelf
def Tryz.srtSp_ren : Go.Shelf.Ren := ⟨fun | 6 => 214 | 15 => 168 | 14 => 257 | 28 => 224 | 29 => 225 | 20 => 275 | 21 => 276 | 22 => 277 | 23 => 278 | 24 => 279 | 25 => 280 | 26 => 281 | 27 => 282 | 46 => 291 | 47 => 259 | 48 => 260 | 49 => 292 | 50 => 293 | 57 => 296 | n => n, fun | 22 => 35 | 24 => 60 | 25 => 226 | 3 => 3 | 39 => 233 | 0 => 0 | 53 => 273 | 55 => 192 | 4 => 4 | 46 => 267 | 45 => 266 | 50 => 135 | 5 => 5 | 9 => 9 | 66 => 294 | 70 => 298 | 76 => 314 | 77 => 154 | n => n, fun | n => n⟩
theorem Tryz.srtSp : Go.Proofs.SlLaysF0.n6 Tryz.prog Tryz.srtSp_ren := {
 mixed := by kernel_rfl
 f6 := ⟨Tryz.f214.name, by decide, Tryz.func214.trans (congrArg some (by kernel_rfl))⟩
 f14 := ⟨Tryz.f257.name, by decide, Tryz.func257.trans (congrArg some (by kernel_rfl))⟩
 f15 := Tryz.func168.trans (congrArg some (by kernel_rfl))
 f20 := ⟨Tryz.f275.name, by decide, Tryz.func275.trans (congrArg some (by kernel_rfl))⟩
 f21 := ⟨Tryz.f276.name, by decide, Tryz.func276.trans (congrArg some (by kernel_rfl))⟩
 f22 := ⟨Tryz.f277.name, by decide, Tryz.func277.trans (congrArg some (by kernel_rfl))⟩
 f23 := ⟨Tryz.f278.name, by decide, Tryz.func278.trans (congrArg some (by kernel_rfl))⟩
 f24 := ⟨Tryz.f279.name, by decide, Tryz.func279.trans (congrArg some (by kernel_rfl))⟩
 f25 := ⟨Tryz.f280.name, by decide, Tryz.func280.trans (congrArg some (by kernel_rfl))⟩
 f26 := ⟨Tryz.f281.name, by decide, Tryz.func281.trans (congrArg some (by kernel_rfl))⟩
 f27 := ⟨Tryz.f282.name, by decide, Tryz.func282.trans (congrArg some (by kernel_rfl))⟩
 f28 := Tryz.func224.trans (congrArg some (by kernel_rfl))
 f29 := Tryz.func225.trans (congrArg some (by kernel_rfl))
 f46 := ⟨Tryz.f291.name, by decide, Tryz.func291.trans (congrArg some (by kernel_rfl))⟩
 f47 := Tryz.func259.trans (congrArg some (by kernel_rfl))
 f48 := Tryz.func260.trans (congrArg some (by kernel_rfl))
 f49 := ⟨Tryz.f292.name, by decide, Tryz.func292.trans (congrArg some (by kernel_rfl))⟩
 f50 := ⟨Tryz.f293.name, by decide, Tryz.func293.trans (congrArg some (by kernel_rfl))⟩
 f57 := ⟨Tryz.f296.name, by decide, Tryz.func296.trans (congrArg some (by kernel_rfl))⟩
 t0 := Tryz.underlying0
 a0 := Tryz.isAgg0
 z0 := Tryz.sizeOf0
 v0 := Tryz.zeroValue0
 t3 := Tryz.underlying3
 a3 := Tryz.isAgg3
 z3 := Tryz.sizeOf3
 v3 := Tryz.zeroValue3
 t4 := Tryz.underlying4
 a4 := Tryz.isAgg4
 z4 := Tryz.sizeOf4
 v4 := Tryz.zeroValue4
 t5 := Tryz.underlying5
 a5 := Tryz.isAgg5
 z5 := Tryz.sizeOf5
 v5 := Tryz.zeroValue5
 t9 := Tryz.underlying9
 a9 := Tryz.isAgg9
 z9 := Tryz.sizeOf9
 v9 := Tryz.zeroValue9
 t22 := Tryz.underlying35
 a22 := Tryz.isAgg35
 z22 := Tryz.sizeOf35
 v22 := Tryz.zeroValue35
 t25 := Tryz.underlying226
 a25 := Tryz.isAgg226
 z25 := Tryz.sizeOf226
 v25 := Tryz.zeroValue226
 t39 := Tryz.underlying233
 a39 := Tryz.isAgg233
 z39 := Tryz.sizeOf233
 v39 := Tryz.zeroValue233
 t45 := Tryz.underlying266
 a45 := Tryz.isAgg266
 z45 := Tryz.sizeOf266
 v45 := Tryz.zeroValue266
 t46 := Tryz.underlying267
 a46 := Tryz.isAgg267
 z46 := Tryz.sizeOf267
 v46 := Tryz.zeroValue267
 t50 := Tryz.underlying135
 a50 := Tryz.isAgg135
 z50 := Tryz.sizeOf135
 v50 := Tryz.zeroValue135
 t53 := Tryz.underlying273
 a53 := Tryz.isAgg273
 z53 := Tryz.sizeOf273
 v53 := Tryz.zeroValue273
 t55 := Tryz.underlying192
 a55 := Tryz.isAgg192
 z55 := Tryz.sizeOf192
 v55 := Tryz.zeroValue192
 t66 := Tryz.underlying294
 a66 := Tryz.isAgg294
 z66 := Tryz.sizeOf294
 v66 := Tryz.zeroValue294
 t70 := Tryz.underlying298
 a70 := Tryz.isAgg298
 z70 := Tryz.sizeOf298
 v70 := Tryz.zeroValue298
 t76 := Tryz.underlying314
 a76 := Tryz.isAgg314
 z76 := Tryz.sizeOf314
 v76 := Tryz.zeroValue314
 t77 := Tryz.underlying154
 a77 := Tryz.isAgg154
 z77 := Tryz.sizeOf154
 v77 := Tryz.zeroValue154 }
def Tryz.srtReg_ren : Go.Shelf.Ren := ⟨fun | 6 => 103 | 15 => 168 | 14 => 167 | 28 => 224 | 29 => 225 | 20 => 216 | 21 => 217 | 22 => 218 | 23 => 219 | 24 => 220 | 25 => 221 | 26 => 222 | 27 => 223 | 46 => 258 | 47 => 259 | 48 => 260 | 49 => 261 | 50 => 262 | 57 => 283 | n => n, fun | 22 => 48 | 24 => 105 | 25 => 178 | 3 => 3 | 39 => 233 | 0 => 0 | 53 => 273 | 55 => 192 | 4 => 4 | 46 => 267 | 45 => 266 | 50 => 135 | 5 => 5 | 9 => 9 | 66 => 294 | 70 => 298 | 76 => 314 | 77 => 154 | n => n, fun | n => n⟩
theorem Tryz.srtReg : Go.Proofs.SlLaysF0.n6 Tryz.prog Tryz.srtReg_ren := {
 mixed := by kernel_rfl
 f6 := ⟨Tryz.f103.name, by decide, Tryz.func103.trans (congrArg some (by kernel_rfl))⟩
 f14 := ⟨Tryz.f167.name, by decide, Tryz.func167.trans (congrArg some (by kernel_rfl))⟩
 f15 := Tryz.func168.trans (congrArg some (by kernel_rfl))
 f20 := ⟨Tryz.f216.name, by decide, Tryz.func216.trans (congrArg some (by kernel_rfl))⟩
 f21 := ⟨Tryz.f217.name, by decide, Tryz.func217.trans (congrArg some (by kernel_rfl))⟩
 f22 := ⟨Tryz.f218.name, by decide, Tryz.func218.trans (congrArg some (by kernel_rfl))⟩
 f23 := ⟨Tryz.f219.name, by decide, Tryz.func219.trans (congrArg some (by kernel_rfl))⟩
 f24 := ⟨Tryz.f220.name, by decide, Tryz.func220.trans (congrArg some (by kernel_rfl))⟩
 f25 := ⟨Tryz.f221.name, by decide, Tryz.func221.trans (congrArg some (by kernel_rfl))⟩
 f26 := ⟨Tryz.f222.name, by decide, Tryz.func222.trans (congrArg some (by kernel_rfl))⟩
 f27 := ⟨Tryz.f223.name, by decide, Tryz.func223.trans (congrArg some (by kernel_rfl))⟩
 f28 := Tryz.func224.trans (congrArg some (by kernel_rfl))
 f29 := Tryz.func225.trans (congrArg some (by kernel_rfl))
 f46 := ⟨Tryz.f258.name, by decide, Tryz.func258.trans (congrArg some (by kernel_rfl))⟩
 f47 := Tryz.func259.trans (congrArg some (by kernel_rfl))
 f48 := Tryz.func260.trans (congrArg some (by kernel_rfl))
 f49 := ⟨Tryz.f261.name, by decide, Tryz.func261.trans (congrArg some (by kernel_rfl))⟩
 f50 := ⟨Tryz.f262.name, by decide, Tryz.func262.trans (congrArg some (by kernel_rfl))⟩
 f57 := ⟨Tryz.f283.name, by decide, Tryz.func283.trans (congrArg some (by kernel_rfl))⟩
 t0 := Tryz.underlying0
 a0 := Tryz.isAgg0
 z0 := Tryz.sizeOf0
 v0 := Tryz.zeroValue0
 t3 := Tryz.underlying3
 a3 := Tryz.isAgg3
 z3 := Tryz.sizeOf3
 v3 := Tryz.zeroValue3
 t4 := Tryz.underlying4
 a4 := Tryz.isAgg4
 z4 := Tryz.sizeOf4
 v4 := Tryz.zeroValue4
 t5 := Tryz.underlying5
 a5 := Tryz.isAgg5
 z5 := Tryz.sizeOf5
 v5 := Tryz.zeroValue5
 t9 := Tryz.underlying9
 a9 := Tryz.isAgg9
 z9 := Tryz.sizeOf9
 v9 := Tryz.zeroValue9
 t22 := Tryz.underlying48
 a22 := Tryz.isAgg48
 z22 := Tryz.sizeOf48
 v22 := Tryz.zeroValue48
 t25 := Tryz.underlying178
 a25 := Tryz.isAgg178
 z25 := Tryz.sizeOf178
 v25 := Tryz.zeroValue178
 t39 := Tryz.underlying233
 a39 := Tryz.isAgg233
 z39 := Tryz.sizeOf233
 v39 := Tryz.zeroValue233
 t45 := Tryz.underlying266
 a45 := Tryz.isAgg266
 z45 := Tryz.sizeOf266
 v45 := Tryz.zeroValue266
 t46 := Tryz.underlying267
 a46 := Tryz.isAgg267
 z46 := Tryz.sizeOf267
 v46 := Tryz.zeroValue267
 t50 := Tryz.underlying135
 a50 := Tryz.isAgg135
 z50 := Tryz.sizeOf135
 v50 := Tryz.zeroValue135
 t53 := Tryz.underlying273
 a53 := Tryz.isAgg273
 z53 := Tryz.sizeOf273
 v53 := Tryz.zeroValue273
 t55 := Tryz.underlying192
 a55 := Tryz.isAgg192
 z55 := Tryz.sizeOf192
 v55 := Tryz.zeroValue192
 t66 := Tryz.underlying294
 a66 := Tryz.isAgg294
 z66 := Tryz.sizeOf294
 v66 := Tryz.zeroValue294
 t70 := Tryz.underlying298
 a70 := Tryz.isAgg298
 z70 := Tryz.sizeOf298
 v70 := Tryz.zeroValue298
 t76 := Tryz.underlying314
 a76 := Tryz.isAgg314
 z76 := Tryz.sizeOf314
 v76 := Tryz.zeroValue314
 t77 := Tryz.underlying154
 a77 := Tryz.isAgg154
 z77 := Tryz.sizeOf154
 v77 := Tryz.zeroValue154 }
end Go.Proofs
namespace Go.Proofs.YtablhmobekmflaaGreatDoor
end Go.Proofs.YtablhmobekmflaaGreatDoor
namespace Go.Proofs.YtablhmobekmflaaGreatDoor.Stb
section
variable {α : Type}
structure SW (lt : α → α → Bool) : Prop where
 asym : ∀ x y, lt x y = true → lt y x = false
 trans : ∀ x y z, lt y x = false → lt z y = false → lt z x = false
def eqv (lt : α → α → Bool) (x y : α) : Bool := !lt x y && !lt y x
def swp (l : List α) (i j : Nat) : List α := match l[i]?, l[j]? with
 | some x, some y => (l.set i y).set j x
 | _, _ => l
theorem swp_at {l : List α} {i j : Nat} (hi : i < l.length) (hj : j < l.length) (p : Nat) : (swp l i j)[p]? = if p = j then l[i]? else if p = i then l[j]? else l[p]? := by
 unfold swp
 rw [List.getElem?_eq_getElem hi, List.getElem?_eq_getElem hj]
 simp only
 rw [List.getElem?_set, List.getElem?_set]
 by_cases h1 : p = j
 · subst h1; simp [hj]
 · rw [if_neg (Ne.symm h1), if_neg h1]
   by_cases h2 : p = i
   · subst h2; simp [hi]
   · rw [if_neg (Ne.symm h2), if_neg h2]
def rot (l : List α) (a m b : Nat) : List α := l.take a ++ ((l.take b).drop m ++ ((l.take m).drop a ++ l.drop b))
theorem rot_len {l : List α} {a m b : Nat} (h1 : a ≤ m) (h2 : m ≤ b) (h3 : b ≤ l.length) : (rot l a m b).length = l.length := by
 unfold rot; simp only [List.length_append, List.length_take, List.length_drop]; omega
theorem rot_at {l : List α} {a m b : Nat} (h1 : a ≤ m) (h2 : m ≤ b) (h3 : b ≤ l.length) (p : Nat) :
 (rot l a m b)[p]? = if p < a then l[p]? else if p < a + (b - m) then l[p + (m - a)]? else if p < b then l[p - (b - m)]? else l[p]? := by
 unfold rot
 simp only [List.getElem?_append, List.length_take, List.length_drop, List.getElem?_take, List.getElem?_drop]
 by_cases c1 : p < a
 · rw [if_pos (by omega), if_pos c1, if_pos c1]
 rw [if_neg (by omega), if_neg c1]
 by_cases c2 : p < a + (b - m)
 · rw [if_pos (by omega), if_pos (by omega), if_pos c2]; congr 1; omega
 rw [if_neg (by omega), if_neg c2]
 by_cases c3 : p < b
 · rw [if_pos (by omega), if_pos (by omega), if_pos c3]; congr 1; omega
 · rw [if_neg (by omega), if_neg c3]; congr 1; omega
def swr (l : List α) (a b : Nat) : Nat → List α
 | 0 => l
 | n + 1 => swp (swr l a b n) (a + n) (b + n)
structure Loc (lt : α → α → Bool) (a b : Nat) (l l' : List α) : Prop where
 len : l'.length = l.length
 out : ∀ p, p < a ∨ b ≤ p → l'[p]? = l[p]?
 cls : ∀ k, l'.filter (eqv lt k) = l.filter (eqv lt k)
variable {lt : α → α → Bool} {a b c d m : Nat} {l l' l2 : List α}
theorem Loc.refl (l : List α) : Loc lt a b l l := ⟨rfl, fun _ _ => rfl, fun _ => rfl⟩
theorem Loc.trans (h : Loc lt a b l l') (k : Loc lt a b l' l2) : Loc lt a b l l2 := ⟨k.len.trans h.len, fun p hp => (k.out p hp).trans (h.out p hp), fun x => (k.cls x).trans (h.cls x)⟩
theorem Loc.wide (h : Loc lt a b l l') (h1 : c ≤ a) (h2 : b ≤ d) : Loc lt c d l l' := ⟨h.len, fun p hp => h.out p (by omega), h.cls⟩
theorem SW.irr (w : SW lt) (x : α) : lt x x = false := by
 cases h : lt x x
 · rfl
 · have := w.asym x x h; rw [h] at this; exact this
theorem eqv_self (w : SW lt) (x : α) : eqv lt x x = true := by
 simp [eqv, w.irr x]
theorem eqv_trans (w : SW lt) {k x y : α} (h1 : eqv lt k x = true) (h2 : eqv lt k y = true) : lt x y = false ∧ lt y x = false := by
 simp only [eqv, Bool.and_eq_true, Bool.not_eq_true'] at h1 h2
 exact ⟨w.trans y k x h2.1 h1.2, w.trans x k y h1.1 h2.2⟩
theorem Loc.rot (w : SW lt) (h1 : a ≤ m) (h2 : m ≤ b) (h3 : b ≤ l.length) (hne : ∀ p q x y, a ≤ p → p < m → m ≤ q → q < b → l[p]? = some x → l[q]? = some y → lt y x = true) : Loc lt a b l (rot l a m b) := by
 refine ⟨rot_len h1 h2 h3, fun p hp => ?_, fun k => ?_⟩
 · rw [rot_at h1 h2 h3]
   rcases hp with hp | hp
   · rw [if_pos hp]
   · rw [if_neg (by omega), if_neg (by omega), if_neg (by omega)]
 · have e : l = l.take a ++ ((l.take m).drop a ++ ((l.take b).drop m ++ l.drop b)) := by
    apply List.ext_getElem?; intro p
    simp only [List.getElem?_append, List.length_take, List.length_drop, List.getElem?_take, List.getElem?_drop]
    repeat' split
    all_goals first | rfl | (congr 1; omega) | (exfalso; omega)
   unfold Stb.rot
   conv => rhs; rw [e]
   simp only [List.filter_append]
   congr 1
   rw [← List.append_assoc, ← List.append_assoc]
   congr 1
   have key : (((l.take m).drop a).filter (eqv lt k)) = [] ∨ (((l.take b).drop m).filter (eqv lt k)) = [] := by
    by_cases hu : (((l.take m).drop a).filter (eqv lt k)) = []
    · exact .inl hu
    right
    obtain ⟨x, hx⟩ := List.exists_mem_of_ne_nil _ hu
    rw [List.mem_filter] at hx
    rw [List.filter_eq_nil_iff]
    intro y hy hk
    obtain ⟨p, hp⟩ := List.getElem?_of_mem hx.1
    obtain ⟨q, hq⟩ := List.getElem?_of_mem hy
    rw [List.getElem?_drop, List.getElem?_take] at hp hq
    split at hp
    · split at hq
      · have := hne _ _ x y (by omega) (by omega) (by omega) (by omega) hp hq
        rw [(eqv_trans w hx.2 hk).2] at this
        cases this
      · cases hq
    · cases hp
   rcases key with h | h <;> rw [h] <;> simp
theorem Loc.mem (w : SW lt) (h : Loc lt a b l l') {p : Nat} {x : α} (hp : a ≤ p) (hp2 : p < b) (hx : l'[p]? = some x) : ∃ q, a ≤ q ∧ q < b ∧ l[q]? = some x := by
 have hl := (List.getElem?_eq_some_iff.1 hx).1
 have hab : a ≤ b := by omega
 have e : ∀ s : List α, s = s.take a ++ ((s.take b).drop a ++ s.drop b) := fun s => by
  have h1 : (s.take b).take a = s.take a := by rw [List.take_take, Nat.min_eq_left hab]
  rw [← List.append_assoc, ← h1, List.take_append_drop, List.take_append_drop]
 have e1 : l'.take a = l.take a := by
  apply List.ext_getElem?; intro p
  simp only [List.getElem?_take]
  split
  · exact h.out p (by omega)
  · rfl
 have e2 : l'.drop b = l.drop b := by
  apply List.ext_getElem?; intro p
  simp only [List.getElem?_drop]
  exact h.out _ (by omega)
 have hc := h.cls x
 rw [e l', e l, e1, e2] at hc
 simp only [List.filter_append] at hc
 have hc := List.append_cancel_right (List.append_cancel_left hc)
 have hm : x ∈ ((l'.take b).drop a).filter (eqv lt x) := by
  rw [List.mem_filter]
  refine ⟨List.mem_of_getElem? (i := p - a) ?_, eqv_self w x⟩
  rw [List.getElem?_drop, List.getElem?_take, if_pos (by omega)]
  rw [show a + (p - a) = p by omega]; exact hx
 rw [hc, List.mem_filter] at hm
 obtain ⟨q, hq⟩ := List.getElem?_of_mem hm.1
 rw [List.getElem?_drop, List.getElem?_take] at hq
 split at hq
 · exact ⟨a + q, by omega, by omega, hq⟩
 · cases hq
def Srt (lt : α → α → Bool) (l : List α) (a b : Nat) : Prop := ∀ p q x y, a ≤ p → p < q → q < b → l[p]? = some x → l[q]? = some y → lt y x = false
theorem Srt.one (h : b ≤ a + 1) : Srt lt l a b := fun p q x y h1 h2 h3 => by omega
theorem Srt.of_out (h : Srt lt l a b) (k : Loc lt c d l l') (hd : b ≤ c ∨ d ≤ a) : Srt lt l' a b := fun p q x y h1 h2 h3 h4 h5 =>
 h p q x y h1 h2 h3 (by rw [← k.out p (by omega)]; exact h4) (by rw [← k.out q (by omega)]; exact h5)
def Ins (lt : α → α → Bool) (l : List α) (a j i : Nat) : Prop := ∀ p q x y, a ≤ p → p < q → q ≤ i → q ≠ j → l[p]? = some x → l[q]? = some y → lt y x = false
theorem Ins.start {i : Nat} (h : Srt lt l a i) : Ins lt l a i i := fun p q x y h1 h2 h3 h4 => h p q x y h1 h2 (by omega)
theorem Ins.step (w : SW lt) {i j : Nat} {x y : α} (h : Ins lt l a j i) (h1 : a < j) (h2 : j ≤ i) (h3 : i < l.length) (hx : l[j - 1]? = some x) (hy : l[j]? = some y) (hlt : lt y x = true) : Ins lt (swp l j (j - 1)) a (j - 1) i := by
 intro p q u v hp hpq hq hne hu hv
 rw [swp_at (by omega) (by omega)] at hu hv
 by_cases q1 : q = j
 · subst q1
   rw [if_neg (by omega), if_pos rfl] at hv
   by_cases p1 : p = q - 1
   · subst p1
     rw [if_pos rfl] at hu
     rw [hu] at hy; cases hy
     rw [hv] at hx; cases hx
     exact w.asym _ _ hlt
   · rw [if_neg p1, if_neg (by omega)] at hu
     exact h p (q - 1) u v hp (by omega) (by omega) (by omega) hu hv
 · rw [if_neg hne, if_neg q1] at hv
   by_cases p1 : p = j - 1
   · subst p1
     rw [if_pos rfl] at hu
     exact h j q u v (by omega) (by omega) hq q1 hu hv
   · rw [if_neg p1] at hu
     by_cases p2 : p = j
     · subst p2
       rw [if_pos rfl] at hu
       exact h (p - 1) q u v (by omega) (by omega) hq q1 hu hv
     · rw [if_neg p2] at hu
       exact h p q u v hp hpq hq q1 hu hv
structure Cut (lt : α → α → Bool) (l : List α) (a m b mid s : Nat) : Prop where
 ge : a ≤ s
 lem : s ≤ m
 mide : mid + m - s ≤ b
 le : m ≤ mid + m - s
 mid_ge : s ≤ mid
 lo : ∀ x y, a < s → l[s - 1]? = some x → l[mid + m - s]? = some y → mid + m - s < b → lt y x = false
 hi : ∀ x y, s < m → m < mid + m - s → l[s]? = some x → l[mid + m - s - 1]? = some y → lt y x = true
theorem Cut.rot (w : SW lt) {mid s : Nat} (h : Cut lt l a m b mid s) (h3 : b ≤ l.length) (s1 : Srt lt l a m) (s2 : Srt lt l m b) : Loc lt a b l (rot l s m (mid + m - s)) ∧ Srt lt (rot l s m (mid + m - s)) a s ∧ Srt lt (rot l s m (mid + m - s)) s mid ∧
 Srt lt (rot l s m (mid + m - s)) mid (mid + m - s) ∧ Srt lt (rot l s m (mid + m - s)) (mid + m - s) b ∧
 ∀ p q x y, a ≤ p → p < mid → mid ≤ q → q < b → (rot l s m (mid + m - s))[p]? = some x → (rot l s m (mid + m - s))[q]? = some y → lt y x = false := by
 obtain ⟨g1, g2, g3, g4, g5, lo, hi⟩ := h
 have hle : ∀ p q x y, s ≤ p → p < m → m ≤ q → q < mid + m - s → l[p]? = some x → l[q]? = some y → lt y x = true := fun p q x y h1 h2 h3' h4 hx hy => by
  obtain ⟨u, hu⟩ : ∃ u, l[s]? = some u := ⟨_, List.getElem?_eq_getElem (by omega)⟩
  obtain ⟨v, hv⟩ : ∃ v, l[mid + m - s - 1]? = some v := ⟨_, List.getElem?_eq_getElem (by omega)⟩
  have huv := hi u v (by omega) (by omega) hu hv
  have hux : lt x u = false := by
   by_cases hp : p = s
   · subst hp; rw [hu] at hx; cases hx; exact w.irr _
   · exact s1 s p u x g1 (by omega) h2 hu hx
  have hyv : lt v y = false := by
   by_cases hq : q = mid + m - s - 1
   · subst hq; rw [hv] at hy; cases hy; exact w.irr _
   · exact s2 q _ y v h3' (by omega) (by omega) hy hv
  cases hyx : lt y x
  · have h1 := w.trans x y v hyx hyv
    have h2 := w.trans u x v hux h1
    rw [huv] at h2; exact h2.symm
  · rfl
 have hat := rot_at (l := l) g2 g4 (by omega)
 refine ⟨(Loc.rot w g2 g4 (by omega) hle).wide g1 g3, ?_, ?_, ?_, ?_, ?_⟩
 · intro p q x y h1 h2 h3 hx hy
   rw [hat, if_pos (by omega)] at hx hy
   exact s1 p q x y h1 h2 (by omega) hx hy
 · intro p q x y h1 h2 h3 hx hy
   rw [hat, if_neg (by omega), if_pos (by omega)] at hx hy
   exact s2 _ _ x y (by omega) (by omega) (by omega) hx hy
 · intro p q x y h1 h2 h3 hx hy
   rw [hat, if_neg (by omega), if_neg (by omega), if_pos (by omega)] at hx hy
   exact s1 _ _ x y (by omega) (by omega) (by omega) hx hy
 · intro p q x y h1 h2 h3 hx hy
   rw [hat, if_neg (by omega), if_neg (by omega), if_neg (by omega)] at hx hy
   exact s2 p q x y (by omega) h2 h3 hx hy
 · intro p q x y h1 h2 h3 h4 hx hy
   rw [hat] at hx hy
   rw [if_neg (by omega), if_neg (by omega)] at hy
   by_cases c1 : p < s
   · rw [if_pos c1] at hx
     by_cases c2 : q < mid + m - s
     · rw [if_pos c2] at hy
       exact s1 _ _ x y h1 (by omega) (by omega) hx hy
     · rw [if_neg c2] at hy
       obtain ⟨u, hu⟩ : ∃ u, l[s - 1]? = some u := ⟨_, List.getElem?_eq_getElem (by omega)⟩
       obtain ⟨v, hv⟩ : ∃ v, l[mid + m - s]? = some v := ⟨_, List.getElem?_eq_getElem (by omega)⟩
       have huv := lo u v (by omega) hu hv (by omega)
       have hxu : lt u x = false := by
        by_cases hp : p = s - 1
        · subst hp; rw [hu] at hx; cases hx; exact w.irr _
        · exact s1 p _ x u h1 (by omega) (by omega) hx hu
       have hvy : lt y v = false := by
        by_cases hq : q = mid + m - s
        · subst hq; rw [hv] at hy; cases hy; exact w.irr _
        · exact s2 _ q v y (by omega) (by omega) h4 hv hy
       exact w.trans x v y (w.trans x u v hxu huv) hvy
   · rw [if_neg c1, if_pos (by omega)] at hx
     by_cases c2 : q < mid + m - s
     · rw [if_pos c2] at hy
       exact w.asym _ _ (hle _ _ y x (by omega) (by omega) (by omega) (by omega) hy hx)
     · rw [if_neg c2] at hy
       exact s2 _ _ x y (by omega) (by omega) h4 hx hy
theorem Srt.join (w : SW lt) {mid : Nat} (k1 : Loc lt a mid l l') (k2 : Loc lt mid b l' l2) (s1 : Srt lt l' a mid) (s2 : Srt lt l2 mid b) (h1 : a ≤ mid) (h2 : mid ≤ b)
 (hc : ∀ p q x y, a ≤ p → p < mid → mid ≤ q → q < b → l[p]? = some x → l[q]? = some y → lt y x = false) : Loc lt a b l l2 ∧ Srt lt l2 a b := by
 refine ⟨(k1.wide (Nat.le_refl _) h2).trans (k2.wide h1 (Nat.le_refl _)), fun p q x y a1 a2 a3 hx hy => ?_⟩
 by_cases hq : q < mid
 · exact (s1.of_out k2 (.inl (Nat.le_refl _))) p q x y a1 a2 hq hx hy
 by_cases hp : mid ≤ p
 · exact s2 p q x y hp a2 a3 hx hy
 rw [k2.out p (by omega)] at hx
 obtain ⟨p', hp1, hp2, hx'⟩ := k1.mem w a1 (by omega) hx
 obtain ⟨q', hq1, hq2, hy'⟩ := k2.mem w (by omega) a3 hy
 rw [k1.out q' (by omega)] at hy'
 exact hc p' q' x y hp1 hp2 hq1 hq2 hx' hy'
inductive Bl (lt : α → α → Bool) (l : List α) (B n : Nat) : Nat → Prop
 | nil {a : Nat} : n ≤ a → Bl lt l B n a
 | cons {a : Nat} : Srt lt l a (min (a + B) n) → Bl lt l B n (a + B) → Bl lt l B n a
inductive Up (lt : α → α → Bool) (l : List α) (B : Nat) : Nat → Prop
 | nil : Up lt l B 0
 | snoc {a : Nat} : Up lt l B a → Srt lt l a (a + B) → Up lt l B (a + B)
theorem Bl.out {B n e : Nat} (h : Bl lt l B n e) (k : Loc lt c d l l') (hd : d ≤ e) : Bl lt l' B n e := by
 induction h with
 | nil h => exact .nil h
 | cons h1 _ ih => exact .cons (h1.of_out k (.inr hd)) (ih (by omega))
theorem Up.out {B e : Nat} (h : Up lt l B e) (k : Loc lt c d l l') (hd : e ≤ c) : Up lt l' B e := by
 induction h with
 | nil => exact .nil
 | snoc _ h2 ih => exact .snoc (ih (by omega)) (h2.of_out k (.inl hd))
theorem Up.join {B n e : Nat} (h : Up lt l B e) (k : Bl lt l B n e) (he : e ≤ n) : Bl lt l B n 0 := by
 induction h with
 | nil => exact k
 | snoc h1 h2 ih => exact ih (.cons (by rw [Nat.min_eq_left he]; exact h2) k) (by omega)
theorem Bl.head {B n e : Nat} (h : Bl lt l B n e) (he : e < n) : Srt lt l e (min (e + B) n) ∧ Bl lt l B n (e + B) := by
 cases h with
 | nil h => omega
 | cons h1 h2 => exact ⟨h1, h2⟩
theorem Bl.all {B n : Nat} (h : Bl lt l B n 0) (hB : n ≤ B) : Srt lt l 0 n := by
 by_cases h0 : 0 < n
 · have := (h.head h0).1
   rwa [Nat.zero_add, Nat.min_eq_right hB] at this
 · exact Srt.one (by omega)
def insS (lt : α → α → Bool) (x : α) : List α → List α
 | [] => [x]
 | y :: l => if lt x y = true then x :: y :: l else y :: insS lt x l
def sortS (lt : α → α → Bool) (l : List α) : List α := l.foldl (fun acc x => insS lt x acc) []
end
end Go.Proofs.YtablhmobekmflaaGreatDoor.Stb
namespace Go.Proofs.YtablhmobekmflaaGreatDoor
section
open Go.RowKit
structure EW (W : World) where
 w : World
 ext : Ext W w
instance ewInh (W : World) : Nonempty (EW W) := ⟨⟨W, Ext.refl W⟩⟩
theorem EW.calls {P : Program} {W : World} {f : FuncId} {args : Array Value} {v : Value} (x : EW W) (h : Calls P f args x.w fun e w' => e = .returned v ∧ Ext x.w w') :
 Calls P f args x.w fun e w'' => e = .returned v ∧ ∃ y : EW W, w'' = y.w :=
 h.mono fun _ w' ⟨he, hx⟩ => ⟨he, ⟨w', x.ext.trans hx⟩, rfl⟩
theorem EW.cell {W : World} {p : Addr} {u : Value} (h : W.cell? p = some u) (x : EW W) : x.w.cell? p = some u := x.ext.cell h
theorem EW.cells {W : World} {g : Nat} (hg : g < W.heap.size) (x : EW W) (o : Nat) : x.w.cell? ⟨g, o, none⟩ = W.cell? ⟨g, o, none⟩ := x.ext.cells _ hg
end
section
open Go.RowKit
structure Extd (w w' : World) : Prop where
 ext : Ext w w'
 dr : w.drawn ≤ w'.drawn
section
variable {w w1 w2 : World}
theorem Extd.refl (w : World) : Extd w w := ⟨Ext.refl w, Nat.le_refl _⟩
theorem Extd.trans (h : Extd w w1) (k : Extd w1 w2) : Extd w w2 := ⟨h.ext.trans k.ext, Nat.le_trans h.dr k.dr⟩
theorem Extd.drew (h : Extd w w1) : Extd w w1.drew := ⟨h.ext.drew, Nat.le_succ_of_le h.dr⟩
theorem Extd.alloc (h : Extd w w1) (o : Obj) : Extd w (w1.alloc o) := ⟨h.ext.alloc o, h.dr⟩
theorem Extd.setCell (h : Extd w w1) {p : Addr} (hp : w.heap.size ≤ p.block) (u : Value) : Extd w (w1.setCell p u) := ⟨h.ext.setCell hp u, h.dr⟩
theorem Extd.grow (h : Extd w w1) : ∃ (q : Nat) (os : Array Obj), w1 = Sort.grow (w.drewN q) os := by
 obtain ⟨⟨h1, h2, h3, h4, h5⟩, h6⟩ := h
 refine ⟨w1.drawn - w.drawn, w1.heap.extract w.heap.size w1.heap.size, ?_⟩
 have hh : w1.heap = w.heap ++ w1.heap.extract w.heap.size w1.heap.size := by
  apply Array.ext_getElem?
  intro i
  by_cases hi : i < w.heap.size
  · rw [Array.getElem?_append_left hi]
    exact h5 i hi
  · rw [Array.getElem?_append_right (by omega), Array.getElem?_extract]
    by_cases hi2 : i < w1.heap.size
    · rw [if_pos (by omega), show w.heap.size + (i - w.heap.size) = i by omega]
    · rw [if_neg (by omega), Array.getElem?_eq_none (by omega)]
 unfold Sort.grow World.drewN
 dsimp only
 rw [← hh, ← h1, ← h2, ← h3, show w.drawn + (w1.drawn - w.drawn) = w1.drawn by omega]
theorem Extd.of_grow (w : World) (q : Nat) (os : Array Obj) : Extd w (Sort.grow (w.drewN q) os) := by
 refine ⟨⟨rfl, rfl, rfl, ?_, fun k hk => ?_⟩, Nat.le_add_right _ _⟩
 · show w.heap.size ≤ (w.heap ++ os).size
   rw [Array.size_append]; omega
 · show (w.heap ++ os)[k]? = _
   rw [Array.getElem?_append_left hk]
end
structure EWd (W : World) where
 w : World
 exd : Extd W w
theorem EWd.ext {W : World} (x : EWd W) : Ext W x.w := x.exd.ext
instance ewdInh (W : World) : Nonempty (EWd W) := ⟨⟨W, Extd.refl W⟩⟩
theorem EWd.calls {P : Program} {W : World} {f : FuncId} {args : Array Value} {v : Value} (x : EWd W) (h : Calls P f args x.w fun e w' => e = .returned v ∧ Extd x.w w') :
 Calls P f args x.w fun e w'' => e = .returned v ∧ ∃ y : EWd W, w'' = y.w :=
 h.mono fun _ w' ⟨he, hx⟩ => ⟨he, ⟨w', x.exd.trans hx⟩, rfl⟩
end
section
open Go.Shelf Go.RowKit Go.Lib Go.Sort
section
variable {α : Type} [Inhabited α]
theorem arr_get {d : Array α} {i : Nat} (h : i < d.size) : d.toList[i]? = some d[i]! := by
 rw [Array.getElem?_toList, getElem!_pos d i h, Array.getElem?_eq_getElem h]
end
end
section
open Go.Shelf Go.RowKit Go.Lib Go.Sort
section
variable {α : Type} [Inhabited α] {enc : α → List Value} {k : Nat}
theorem flatK_list (hk : ∀ x, (enc x).length = k) (d : Array α) : (flatK enc k d).toList = d.toList.flatMap enc := by
 have hl : (d.toList.flatMap enc).length = d.size * k := by rw [flatMap_len enc k hk, Array.length_toList]
 apply List.ext_getElem?
 intro t
 by_cases ht : t < d.size * k
 · have hk0 : 0 < k := by
    cases k with
    | zero => omega
    | succ k => omega
   have hq : t / k < d.size := Nat.div_lt_of_lt_mul (by rwa [Nat.mul_comm])
   have hr : t % k < k := Nat.mod_lt _ hk0
   have h1 := flatMap_at enc k hk d.toList (t / k) d[t / k]! (t % k) (arr_get hq) hr
   rw [Nat.div_add_mod' t k] at h1
   rw [h1, arr_get (by rw [size_flatK]; exact ht), get_flatK enc k d t ht, List.getElem?_eq_getElem (by rw [hk]; exact hr), getElem!_pos _ _ (by rw [hk]; exact hr)]
 · rw [List.getElem?_eq_none (by rw [Array.length_toList, size_flatK]; omega), List.getElem?_eq_none (by omega)]
variable {w W : World} {L g n c : Nat} {T : TypeId} {l : List α}
theorem own_holds (hk : ∀ x, (enc x).length = k) (h : w.ownsRow L T k (.slice (some ⟨g, 0, none⟩) n c) n (l.flatMap enc)) (hl : l.length = n) : HoldsK enc k w g 0 l.toArray := by
 intro j hj
 rw [size_flatK] at hj
 have hj' : j < n * k := by simpa [hl] using hj
 have h1 := h.cellAt j hj'
 have h2 : (flatK enc k l.toArray).toList[j]? = some (flatK enc k l.toArray)[j]! := arr_get (by rw [size_flatK]; exact hj)
 rw [flatK_list hk] at h2
 refine ⟨by rw [Nat.zero_add, h1]; exact h2, ?_⟩
 rcases h.2 with ⟨hv, hn⟩ | ⟨g', cap, cur, hv, hg, hb, -⟩
 · cases hv
 · cases hv
   simp [World.frozen?, hb]
theorem swk_heap {m : Nat} {os : Array Obj} {cur : Array Value} {e : TypeId} {fr : Nat × Nat} (d : Array α) (hb : w.heap[g]? = some (.cells cur e fr)) :
 (sortWorldK enc k w g 0 m d os).heap[g]? = some (.cells (putCells id 0 (flatK enc k d) cur) e fr) := by
 have hg : g < w.heap.size := (Array.getElem?_eq_some_iff.1 hb).1
 unfold sortWorldK
 rw [heap_grow_old _ _ (by rw [size_putRowK]; exact hg)]
 simp [putRowK, putRow, mapBlock, Sort.ahead, Array.getElem?_modify, hb, onCells]
theorem swk_grown (h : SWK enc k w g 0 l.toArray W) : w.grownBy W (some g) := by
 obtain ⟨m, os, rfl⟩ := h
 refine ⟨rfl, rfl, rfl, by unfold sortWorldK; rw [size_grow, size_putRowK]; exact Nat.le_add_right _ _, fun q hq hne => ?_⟩
 unfold sortWorldK
 rw [heap_grow_old _ _ (by rw [size_putRowK]; exact hq)]
 have : g ≠ q := fun e => hne (by rw [e])
 simp [putRowK, putRow, mapBlock, Sort.ahead, Array.getElem?_modify, this]
theorem take_putF (cur : Array Value) (F : Array Value) (h : F.size ≤ cur.size) : (putCells id 0 F cur).toList.take F.size = F.toList := by
 apply List.ext_getElem?
 intro j
 by_cases hj : j < F.size
 · rw [List.getElem?_take_of_lt hj, Array.getElem?_toList]
   simp [putCells, hj, show j < cur.size by omega]
 · rw [List.getElem?_take_eq_none (by omega), List.getElem?_eq_none (by simp; omega)]
theorem swk_own (hk : ∀ x, (enc x).length = k) {xs : List Value} (h : w.ownsRow L T k (.slice (some ⟨g, 0, none⟩) n c) n xs) (hS : SWK enc k w g 0 l.toArray W) (hl : l.length = n) : W.ownsRow L T k (.slice (some ⟨g, 0, none⟩) n c) n (l.flatMap enc) := by
 refine ⟨by rw [flatMap_len enc k hk, hl], ?_⟩
 rcases h.2 with ⟨hv, hn⟩ | ⟨g', cap, cur, hv, hg, hb, hnc, hcm, hcs, ht⟩
 · cases hv
 · cases hv
   obtain ⟨m, os, rfl⟩ := hS
   refine .inr ⟨g, c, _, rfl, hg, swk_heap _ hb, hnc, hcm, by simp [putCells, hcs], ?_⟩
   have h1 := take_putF cur (flatK enc k l.toArray) (by rw [size_flatK]; simp [hl, hcs]; exact Nat.mul_le_mul_right _ hnc)
   rw [flatK_list hk, size_flatK] at h1
   simpa [hl] using h1
end
end
section
structure Gl where
 row : Int
 col : Int
 ch : Int
 color : Int
 italic : Bool
 under : Bool
 deriving DecidableEq
def Gl.cell (g : Gl) : Int := g.row * 32 + g.col
def Gl.zero : Gl := ⟨0, 0, 0, 0, false, false⟩
def Gl.ok (g : Gl) : Prop := 0 ≤ g.row ∧ g.row < 15 ∧ 0 ≤ g.col ∧ g.col < 32 ∧ g.ch ≠ 0
def putAt (l : List Gl) (c : Int) : Nat := (l.takeWhile fun x => decide (x.cell < c)).length
def putG (l : List Gl) (g : Gl) : List Gl :=
 l.take (putAt l g.cell) ++ g :: l.drop (putAt l g.cell + if (l[putAt l g.cell]?.map fun x => decide (x.row = g.row ∧ x.col = g.col)) = some true then 1 else 0)
def gridOf (gs : List Gl) : List Gl := gs.foldl (fun G g => G.set g.cell.toNat g) (List.replicate 480 Gl.zero)
def scrOf (G : List Gl) : List Gl := G.filter fun g => decide (g.ch ≠ 0)
def screenG (gs : List Gl) : List Gl := scrOf (gridOf gs)
def GridOk (G : List Gl) : Prop := G.length = 480 ∧ ∀ (i : Nat) (g : Gl), G[i]? = some g → g = Gl.zero ∨ (g.ok ∧ g.cell = i)
def Asc (l : List Gl) : Prop := l.Pairwise fun x y => x.cell < y.cell
def insAt (l : List Int) (t : Int) : Nat := (l.takeWhile fun x => decide (x < t)).length
def insT (l : List Int) (t : Int) : List Int := if l[insAt l t]? = some t then l else l.take (insAt l t) ++ t :: l.drop (insAt l t)
theorem takeWhile_prefix {α : Type} {p : α → Bool} : ∀ (l : List α), l.take (l.takeWhile p).length = l.takeWhile p
 | [] => rfl
 | a :: l => by
  rw [List.takeWhile_cons]
  by_cases h : p a = true
  · rw [if_pos h, List.length_cons, List.take_succ_cons, takeWhile_prefix l]
  · rw [if_neg h]; rfl
theorem mem_takeWhile {α : Type} {p : α → Bool} : ∀ {l : List α} {x : α}, x ∈ l.takeWhile p → p x = true
 | [], x, h => by simp at h
 | a :: l, x, h => by
  rw [List.takeWhile_cons] at h
  by_cases ha : p a = true
  · rw [if_pos ha] at h
    rcases List.mem_cons.1 h with rfl | h
    · exact ha
    · exact mem_takeWhile h
  · rw [if_neg ha] at h; simp at h
theorem drop_takeWhile_head {α : Type} {p : α → Bool} : ∀ {l : List α} {x : α}, (l.drop (l.takeWhile p).length).head? = some x → p x = false
 | [], x, h => by simp at h
 | a :: l, x, h => by
  rw [List.takeWhile_cons] at h
  by_cases ha : p a = true
  · rw [if_pos ha, List.length_cons, List.drop_succ_cons] at h
    exact drop_takeWhile_head h
  · rw [if_neg ha] at h
    simp at h; subst h; simpa using ha
def tmsOf (l : List Int) : List Int := l.foldl insT []
structure Sh where
 inn : Int
 out : Int
 scr : List Gl
 deriving DecidableEq
def goesB (l : List Sh) (a : Int) (s : List Gl) : Bool := match l.getLast? with
 | none => false
 | some x => decide (x.out = a) && decide (x.scr = s)
def shExt (l : List Sh) (b : Int) : List Sh := match l.getLast? with
 | none => l
 | some x => l.dropLast ++ [{ x with out := b }]
def shStep (l : List Sh) (a b : Int) (s : List Gl) : List Sh := if s = [] then l else if goesB l a s = true then shExt l b else l ++ [⟨a, b, s⟩]
def shStepR (l : List Sh) (a b : Int) (s : List Gl) : List Sh := if goesB l a s = true then shExt l b else if s = [] then l else l ++ [⟨a, b, s⟩]
def shGo (S : Int → List Gl) (l : List Sh) : List Int → List Sh
 | [] => l
 | [_] => l
 | a :: b :: t => shGo S (shStep l a b (S a)) (b :: t)
def shL (S : Int → List Gl) (t : List Int) : List Sh := shGo S [] t
def ShNe (l : List Sh) : Prop := ∀ x ∈ l, x.scr ≠ []
def atS (l : List Sh) (f : Int) : List Gl := ((l.find? fun x => decide (x.inn ≤ f) && decide (f < x.out)).map (·.scr)).getD []
structure ShInv (S : Int → List Gl) (l : List Sh) (a : Int) : Prop where
 ne : ShNe l
 ord : ∀ x ∈ l, x.inn < x.out ∧ x.out ≤ a
 nxt : l.Pairwise fun x y => x.out ≤ y.inn
 dif : ∀ i x y, l[i]? = some x → l[i + 1]? = some y → ¬ (x.out = y.inn ∧ x.scr = y.scr)
 at_ : ∀ f, f < a → atS l f = S f
 src : ∀ x ∈ l, ∃ t, x.scr = S t
def Steady (S : Int → List Gl) (t : List Int) : Prop := ∀ i a b, t[i]? = some a → t[i + 1]? = some b → ∀ f, a ≤ f → f < b → S f = S a
structure Ov where
 a : Int
 b : Int
 inn : Int
 out : Int
 deriving DecidableEq
def meetB (a b : List Gl) : Bool := a.any fun x => b.any fun y => decide (x.row = y.row ∧ x.col = y.col)
def setOf (gs : List Gl) : List Bool := gs.foldl (fun G g => G.set g.cell.toNat true) (List.replicate 480 false)
def meetS (a b : List Bool) : Bool := (a.zip b).any fun p => p.1 && p.2
def ovOne (E : Nat → Int × Int × List Gl) (i j : Nat) : Option Ov :=
 if max (E i).1 (E j).1 < min (E i).2.1 (E j).2.1 ∧ meetB (E i).2.2 (E j).2.2 = true then some ⟨i, j, max (E i).1 (E j).1, min (E i).2.1 (E j).2.1⟩ else none
def ovRow (E : Nat → Int × Int × List Gl) (i k m : Nat) : List Ov := (List.range' k (m - k)).filterMap fun j => ovOne E i j
def ovR (E : Nat → Int × Int × List Gl) (n k : Nat) : List Ov := (List.range k).flatMap fun i => ovRow E i (i + 1) n
def ovCol (E : Nat → Int × Int × List Gl) (j k : Nat) : List Ov := (List.range k).filterMap fun i => ovOne E i j
def ovP (E : Nat → Int × Int × List Gl) (k : Nat) : List Ov := (List.range k).flatMap fun j => ovCol E j j
def ovLt (x y : Ov) : Prop := x.a < y.a ∨ (x.a = y.a ∧ x.b < y.b)
end
end Go.Proofs.YtablhmobekmflaaGreatDoor