/- Texts laid together. -/
import Derived.Test.YtbmblnhfmpolbaaGreatDoorTm06
import Derived.Test.YtbmblnhfmpolbaaGreatDoorTm01
set_option linter.unusedVariables false
set_option linter.unusedSimpArgs false
namespace Go.Proofs.YtbmblnhfmpolbaaGreatDoor
section
open Go.RowKit
def dstO (ops : Array Oper) (j : Nat) : Option Nat := (ops[j]?).bind Oper.dst
def dstOK2 (ops : Array Oper) (n : Nat) : Bool := (ops.toList.filterMap Oper.dst).all (fun s => decide (s < n)) && decide ((ops.toList.filterMap Oper.dst).Nodup)
def edgeB (o : Oper) (j : Nat) : Bool := o.after.toList.any (fun d => Region.binds .any d && d.on == j)
def reachB (ops : Array Oper) : Nat → Oper → Nat → Bool
 | 0, o, c => edgeB o c
 | f + 1, o, c => edgeB o c || o.after.toList.any (fun d => Region.binds .any d && ((ops[d.on]?).map (fun o' => reachB ops f o' c)).getD false)
def chainB (ops : Array Oper) : List Nat → Bool
 | [] => true
 | [c] => decide (c < ops.size)
 | c :: c' :: l => decide (c < ops.size) && ((ops[c']?).map (fun o => reachB ops 6 o c)).getD false && chainB ops (c' :: l)
def valOf (chain : List Nat) (pv us : List Value) (j : Nat) : Value := match chain.idxOf? j with | some i => us.getD i undef | none => pv.getD j undef
theorem chainB_lt {ops : Array Oper} : ∀ {l : List Nat} {p c : Nat}, chainB ops l = true → l[p]? = some c → c < ops.size
 | [], _, _, _, h => by simp at h
 | [x], 0, c, h, hc => by simp [chainB] at h hc; omega
 | [x], p + 1, c, _, hc => by simp at hc
 | x :: y :: l, 0, c, h, hc => by simp [chainB] at h hc; omega
 | x :: y :: l, p + 1, c, h, hc => by
  simp only [chainB, Bool.and_eq_true] at h
  exact chainB_lt (p := p) h.2 (by simpa using hc)
theorem chainB_edge {ops : Array Oper} : ∀ {l : List Nat} {p c c' : Nat}, chainB ops l = true → l[p]? = some c → l[p + 1]? = some c' → ∃ o, ops[c']? = some o ∧ reachB ops 6 o c = true
 | [], _, _, _, _, h, _ => by simp at h
 | [x], p, c, c', _, _, h => by simp at h
 | x :: y :: l, 0, c, c', h, hc, hc' => by
  simp only [chainB, Bool.and_eq_true] at h
  simp at hc hc'
  subst hc hc'
  cases ho : ops[y]? with
  | none => rw [ho] at h; simp at h
  | some o => rw [ho] at h; exact ⟨o, rfl, by simpa using h.1.2⟩
 | x :: y :: l, p + 1, c, c', h, hc, hc' => by
  simp only [chainB, Bool.and_eq_true] at h
  exact chainB_edge (p := p) h.2 (by simpa using hc) (by simpa using hc')
theorem idxOf_some {l : List Nat} (hn : l.Nodup) {p c : Nat} (h : l[p]? = some c) : l.idxOf? c = some p := by
 have hp := (List.getElem?_eq_some_iff.1 h).1
 have hc : l[p] = c := (List.getElem?_eq_some_iff.1 h).2
 subst hc
 rw [List.idxOf?_eq_some_iff]
 exact ⟨hp, rfl, fun j hj he => by
  have := (List.getElem_inj hn).1 he
  omega⟩
theorem idxOf_none {l : List Nat} {c : Nat} (h : c ∉ l) : l.idxOf? c = none := List.idxOf?_eq_none_iff.2 h
theorem dst_inj {ops : Array Oper} {n i j s : Nat} (h : dstOK2 ops n = true) (hi : dstO ops i = some s) (hj : dstO ops j = some s) : i = j := by
 simp only [dstOK2, Bool.and_eq_true, decide_eq_true_eq] at h
 obtain ⟨_, hnd⟩ := h
 have key : ∀ (l : List Oper) (i j : Nat), (l.filterMap Oper.dst).Nodup → (l[i]?).bind Oper.dst = some s → (l[j]?).bind Oper.dst = some s → i = j := by
  intro l
  induction l with
  | nil => intro i j _ h; simp at h
  | cons o l ih =>
   intro i j hn h1 h2
   have mem : ∀ k, (l[k]?).bind Oper.dst = some s → s ∈ l.filterMap Oper.dst := fun k hk => by
    rw [Option.bind_eq_some_iff] at hk
    obtain ⟨o', h3, h4⟩ := hk
    exact List.mem_filterMap.2 ⟨o', List.mem_of_getElem? h3, h4⟩
   cases hd : o.dst with
   | none =>
    have hn' : (l.filterMap Oper.dst).Nodup := by simpa [List.filterMap_cons, hd] using hn
    match i, j with
    | 0, _ => simp [hd] at h1
    | _ + 1, 0 => simp [hd] at h2
    | i + 1, j + 1 => have := ih i j hn' (by simpa using h1) (by simpa using h2); omega
   | some s' =>
    have hn' : s' ∉ l.filterMap Oper.dst ∧ (l.filterMap Oper.dst).Nodup := by
     rw [List.filterMap_cons, hd] at hn
     exact List.nodup_cons.1 hn
    match i, j with
    | 0, 0 => rfl
    | 0, j + 1 =>
     simp [hd] at h1
     subst h1
     exact absurd (mem j (by simpa using h2)) hn'.1
    | i + 1, 0 =>
     simp [hd] at h2
     subst h2
     exact absurd (mem i (by simpa using h1)) hn'.1
    | i + 1, j + 1 => have := ih i j hn'.2 (by simpa using h1) (by simpa using h2); omega
 exact key ops.toList i j hnd (by simpa [dstO] using hi) (by simpa [dstO] using hj)
theorem dst_lt {ops : Array Oper} {n i s : Nat} (h : dstOK2 ops n = true) (hi : dstO ops i = some s) : s < n := by
 simp only [dstOK2, Bool.and_eq_true, List.all_eq_true] at h
 unfold dstO at hi
 rw [Option.bind_eq_some_iff] at hi
 obtain ⟨o, ho, hd⟩ := hi
 have := h.1 s (List.mem_filterMap.2 ⟨o, by simpa using Array.mem_of_getElem? ho, hd⟩)
 simpa using this
theorem edge_of {o : Oper} {j : Nat} (h : edgeB o j = true) : ∃ d ∈ o.after, Region.binds .any d = true ∧ d.on = j := edge h
theorem reach_done {ops : Array Oper} {l : Array Bool} (hcl : ∀ j o, l.getD j false = true → ops[j]? = some o → ∀ d ∈ o.after, Region.binds .any d = true → l.getD d.on false = true) {c : Nat} :
 ∀ (f : Nat) (o : Oper), (∀ d ∈ o.after, Region.binds .any d = true → l.getD d.on false = true) → reachB ops f o c = true → l.getD c false = true
 | 0, o, hall, h => by
  obtain ⟨d, hd1, hd2, hd3⟩ := edge_of (show edgeB o c = true from h)
  rw [← hd3]; exact hall d hd1 hd2
 | f + 1, o, hall, h => by
  unfold reachB at h
  rcases Bool.or_eq_true_iff.1 h with h | h
  · obtain ⟨d, hd1, hd2, hd3⟩ := edge_of h
    rw [← hd3]; exact hall d hd1 hd2
  · obtain ⟨d, hd1, hd2⟩ := List.any_eq_true.1 h
    rw [Bool.and_eq_true] at hd2
    have hdm : d ∈ o.after := by simpa using hd1
    have hdone := hall d hdm hd2.1
    cases ho' : ops[d.on]? with
    | none => rw [ho'] at hd2; simp at hd2
    | some o' =>
     rw [ho'] at hd2
     exact reach_done hcl f o' (hcl _ _ hdone ho') (by simpa using hd2.2)
theorem chain_done {ops : Array Oper} {l : Array Bool} {chain : List Nat} {q c c' : Nat} {o : Oper} (hcl : ∀ j o, l.getD j false = true → ops[j]? = some o → ∀ d ∈ o.after, Region.binds .any d = true → l.getD d.on false = true)
 (hall : ∀ d ∈ o.after, Region.binds .any d = true → l.getD d.on false = true) (hch : chainB ops chain = true) (hq : chain[q]? = some c) (hp : chain[q + 1]? = some c') (ho : ops[c']? = some o) : l.getD c false = true := by
 obtain ⟨o', ho', he⟩ := chainB_edge hch hq hp
 rw [ho] at ho'
 cases ho'
 exact reach_done hcl 6 o hall he
def ChInv (ops : Array Oper) (chain : List Nat) (pv : List Value) (a0 : Act) (J : List Value → World → Prop) (l : Array Bool) (a : Act) (w : World) : Prop :=
 l.size = ops.size ∧ a.defers = a0.defers ∧ a.tmps.size = a0.tmps.size ∧ (∀ s, (∀ j, dstO ops j = some s → l.getD j false = false) → a.tmps[s]? = a0.tmps[s]?) ∧
 (∀ j o, l.getD j false = true → ops[j]? = some o → ∀ d ∈ o.after, Region.binds .any d = true → l.getD d.on false = true) ∧
 ∃ us : List Value, us.length ≤ chain.length ∧ (∀ i c, chain[i]? = some c → (l.getD c false = true ↔ i < us.length)) ∧ (∀ j s, l.getD j false = true → dstO ops j = some s → a.tmps[s]? = some (valOf chain pv us j)) ∧ J us w
structure Finds (ops : Array Oper) (chain : List Nat) (pv us : List Value) (a0 a : Act) (o : Oper) : Prop where
 old : ∀ s : Nat, ops.toList.all (fun o => o.dst != some s) = true → a.eval (.tmp s) = a0.eval (.tmp s)
 pure : ∀ (j s : Nat) (v : Value), edgeB o j = true → dstO ops j = some s → chain.contains j = false → pv[j]? = some v → a.tmps[s]? = some v
 link : ∀ (p j s : Nat) (v : Value), chain[p]? = some j → edgeB o j = true → dstO ops j = some s → us[p]? = some v → a.tmps[s]? = some v
 did : ∀ (p j : Nat), chain[p]? = some j → edgeB o j = true → p < us.length
 olds : ∀ (p j s : Nat), chain[p]? = some j → dstO ops j = some s → us.length ≤ p → a.tmps[s]? = a0.tmps[s]?
def frameL (ops : Array Oper) (chain : List Nat) (pv us : List Value) : List (Nat × Value) := (List.range ops.size).filterMap fun j => (dstO ops j).map fun s => (s, valOf chain pv us j)
theorem wp_region_chain {P : Program} {ops : Array Oper} {Q : Exit → Act → World → Prop} {id : Nat} {a0 : Act} {W : World} (chain : List Nat) (pv : List Value) (J : List Value → World → Prop) (hm : P.follows .mixedOrders = true) (hdst : dstOK2 ops a0.tmps.size = true) (hord : ordB 0 ops.toList = true)
 (hch : chainB ops chain = true) (hnd : chain.Nodup) (h0 : J [] W.drew)
 (hpure : ∀ (i : Nat) (o : Oper), ops[i]? = some o → chain.contains i = false → ∀ (a : Act) (w : World) (us : List Value) (K : Act → World → Prop), J us w → Finds ops chain pv us a0 a o → (∀ p c oc, chain[p]? = some c → ops[c]? = some oc → edgeB oc i = true → us.length ≤ p) → K (a.put o.dst (pv.getD i undef)) w →
  if Region.wanted o (yielded ops a.tmps) = true then Oper.wp P o a w K Q else K (a.put o.dst undef) w)
 (hlink : ∀ (p c : Nat) (o : Oper), chain[p]? = some c → ops[c]? = some o → ∀ (a : Act) (w : World) (us : List Value) (K : Act → World → Prop), us.length = p → J us w → Finds ops chain pv us a0 a o → (∀ v w', J (us ++ [v]) w' → K (a.put o.dst v) w') →
  if Region.wanted o (yielded ops a.tmps) = true then Oper.wp P o a w K Q else K (a.put o.dst undef) w)
 (hQ : ∀ us w, us.length = chain.length → J us w → Q .normal { a0 with tmps := (frameL ops chain pv us).foldl (fun t p => t.setIfInBounds p.1 p.2) a0.tmps } w) :
 (Code.region id ops true).wp P Q a0 W := by
 refine wp_region_any hm ?_
 refine wpAny_inv (ChInv ops chain pv a0 J) (fun l a w h => h.1) ?_ (hordB hord) ?_ _ _ _ _ (by simp) ?_
 · intro l a w hI i o ho hl hall K hK
   obtain ⟨hs, hdf, hsz, hnot, hcl, us, hul, hcu, hval, hJ⟩ := hI
   have hi : i < ops.size := (Array.getElem?_eq_some_iff.1 ho).1
   have hnl := not_listed hl
   have hself : (l.setIfInBounds i true).getD i false = true := getD_set_self (by omega)
   have hfind : Finds ops chain pv us a0 a o := by
    refine ⟨fun s hsn => ?_, fun j s v he hd hc hv => ?_, fun p j s v hp he hd hv => ?_, fun p j hp he => by obtain ⟨d, hd1, hd2, rfl⟩ := edge_of he; exact (hcu p _ hp).1 (hall d hd1 hd2), fun p j s hp hj hl0 => hnot s fun j' hj' => by
     have e : j' = j := dst_inj hdst hj' hj
     subst e
     cases hx : l.getD j' false
     · rfl
     · exact absurd ((hcu p _ hp).1 hx) (by omega)⟩
    · have := hnot s (fun j hj => by
       unfold dstO at hj
       rw [Option.bind_eq_some_iff] at hj
       obtain ⟨o', h1, h2⟩ := hj
       have h3 := List.all_eq_true.1 hsn o' (by simpa using Array.mem_of_getElem? h1)
       rw [h2] at h3
       simp at h3)
      simp [Act.eval, this]
    · obtain ⟨d, hd1, hd2, rfl⟩ := edge_of he
      rw [hval _ s (hall d hd1 hd2) hd]
      have : chain.idxOf? d.on = none := idxOf_none (by simpa using hc)
      simp only [valOf, this]
      simp [hv]
    · obtain ⟨d, hd1, hd2, rfl⟩ := edge_of he
      rw [hval _ s (hall d hd1 hd2) hd]
      have : chain.idxOf? d.on = some p := idxOf_some hnd hp
      simp only [valOf, this]
      simp [hv]
   have hclosed : ∀ j o', (l.setIfInBounds i true).getD j false = true → ops[j]? = some o' → ∀ d ∈ o'.after, Region.binds .any d = true → (l.setIfInBounds i true).getD d.on false = true := by
    intro j o' hj ho' d hd hb
    have mono : ∀ k, l.getD k false = true → (l.setIfInBounds i true).getD k false = true := fun k hk => by
     by_cases hik : i = k
     · subst hik; exact hself
     · rw [getD_set_other hik]; exact hk
    by_cases hij : i = j
    · subst hij
      rw [ho] at ho'
      cases ho'
      exact mono _ (hall d hd hb)
    · rw [getD_set_other hij] at hj
      exact mono _ (hcl j o' hj ho' d hd hb)
   have hput : ∀ v s, (∀ j, dstO ops j = some s → (l.setIfInBounds i true).getD j false = false) → (a.put o.dst v).tmps[s]? = a0.tmps[s]? := fun v s hsn => by
    have hsn' : ∀ j, dstO ops j = some s → l.getD j false = false := fun j hj => by
     have h1 := hsn j hj
     by_cases hij : i = j
     · subst hij; rw [hself] at h1; cases h1
     · rwa [getD_set_other hij] at h1
    cases hd : o.dst with
    | none => simp only [Act.put]; exact hnot s hsn'
    | some t =>
     have : dstO ops i = some t := by unfold dstO; rw [ho]; exact hd
     have hts : t ≠ s := fun e => by
      have h1 := hsn i (by rw [this, e])
      rw [hself] at h1; cases h1
     simp only [Act.put]
     rw [Array.getElem?_setIfInBounds_ne hts]
     exact hnot s hsn'
   have hputd : ∀ v, (a.put o.dst v).defers = a0.defers ∧ (a.put o.dst v).tmps.size = a0.tmps.size := fun v => by
    cases hd : o.dst with
    | none => exact ⟨hdf, hsz⟩
    | some t => exact ⟨hdf, by simpa [Act.put] using hsz⟩
   have hputv : ∀ us' v, valOf chain pv us' i = v → (∀ j, l.getD j false = true → valOf chain pv us' j = valOf chain pv us j) → ∀ j s, (l.setIfInBounds i true).getD j false = true → dstO ops j = some s → (a.put o.dst v).tmps[s]? = some (valOf chain pv us' j) := by
    intro us' v hv hsame j s hj hd
    by_cases hij : i = j
    · subst hij
      have hod : o.dst = some s := by unfold dstO at hd; rw [ho] at hd; exact hd
      rw [hod, hv]
      have := dst_lt hdst hd
      simp [Act.put, hsz, this]
    · rw [getD_set_other hij] at hj
      rw [hsame j hj]
      cases hod : o.dst with
      | none => simp only [Act.put]; exact hval j s hj hd
      | some t =>
       have h1 : dstO ops i = some t := by unfold dstO; rw [ho]; exact hod
       have hts : t ≠ s := fun e => hij (dst_inj hdst h1 (by rw [hd, e]))
       simp only [Act.put]
       rw [Array.getElem?_setIfInBounds_ne hts]
       exact hval j s hj hd
   by_cases hc : i ∈ chain
   · obtain ⟨p, hp⟩ := List.getElem?_of_mem hc
     have hle : us.length ≤ p := by
      rcases Nat.lt_or_ge p us.length with h | h
      · have := (hcu p i hp).2 h
        rw [hnl] at this
        cases this
      · exact h
     have hge : p ≤ us.length := by
      cases p with
      | zero => omega
      | succ q =>
       have hpl := (List.getElem?_eq_some_iff.1 hp).1
       have hq : chain[q]? = some chain[q] := List.getElem?_eq_getElem (by omega)
       have := (hcu q _ hq).1 (chain_done hcl hall hch hq hp ho)
       omega
     have hpl := (List.getElem?_eq_some_iff.1 hp).1
     refine hlink p i o hp ho a w us K (by omega) hJ hfind (fun v w' hJ' => ?_)
     apply hK
     have hlen : (us ++ [v]).length = us.length + 1 := by simp
     refine ⟨by simpa using hs, (hputd v).1, (hputd v).2, hput v, hclosed, us ++ [v], by rw [hlen]; omega, fun q c hq => ?_, hputv _ v ?_ ?_, hJ'⟩
     · rw [hlen]
       by_cases hic : i = c
       · subst hic
         have : q = p := by
          have h1 := idxOf_some hnd hq
          have h2 := idxOf_some hnd hp
          rw [h1] at h2
          exact Option.some.inj h2
         rw [hself]
         simp
         omega
       · rw [getD_set_other hic, hcu q c hq]
         have : q ≠ p := fun e => hic (by rw [e, hp] at hq; exact Option.some.inj hq)
         omega
     · simp only [valOf, idxOf_some hnd hp]
       rw [List.getD_eq_getElem?_getD, List.getElem?_append_right (by omega)]
       have : p - us.length = 0 := by omega
       simp [this]
     · intro j hj
       unfold valOf
       cases hx : chain.idxOf? j with
       | none => rfl
       | some q =>
        have hq : chain[q]? = some j := by
         obtain ⟨h1, h2, _⟩ := List.idxOf?_eq_some_iff.1 hx
         rw [List.getElem?_eq_getElem h1, h2]
        have := (hcu q j hq).1 hj
        simp only [List.getD_eq_getElem?_getD]
        rw [List.getElem?_append_left this]
   · refine hpure i o ho (by simpa using hc) a w us K hJ hfind (fun p c oc hp hoc he => ?_) ?_
     · rcases Nat.lt_or_ge p us.length with h | h
       · obtain ⟨d, hd1, hd2, hd3⟩ := edge_of he
         have := hcl c oc ((hcu p c hp).2 h) hoc d hd1 hd2
         rw [hd3, hnl] at this
         cases this
       · exact h
     · apply hK
       refine ⟨by simpa using hs, (hputd _).1, (hputd _).2, hput _, hclosed, us, hul, fun q c hq => ?_, hputv us _ ?_ (fun _ _ => rfl), hJ⟩
       · have : i ≠ c := fun e => hc (by rw [e]; exact List.mem_of_getElem? hq)
         rw [getD_set_other this]
         exact hcu q c hq
       · simp only [valOf, idxOf_none hc]
 · rintro l a w ⟨hs, hdf, hsz, hnot, hcl, us, hul, hcu, hval, hJ⟩ hall
   have hlen : us.length = chain.length := by
    rcases Nat.lt_or_ge us.length chain.length with h | h
    · have hq : chain[us.length]? = some chain[us.length] := List.getElem?_eq_getElem h
      have := (hcu _ _ hq).1 (hall _ (chainB_lt hch hq))
      omega
    · omega
   have hfr := frame_eq (a0 := a0.tmps) (frameL ops chain pv us) a.tmps a0.tmps hsz (fun p hp => by
    obtain ⟨j, hj, hv⟩ := List.mem_filterMap.1 hp
    rw [Option.map_eq_some_iff] at hv
    obtain ⟨s, hd, rfl⟩ := hv
    exact hval j s (hall j (by simpa using hj)) hd) (fun s hsn => hnot s fun j hj => absurd (by
     have hjl : j < ops.size := by
      unfold dstO at hj
      rw [Option.bind_eq_some_iff] at hj
      obtain ⟨o', h1, _⟩ := hj
      exact (Array.getElem?_eq_some_iff.1 h1).1
     rw [List.mem_map]
     exact ⟨(s, valOf chain pv us j), List.mem_filterMap.2 ⟨j, by simpa using hjl, by rw [hj]; rfl⟩, rfl⟩) hsn)
   have : a = { a0 with tmps := (frameL ops chain pv us).foldl (fun t p => t.setIfInBounds p.1 p.2) a0.tmps } := by
    obtain ⟨at_, ad⟩ := a
    simp only at hfr hdf
    rw [hfr, hdf]
   rw [this]
   exact hQ us w hlen hJ
 · refine ⟨by simp, rfl, rfl, fun _ _ => rfl, fun j o h => ?_, [], by simp, fun i c hc => ?_, fun j s h => ?_, h0⟩
   · simp [Array.getElem?_replicate] at h
     split at h <;> simp at h
   · have : (Array.replicate ops.size false).getD c false = false := by
      simp [Array.getElem?_replicate]
      split <;> rfl
     rw [this]
     simp
   · simp [Array.getElem?_replicate] at h
     split at h <;> simp at h
def depsOf (o : Oper) : List Nat := (o.after.toList.filter (fun d => Region.binds .any d)).map (·.on)
theorem edge_deps {o : Oper} {j : Nat} (h : (depsOf o).contains j = true) : edgeB o j = true := by
 have h' : j ∈ depsOf o := by simpa using h
 obtain ⟨d, hd, rfl⟩ := List.mem_map.1 h'
 rw [List.mem_filter] at hd
 exact List.any_eq_true.2 ⟨d, hd.1, by simp [hd.2]⟩
structure Sees (slots : List (Option Nat)) (deps : List (List Nat)) (chain : List Nat) (pv us : List Value) (a0 a : Act) (i : Nat) : Prop where
 old : ∀ (s : Nat) (v : Value), slots.contains (some s) = false → a0.eval (.tmp s) = v → a.eval (.tmp s) = v
 pure : ∀ (j s : Nat) (v : Value), (deps.getD i []).contains j = true → slots[j]? = some (some s) → chain.contains j = false → pv[j]? = some v → a.eval (.tmp s) = v
 link : ∀ (p j s : Nat) (v : Value), chain[p]? = some j → (deps.getD i []).contains j = true → slots[j]? = some (some s) → us[p]? = some v → a.eval (.tmp s) = v
 did : ∀ (p j : Nat), chain[p]? = some j → (deps.getD i []).contains j = true → p < us.length
 olds : ∀ (p j s : Nat) (v : Value), chain[p]? = some j → slots[j]? = some (some s) → us.length ≤ p → a0.eval (.tmp s) = v → a.eval (.tmp s) = v
theorem Finds.sees {ops : Array Oper} {chain : List Nat} {pv us : List Value} {a0 a : Act} {o : Oper} {slots : List (Option Nat)} {deps : List (List Nat)} {i : Nat} (hs : ops.toList.map (·.dst) = slots) (hd : ops.toList.map depsOf = deps) (ho : ops[i]? = some o) (h : Finds ops chain pv us a0 a o) : Sees slots deps chain pv us a0 a i := by
 have hdo : deps.getD i [] = depsOf o := by
  rw [← hd, List.getD_eq_getElem?_getD, List.getElem?_map]
  have : ops.toList[i]? = some o := by simpa using ho
  rw [this]; rfl
 have hsl : ∀ j s, slots[j]? = some (some s) → dstO ops j = some s := fun j s h => by
  rw [← hs, List.getElem?_map, Option.map_eq_some_iff] at h
  obtain ⟨o', h1, h2⟩ := h
  have h1' : ops[j]? = some o' := by simpa using h1
  simp [dstO, h1', h2]
 refine ⟨fun s v hc hv => (h.old s ?_).trans hv, fun j s v he hj hc hv => eval_of (h.pure j s v (edge_deps (by rw [← hdo]; exact he)) (hsl j s hj) hc hv), fun p j s v hp he hj hv => eval_of (h.link p j s v hp (edge_deps (by rw [← hdo]; exact he)) (hsl j s hj) hv), fun p j hp he => h.did p j hp (edge_deps (by rw [← hdo]; exact he)), fun p j s v hp hj hl0 hv => by rw [← hv]; simp [Act.eval, h.olds p j s hp (hsl j s hj) hl0]⟩
 have hn : some s ∉ ops.toList.map (·.dst) := by rw [hs]; simpa using hc
 refine List.all_eq_true.2 fun o' ho' => ?_
 have : o'.dst ≠ some s := fun e => hn (List.mem_map.2 ⟨o', ho', e⟩)
 simp [this]
theorem wp_region_links {P : Program} {ops : Array Oper} {Q : Exit → Act → World → Prop} {id : Nat} {a0 : Act} {W : World} (slots : List (Option Nat)) (deps : List (List Nat)) (chain : List Nat) (pv : List Value) (J : List Value → World → Prop) (hm : P.follows .mixedOrders = true) (hdst : dstOK2 ops a0.tmps.size = true) (hord : ordB 0 ops.toList = true)
 (hs : ops.toList.map (·.dst) = slots) (hd : ops.toList.map depsOf = deps) (hg : ops.toList.all (fun o => o.guard.isNone) = true) (hch : chainB ops chain = true) (hnd : chain.Nodup) (h0 : J [] W.drew)
 (hpure : ∀ (i : Nat) (o : Oper), ops[i]? = some o → chain.contains i = false → ∀ (a : Act) (w : World) (us : List Value) (K : Act → World → Prop), J us w → Sees slots deps chain pv us a0 a i → (∀ p c, chain[p]? = some c → (deps.getD c []).contains i = true → us.length ≤ p) → K (a.put o.dst (pv.getD i undef)) w → Oper.wp P o a w K Q)
 (hlink : ∀ (p c : Nat) (o : Oper), chain[p]? = some c → ops[c]? = some o → ∀ (a : Act) (w : World) (us : List Value) (K : Act → World → Prop), us.length = p → J us w → Sees slots deps chain pv us a0 a c → (∀ v w', J (us ++ [v]) w' → K (a.put o.dst v) w') → Oper.wp P o a w K Q)
 (hQ : ∀ us w, us.length = chain.length → J us w → Q .normal { a0 with tmps := (frameL ops chain pv us).foldl (fun t p => t.setIfInBounds p.1 p.2) a0.tmps } w) :
 (Code.region id ops true).wp P Q a0 W := by
 have hgd : ∀ (i : Nat) (o : Oper), ops[i]? = some o → o.guard = none := fun i o ho => by
  have := List.all_eq_true.1 hg o (by simpa using Array.mem_of_getElem? ho)
  simpa using this
 refine wp_region_chain chain pv J hm hdst hord hch hnd h0 (fun i o ho hc a w us K hJ hF hl hk => ?_) (fun p c o hp ho a w us K hl hJ hF hk => ?_) hQ
 · refine want_none (hgd i o ho) (hpure i o ho hc a w us K hJ (hF.sees hs hd ho) (fun p c hp he => ?_) hk)
   have hcl := chainB_lt hch hp
   have hoc : ops[c]? = some ops[c] := by simp [hcl]
   refine hl p c _ hp hoc (edge_deps ?_)
   have : deps.getD c [] = depsOf ops[c] := by
    rw [← hd, List.getD_eq_getElem?_getD, List.getElem?_map]
    have : ops.toList[c]? = some ops[c] := by simp [hcl]
    rw [this]; rfl
   rw [← this]
   exact he
 · exact want_none (hgd c o ho) (hlink p c o hp ho a w us K hl hJ (hF.sees hs hd ho) hk)
end
section
open Go.RowKit
theorem wp_append1x {P : Program} {o : Oper} {a : Act} {w : World} {K : Act → World → Prop} {Q : Exit → Act → World → Prop} (s x : Operand) (t : TypeId)
 (ho : o.op = .call { callee := .builtin .append, args := #[s, x], argTypes := #[t, t] })
 {base : Nat} {e : TypeId} {z : Value} {size bytes : Nat} (inf : (P.info? e).map (fun i => (i.zero, i.size, i.bytes)) = some (some z, size, bytes)) (ht : P.underlying t = some (.slice e)) (hzs : z.cells.size = size) (hsz : 0 < size)
 {v : Value} {n : Nat} {xs : List Value} (hown : w.ownsRow base e size v n xs) (hs : a.eval s = v) (g : Nat) (news : Array Value) (hx : a.eval x = .slice (some ⟨g, 0, none⟩) 1 1) (hB : Blk w g e news) (hl : news.size = size) (h1 : news.all (·.oneCell') = true)
 (hroom : (n + 1) * bytes ≤ 140737488355328) (hmax : n + 1 ≤ maxLen) (hbase : base ≤ w.heap.size)
 (h : ∀ v' w', w'.ownsRow base e size v' (n + 1) (xs ++ news.toList) → w.grownBy w' v.ownBlock → (v'.ownBlock = v.ownBlock ∨ v'.ownBlock = some w.heap.size) → K (a.put o.dst v') w') : o.wp P a w K Q := by
 obtain ⟨i, hi, hz0, hz1, hz2⟩ := info_parts inf
 obtain ⟨v', w', hrun, h2, h3, _, h5⟩ := run_append_own_at (P := P) w base t o.type e i z size bytes ht hi hz0 hz1 hz2 hzs hsz v n xs hown ⟨g, 0, none⟩ 1 1 news.toList (by simpa using hl)
  (fun j u hu => by rw [Addr.add_mid, Nat.zero_add, hB.cell]; simpa using hu) (fun u hu => (Array.all_eq_true_iff_forall_mem.1 h1) u (by simpa using hu)) hmax hroom hbase
 unfold Oper.wp execOp
 simp only [ho, resolve, invoke, builtin, Sem.run_bind, Sem.run_pure, Result.andThen_ok, List.map_toArray, List.map_cons, List.map_nil, hs, hx, hrun]
 exact h v' w' h2 h3 h5
theorem nodes_snoc {w w1 : World} {L : Nat} {v v' : Value} {l : List Nd} {hs : List NdH} {h : NdH} {x : Nd} (h1 : w.ownsRow L 87 4 v l.length (hs.flatMap NdH.vals)) (h2 : hs.length = l.length) (h3 : ∀ (i : Nat) (h : NdH) (x : Nd), hs[i]? = some h → l[i]? = some x → NdGood w L h x)
 (hgr : w.grownBy w1 v.ownBlock) (hg : NdGood w L h x) (ho : w1.ownsRow L 87 4 v' (l.length + 1) (hs.flatMap NdH.vals ++ h.vals)) : NodesOwn w1 L v' (l ++ [x]) := by
 have k : KB 69 w w1 := KB.grown hgr (own_typed h1) (by decide)
 refine ⟨hs ++ [h], ?_, by simp [h2], fun i y n hy hn => ?_⟩
 · rw [List.flatMap_append, List.length_append]
   simpa using ho
 · by_cases hi : i < l.length
   · rw [List.getElem?_append_left (by omega)] at hy hn
     exact (h3 i y n hy hn).kb k
   · have hi' : i = l.length := by
      have := (List.getElem?_eq_some_iff.1 hn).1
      simp at this
      omega
     subst hi'
     rw [List.getElem?_append_right (by omega)] at hy hn
     simp only [h2, Nat.sub_self, List.getElem?_cons_zero, Option.some.injEq] at hy hn
     subst hy hn
     exact hg.kb k
theorem below_put' {L b : Nat} {w w1 : World} (h : Below L w w1) (hb : L ≤ b) (t : TypeId) (cs : Array Value) : Below L w (putB w1 b t cs) := below_putX h hb t cs
def SxS (T T' : TypeId) (size : Nat) (cells : Array Value) (base : Nat) (v : Value) (k : Nat) (xs : List Value) (b off : Nat) (pc : Array Value) (W : World) : List Value → World → Prop
 | [], w' => Ext W w'
 | [u0], w' => (∃ g, u0 = .slice (some ⟨g, 0, none⟩) 1 1 ∧ Blk w' g T cells) ∧ Ext W w'
 | [_, u1], w' => ∃ w5, Ext W w5 ∧ w5.grownBy w' v.ownBlock ∧ w'.ownsRow base T size u1 (k + 1) (xs ++ cells.toList)
 | [_, u1, _], w' => ∃ w5 w6, Ext W w5 ∧ w5.grownBy w6 v.ownBlock ∧ w6.ownsRow base T size u1 (k + 1) (xs ++ cells.toList) ∧ Blk w6 b T' pc ∧ w' = putB w6 b T' (pc.setIfInBounds off u1)
 | _, _ => False
structure SxJ (T T' : TypeId) (size : Nat) (cells : Array Value) (base : Nat) (v : Value) (k : Nat) (xs : List Value) (b off : Nat) (pc : Array Value) (W : World) (us : List Value) (w' : World) : Prop where
 pb : us.length ≤ 2 → Blk w' b T' pc
 st : SxS T T' size cells base v k xs b off pc W us w'
section
variable {T T' : TypeId} {size : Nat} {cells : Array Value} {base k : Nat} {v : Value} {xs : List Value} {b off : Nat} {pc : Array Value} {W w' w2 : World} {u0 u1 u2 : Value}
theorem SxJ.start (hB : Blk W b T' pc) : SxJ T T' size cells base v k xs b off pc W [] W.drew := ⟨fun _ => hB.drew, (Ext.refl W).drew⟩
theorem SxJ.build (h : SxJ T T' size cells base v k xs b off pc W [] w') : SxJ T T' size cells base v k xs b off pc W ([] ++ [.slice (some ⟨w'.heap.size, 0, none⟩) 1 1]) (w'.alloc (.cells cells T)) :=
 ⟨fun _ => (h.pb (by simp)).alloc _, ⟨⟨_, rfl, Blk.new w' _ _⟩, Ext.alloc h.st _⟩⟩
theorem SxJ.app (h : SxJ T T' size cells base v k xs b off pc W [u0] w') (hv : ∀ q, v.ownBlock = some q → Typed w' T q) (hne : T' ≠ T) (hg : w'.grownBy w2 v.ownBlock) (ho : w2.ownsRow base T size u1 (k + 1) (xs ++ cells.toList)) : SxJ T T' size cells base v k xs b off pc W ([u0] ++ [u1]) w2 :=
 ⟨fun _ => Blk.grownX (h.pb (by simp)) hg hv hne, ⟨w', h.st.2, hg, ho⟩⟩
theorem SxJ.store (h : SxJ T T' size cells base v k xs b off pc W [u0, u1] w') : SxJ T T' size cells base v k xs b off pc W ([u0, u1] ++ [u2]) (putB w' b T' (pc.setIfInBounds off u1)) := by
 obtain ⟨w5, h1, h2, h3⟩ := h.st
 exact ⟨fun hl => by simp at hl, ⟨w5, w', h1, h2, h3, h.pb (by simp), rfl⟩⟩
end
end
section
open Go.RowKit
theorem info_nodeI : (Tryz.prog.info? 87).map (fun i => (i.zero, i.size, i.bytes)) = some (some (.agg #[.string ⟨#[]⟩, .string ⟨#[]⟩, .slice none 0 0, .int .i64 0]), 4, 64) := by kernel_rfl
theorem no_nl {t : ByteArray} (h : vld t = true) : Lib.indexByte (escS t).data.toList 10 = -1 := index_no fun b hb => by
 have := esc_bytes (vld_bytes h) b hb
 intro e
 rw [e] at this
 exact absurd this (by decide)
set_option maxHeartbeats 4000000 in
set_option maxRecDepth 100000 in
theorem text_ok (B0 b : Nat) (p : Ps) (t : ByteArray) (w : World) (hp : PsAt w B0 b p) (hr : RoomOk p true) (hj : p.joined = false) (hv : vld t = true) (hs : t.size ≤ 268435456) (hE : EntW w) (hV : Env w) (hLw : B0 ≤ w.heap.size) :
 Calls Tryz.prog 57 #[.pointer (some ⟨b, 0, none⟩), .string (escS t)] w fun e w' => e = .returned (.int .i64 0) ∧ PsAt w' B0 b (p.step (.txt t)) ∧ Below B0 w w' := by
 have HTr := Lib.hid (fun w' => Trim_any (escS t) w' (by have := escS_size t; omega))
 have HCn : Hid (∀ w', Calls Tryz.prog 102 #[.string (escS t), .string ⟨#[10]⟩] w' fun e w2 => e = .returned (.bool false) ∧ w2 = w') := fun w' => by
  have := Tryz.strings_Contains_one (escS t) 10 w'
  rw [no_nl hv] at this
  exact this
 have HMe := Lib.hid (fun w' (hx : Ext w w') => meaning_ok t w' (hE.ext hx) (hV.ext hx) hv hs)
 have HRm := Lib.hid (fun w' (hx : Ext w w') => room_ok B0 b p true w' (hp.ext hx) hr)
 have hop : p.opn.length ≠ 0 := fun e => by have := (hr.top (List.eq_nil_of_length_eq_zero e)).1; cases this
 have hfew := hr.few
 obtain ⟨nodes, opn, joined⟩ := p
 obtain ⟨vn, vo, hB, hN, hO, hLb⟩ := hp
 dsimp only at *
 subst hj
 have HN := Lib.hid hN
 have HO := Lib.hid hO
 obtain ⟨hs0, hN1, hN2, hN3⟩ := hN
 obtain ⟨An, cn, rfl, hcn, -⟩ := own_len hN1
 obtain ⟨Ao, co, rfl, hco, -⟩ := own_len hO
 have HB := Lib.hid hB
 have HN1 := Lib.hid hN1
 have HN2 := Lib.hid hN2
 have HN3 := Lib.hid hN3
 have hbl := hB.lt
 have d1 : ((opn.length : Int) == 0) = false := beq_eq_false_iff_ne.2 (by omega)
 clear hB hN1 hN2 hN3 hO hE hV hr hv
 go_enter Tryz.func57, Tryz.ntmps57
 go_wp2_with fail
 refine (HTr.out _).mono ?_
 rintro e w1 ⟨⟨r, rfl⟩, hx1⟩
 have HX1 := Lib.hid hx1
 have HB1 := Lib.hid (HB.out.ext hx1)
 clear hx1
 have hc1 := fun o => HB1.out.cell o
 have REST : ∀ (P : Prop), (r.toList.isEmpty = true → P) → (r.toList.isEmpty = false → P) → P := fun P a b => by cases hx : r.toList.isEmpty; exact b hx; exact a hx
 cases hre : r.toList.isEmpty
 · go_wp2_with fail
   refine (HMe.out _ HX1.out).mono ?_
   rintro e w2 ⟨rfl, hx2⟩
   have HX2 := Lib.hid (HX1.out.trans hx2)
   clear hx2 hc1
   go_wp2_with fail
   refine (HRm.out _ HX2.out).mono ?_
   rintro e w' ⟨rfl, rfl⟩
   have HB2 := Lib.hid (HB.out.ext HX2.out)
   have hc2 := fun o => HB2.out.cell o
   go_wp2_with fail
   have hzw := HX2.out.size
   refine wp_region_links [some 56, some 57, some 58, some 59, some 60, some 61, some 62, some 63, some 64, some 65, some 66, some 67, some 68, some 69, some 70, some 71, none] [[], [], [1], [2], [3], [], [], [6], [7], [8], [9], [5, 10], [11], [4, 12], [0, 0, 1, 2, 3, 4, 5, 6, 7, 8, 9, 10, 11, 12, 13], [14, 0, 1, 2, 3, 4, 5, 6, 7, 8, 9, 10, 11, 12, 13], [15, 13, 13, 0, 1, 2, 3, 4, 5, 6, 7, 8, 9, 10, 11, 12, 13]] [12, 13, 16] [.pointer (some ⟨b, 0, none⟩), .pointer (some ⟨b, 0, none⟩), .pointer (some ⟨b, 0, none⟩), .pointer (some ⟨b, 0, none⟩), .slice An nodes.length cn, .string t, .pointer (some ⟨b, 0, none⟩), .pointer (some ⟨b, 0, none⟩), .pointer (some ⟨b, 1, none⟩), .slice Ao opn.length co, .int .i64 (opn.length : Int), .agg #[.string ⟨#[]⟩, .string t, .slice none 0 0, .int .i64 (opn.length : Int)], undef, undef, .pointer (some ⟨b, 0, none⟩), .pointer (some ⟨b, 0, none⟩), undef] (SxJ 87 104 4 #[.string ⟨#[]⟩, .string t, .slice none 0 0, .int .i64 (opn.length : Int)] B0 (.slice An nodes.length cn) nodes.length (hs0.flatMap NdH.vals) b 0 #[.slice An nodes.length cn, .slice Ao opn.length co, .bool false] w2) (by kernel_rfl) (by kernel_rfl) (by kernel_rfl) (by kernel_rfl) (by kernel_rfl) (by kernel_rfl) (by kernel_rfl) (by decide) ?_ ?_ ?_ ?_
   · exact SxJ.start HB2.out
   · intro i o ho hc a w' us K' hJ hF hlim hk
     match i, ho with
     | 0, ho =>
      simp only [List.getElem?_toArray, List.getElem?_cons_zero, List.getElem?_cons_succ, Option.some.injEq] at ho
      subst ho
      have e0 := hF.old 0 (.pointer (some ⟨b, 0, none⟩)) rfl rfl
      simp only [Act.eval] at e0
      clear hF hlim hJ
      go_simp
      exact hk
     | 1, ho =>
      simp only [List.getElem?_toArray, List.getElem?_cons_zero, List.getElem?_cons_succ, Option.some.injEq] at ho
      subst ho
      have e0 := hF.old 0 (.pointer (some ⟨b, 0, none⟩)) rfl rfl
      simp only [Act.eval] at e0
      clear hF hlim hJ
      go_simp
      exact hk
     | 2, ho =>
      simp only [List.getElem?_toArray, List.getElem?_cons_zero, List.getElem?_cons_succ, Option.some.injEq] at ho
      subst ho
      have e57 := hF.pure 1 57 (.pointer (some ⟨b, 0, none⟩)) rfl rfl rfl rfl
      simp only [Act.eval] at e57
      clear hF hlim hJ
      go_simp
      exact hk
     | 3, ho =>
      simp only [List.getElem?_toArray, List.getElem?_cons_zero, List.getElem?_cons_succ, Option.some.injEq] at ho
      subst ho
      have e58 := hF.pure 2 58 (.pointer (some ⟨b, 0, none⟩)) rfl rfl rfl rfl
      simp only [Act.eval] at e58
      clear hF hlim hJ
      go_simp
      exact hk
     | 4, ho =>
      simp only [List.getElem?_toArray, List.getElem?_cons_zero, List.getElem?_cons_succ, Option.some.injEq] at ho
      subst ho
      have e59 := hF.pure 3 59 (.pointer (some ⟨b, 0, none⟩)) rfl rfl rfl rfl
      have hcl := (hJ.pb (hlim 2 16 rfl rfl)).cell 0
      simp only [List.getElem?_toArray, List.getElem?_cons_zero, List.getElem?_cons_succ] at hcl
      simp only [Act.eval] at e59
      clear hF hlim hJ
      go_simp
      exact hk
     | 5, ho =>
      simp only [List.getElem?_toArray, List.getElem?_cons_zero, List.getElem?_cons_succ, Option.some.injEq] at ho
      subst ho
      have e5 := hF.old 5 (.string t) rfl rfl
      simp only [Act.eval] at e5
      clear hF hlim hJ
      go_simp
      exact hk
     | 6, ho =>
      simp only [List.getElem?_toArray, List.getElem?_cons_zero, List.getElem?_cons_succ, Option.some.injEq] at ho
      subst ho
      have e0 := hF.old 0 (.pointer (some ⟨b, 0, none⟩)) rfl rfl
      simp only [Act.eval] at e0
      clear hF hlim hJ
      go_simp
      exact hk
     | 7, ho =>
      simp only [List.getElem?_toArray, List.getElem?_cons_zero, List.getElem?_cons_succ, Option.some.injEq] at ho
      subst ho
      have e62 := hF.pure 6 62 (.pointer (some ⟨b, 0, none⟩)) rfl rfl rfl rfl
      simp only [Act.eval] at e62
      clear hF hlim hJ
      go_simp
      exact hk
     | 8, ho =>
      simp only [List.getElem?_toArray, List.getElem?_cons_zero, List.getElem?_cons_succ, Option.some.injEq] at ho
      subst ho
      have e63 := hF.pure 7 63 (.pointer (some ⟨b, 0, none⟩)) rfl rfl rfl rfl
      simp only [Act.eval] at e63
      clear hF hlim hJ
      go_simp
      exact hk
     | 9, ho =>
      simp only [List.getElem?_toArray, List.getElem?_cons_zero, List.getElem?_cons_succ, Option.some.injEq] at ho
      subst ho
      have e64 := hF.pure 8 64 (.pointer (some ⟨b, 1, none⟩)) rfl rfl rfl rfl
      have hcl := (hJ.pb (hlim 2 16 rfl rfl)).cell 1
      simp only [List.getElem?_toArray, List.getElem?_cons_zero, List.getElem?_cons_succ] at hcl
      simp only [Act.eval] at e64
      clear hF hlim hJ
      go_simp
      exact hk
     | 10, ho =>
      simp only [List.getElem?_toArray, List.getElem?_cons_zero, List.getElem?_cons_succ, Option.some.injEq] at ho
      subst ho
      have e65 := hF.pure 9 65 (.slice Ao opn.length co) rfl rfl rfl rfl
      simp only [Act.eval] at e65
      clear hF hlim hJ
      go_simp
      exact hk
     | 11, ho =>
      simp only [List.getElem?_toArray, List.getElem?_cons_zero, List.getElem?_cons_succ, Option.some.injEq] at ho
      subst ho
      have e61 := hF.pure 5 61 (.string t) rfl rfl rfl rfl
      have e66 := hF.pure 10 66 (.int .i64 (opn.length : Int)) rfl rfl rfl rfl
      simp [Act.eval] at e61 e66
      clear hF hlim hJ
      go_simp
      exact hk
     | 12, ho => simp at hc
     | 13, ho => simp at hc
     | 14, ho =>
      simp only [List.getElem?_toArray, List.getElem?_cons_zero, List.getElem?_cons_succ, Option.some.injEq] at ho
      subst ho
      have e56 := hF.pure 0 56 (.pointer (some ⟨b, 0, none⟩)) rfl rfl rfl rfl
      simp only [Act.eval] at e56
      clear hF hlim hJ
      go_simp
      exact hk
     | 15, ho =>
      simp only [List.getElem?_toArray, List.getElem?_cons_zero, List.getElem?_cons_succ, Option.some.injEq] at ho
      subst ho
      have e70 := hF.pure 14 70 (.pointer (some ⟨b, 0, none⟩)) rfl rfl rfl rfl
      simp only [Act.eval] at e70
      clear hF hlim hJ
      go_simp
      exact hk
     | 16, ho => simp at hc
     | i + 17, ho => simp at ho
   · intro p c' o hp ho a w' us K' hl hJ hF hk
     match p, hp with
     | 0, hp =>
      obtain rfl : 12 = c' := by simpa using hp
      simp only [List.getElem?_toArray, List.getElem?_cons_zero, List.getElem?_cons_succ, Option.some.injEq] at ho
      subst ho
      obtain rfl : us = [] := List.eq_nil_of_length_eq_zero hl
      have e67 := hF.pure 11 67 (.agg #[.string ⟨#[]⟩, .string t, .slice none 0 0, .int .i64 (opn.length : Int)]) rfl rfl rfl rfl
      have HK := Lib.hid (hk (.slice (some ⟨w'.heap.size, 0, none⟩) 1 1) (w'.alloc (.cells #[.string ⟨#[]⟩, .string t, .slice none 0 0, .int .i64 (opn.length : Int)] 87)) hJ.build)
      simp [Act.eval] at e67
      clear hk hF hJ
      go_simp
      exact HK.out
     | 1, hp =>
      obtain rfl : 13 = c' := by simpa using hp
      simp only [List.getElem?_toArray, List.getElem?_cons_zero, List.getElem?_cons_succ, Option.some.injEq] at ho
      subst ho
      obtain ⟨u0, rfl⟩ := list_1 hl
      obtain ⟨⟨g8, rfl, hB8⟩, hx8⟩ := hJ.st
      have e60 := hF.pure 4 60 (.slice An nodes.length cn) rfl rfl rfl rfl
      have e68 := hF.link 0 12 68 _ rfl rfl rfl rfl
      exact wp_append1x (.tmp 60) (.tmp 68) 37 rfl info_nodeI Tryz.underlying37 rfl (by decide) (own_ext (own_ext HN1.out HX2.out) hx8) e60 g8 _ e68 hB8 rfl (by simp [Value.oneCell']) (by omega) (by simp [maxLen]; omega) (by have := hx8.size; omega) (fun v' w9 ho9 hg9 hl9 => hk v' w9 (hJ.app (own_typed (own_ext (own_ext HN1.out HX2.out) hx8)) (by decide) hg9 ho9))
     | 2, hp =>
      obtain rfl : 16 = c' := by simpa using hp
      simp only [List.getElem?_toArray, List.getElem?_cons_zero, List.getElem?_cons_succ, Option.some.injEq] at ho
      subst ho
      obtain ⟨u0, u1, rfl⟩ := list_2 hl
      obtain ⟨w5, hx5, hg5, ho5⟩ := hJ.st
      obtain ⟨gv, cv, rfl, -, -⟩ := own_form ho5 (by omega)
      have e71 := hF.pure 15 71 (.pointer (some ⟨b, 0, none⟩)) rfl rfl rfl rfl
      have e69 := hF.link 1 13 69 _ rfl rfl rfl rfl
      have hbk := hJ.pb (by simp)
      have hcl := hbk.cell 0
      simp only [List.getElem?_toArray, List.getElem?_cons_zero, List.getElem?_cons_succ] at hcl
      have hfz := hbk.frozen 0
      have hsl := setCell_put hbk 0 (.slice (some ⟨gv, 0, none⟩) (nodes.length + 1) cv)
      have HK := Lib.hid (hk undef _ (hJ.store (u2 := undef)))
      simp [Act.eval] at e69 e71
      clear hk hF hJ
      go_simp
      exact HK.out
     | p + 3, hp => simp at hp
   intro us w5 hl hJ
   obtain ⟨u0, u1, u2, rfl⟩ := list_3 hl
   first | (rename_i hK; refine hK _ _ ?_; clear hK) | (rename_i hK hK_1; refine hK _ _ ?_; clear hK) | (rename_i hK hK_1 hK_2; refine hK _ _ ?_; clear hK) | (rename_i hK hK_1 hK_2 hK_3; refine hK _ _ ?_; clear hK)
   generalize hL : frameL _ _ _ _ = L
   obtain rfl : L = [(56, .pointer (some ⟨b, 0, none⟩)), (57, .pointer (some ⟨b, 0, none⟩)), (58, .pointer (some ⟨b, 0, none⟩)), (59, .pointer (some ⟨b, 0, none⟩)), (60, .slice An nodes.length cn), (61, .string t), (62, .pointer (some ⟨b, 0, none⟩)), (63, .pointer (some ⟨b, 0, none⟩)), (64, .pointer (some ⟨b, 1, none⟩)), (65, .slice Ao opn.length co), (66, .int .i64 (opn.length : Int)), (67, .agg #[.string ⟨#[]⟩, .string t, .slice none 0 0, .int .i64 (opn.length : Int)]), (68, u0), (69, u1), (70, .pointer (some ⟨b, 0, none⟩)), (71, .pointer (some ⟨b, 0, none⟩))] := hL.symm.trans (by kernel_rfl)
   clear hL hl
   simp only [Act.put, List.foldl_cons, List.foldl_nil, List.setIfInBounds_toArray, List.set_cons_zero, List.set_cons_succ]
   obtain ⟨w6, w7, hx6, hg6, ho6, hb7, rfl⟩ := hJ.st
   obtain ⟨gv, cv, rfl, -, -⟩ := own_form ho6 (by omega)
   have ePC : (#[.slice An nodes.length cn, .slice Ao opn.length co, .bool false] : Array Value).setIfInBounds 0 (.slice (some ⟨gv, 0, none⟩) (nodes.length + 1) cv) = #[.slice (some ⟨gv, 0, none⟩) (nodes.length + 1) cv, .slice Ao opn.length co, .bool false] := rfl
   rw [ePC]
   have HX6 := Lib.hid (HX2.out.trans hx6)
   have HG6 := Lib.hid hg6
   have HO6 := Lib.hid ho6
   have HB7 := Lib.hid hb7
   have HB8 := Lib.hid (hb7.put #[.slice (some ⟨gv, 0, none⟩) (nodes.length + 1) cv, .slice Ao opn.length co, .bool false])
   have hc8 := fun o => HB8.out.cell o
   have hf8 := fun o => HB8.out.frozen o
   have hs8 : (putB w7 b 104 #[.slice (some ⟨gv, 0, none⟩) (nodes.length + 1) cv, .slice Ao opn.length co, .bool false]).setCell ⟨b, 2, none⟩ (.bool true) = putB w7 b 104 #[.slice (some ⟨gv, 0, none⟩) (nodes.length + 1) cv, .slice Ao opn.length co, .bool true] := by
    rw [setCell_put HB8.out 2, putB_putB]; rfl
   clear hJ hx6 hg6 ho6 hb7 hc2 ePC
   go_wp2_with fail
   go_ret
   have hN6 : NodesOwn w7 B0 (.slice (some ⟨gv, 0, none⟩) (nodes.length + 1) cv) (nodes ++ [⟨ByteArray.empty, t, [], opn.length⟩]) :=
    nodes_snoc (h := ⟨⟨#[]⟩, t, .slice none 0 0, opn.length⟩) (own_ext HN1.out HX6.out) HN2.out (fun i y n a c => (HN3.out i y n a c).kb (KB.ext HX6.out)) HG6.out ⟨rfl, rfl, rfl, ⟨rfl, .inl ⟨rfl, rfl⟩⟩⟩ HO6.out
   have hS6 : StrsOwn w7 B0 (.slice Ao opn.length co) opn := own_kbX (own_ext HO.out HX6.out) (KB.grown HG6.out (own_typed (own_ext HN1.out HX6.out)) (by decide))
   refine ⟨rfl, ⟨_, _, HB7.out.put _, hN6.kb (KB.put HB7.out (by decide)) (KB.put HB7.out (by decide)), own_kbX hS6 (KB.put HB7.out (by decide)), hLb⟩, ?_⟩
   exact below_put' ((Below.mono HX6.out hLw).grown HG6.out (by have := HX6.out.size; omega) (fun q hq => own_lt HN1.out q hq)) hLb _ _
 · go_wp2_with fail
   refine (HCn.out _).mono ?_
   rintro e w' ⟨rfl, rfl⟩
   go_wp2_with fail
   refine (HMe.out _ HX1.out).mono ?_
   rintro e w2 ⟨rfl, hx2⟩
   have HX2 := Lib.hid (HX1.out.trans hx2)
   clear hx2 hc1
   go_wp2_with fail
   refine (HRm.out _ HX2.out).mono ?_
   rintro e w' ⟨rfl, rfl⟩
   have HB2 := Lib.hid (HB.out.ext HX2.out)
   have hc2 := fun o => HB2.out.cell o
   go_wp2_with fail
   have hzw := HX2.out.size
   refine wp_region_links [some 56, some 57, some 58, some 59, some 60, some 61, some 62, some 63, some 64, some 65, some 66, some 67, some 68, some 69, some 70, some 71, none] [[], [], [1], [2], [3], [], [], [6], [7], [8], [9], [5, 10], [11], [4, 12], [0, 0, 1, 2, 3, 4, 5, 6, 7, 8, 9, 10, 11, 12, 13], [14, 0, 1, 2, 3, 4, 5, 6, 7, 8, 9, 10, 11, 12, 13], [15, 13, 13, 0, 1, 2, 3, 4, 5, 6, 7, 8, 9, 10, 11, 12, 13]] [12, 13, 16] [.pointer (some ⟨b, 0, none⟩), .pointer (some ⟨b, 0, none⟩), .pointer (some ⟨b, 0, none⟩), .pointer (some ⟨b, 0, none⟩), .slice An nodes.length cn, .string t, .pointer (some ⟨b, 0, none⟩), .pointer (some ⟨b, 0, none⟩), .pointer (some ⟨b, 1, none⟩), .slice Ao opn.length co, .int .i64 (opn.length : Int), .agg #[.string ⟨#[]⟩, .string t, .slice none 0 0, .int .i64 (opn.length : Int)], undef, undef, .pointer (some ⟨b, 0, none⟩), .pointer (some ⟨b, 0, none⟩), undef] (SxJ 87 104 4 #[.string ⟨#[]⟩, .string t, .slice none 0 0, .int .i64 (opn.length : Int)] B0 (.slice An nodes.length cn) nodes.length (hs0.flatMap NdH.vals) b 0 #[.slice An nodes.length cn, .slice Ao opn.length co, .bool false] w2) (by kernel_rfl) (by kernel_rfl) (by kernel_rfl) (by kernel_rfl) (by kernel_rfl) (by kernel_rfl) (by kernel_rfl) (by decide) ?_ ?_ ?_ ?_
   · exact SxJ.start HB2.out
   · intro i o ho hc a w' us K' hJ hF hlim hk
     match i, ho with
     | 0, ho =>
      simp only [List.getElem?_toArray, List.getElem?_cons_zero, List.getElem?_cons_succ, Option.some.injEq] at ho
      subst ho
      have e0 := hF.old 0 (.pointer (some ⟨b, 0, none⟩)) rfl rfl
      simp only [Act.eval] at e0
      clear hF hlim hJ
      go_simp
      exact hk
     | 1, ho =>
      simp only [List.getElem?_toArray, List.getElem?_cons_zero, List.getElem?_cons_succ, Option.some.injEq] at ho
      subst ho
      have e0 := hF.old 0 (.pointer (some ⟨b, 0, none⟩)) rfl rfl
      simp only [Act.eval] at e0
      clear hF hlim hJ
      go_simp
      exact hk
     | 2, ho =>
      simp only [List.getElem?_toArray, List.getElem?_cons_zero, List.getElem?_cons_succ, Option.some.injEq] at ho
      subst ho
      have e57 := hF.pure 1 57 (.pointer (some ⟨b, 0, none⟩)) rfl rfl rfl rfl
      simp only [Act.eval] at e57
      clear hF hlim hJ
      go_simp
      exact hk
     | 3, ho =>
      simp only [List.getElem?_toArray, List.getElem?_cons_zero, List.getElem?_cons_succ, Option.some.injEq] at ho
      subst ho
      have e58 := hF.pure 2 58 (.pointer (some ⟨b, 0, none⟩)) rfl rfl rfl rfl
      simp only [Act.eval] at e58
      clear hF hlim hJ
      go_simp
      exact hk
     | 4, ho =>
      simp only [List.getElem?_toArray, List.getElem?_cons_zero, List.getElem?_cons_succ, Option.some.injEq] at ho
      subst ho
      have e59 := hF.pure 3 59 (.pointer (some ⟨b, 0, none⟩)) rfl rfl rfl rfl
      have hcl := (hJ.pb (hlim 2 16 rfl rfl)).cell 0
      simp only [List.getElem?_toArray, List.getElem?_cons_zero, List.getElem?_cons_succ] at hcl
      simp only [Act.eval] at e59
      clear hF hlim hJ
      go_simp
      exact hk
     | 5, ho =>
      simp only [List.getElem?_toArray, List.getElem?_cons_zero, List.getElem?_cons_succ, Option.some.injEq] at ho
      subst ho
      have e5 := hF.old 5 (.string t) rfl rfl
      simp only [Act.eval] at e5
      clear hF hlim hJ
      go_simp
      exact hk
     | 6, ho =>
      simp only [List.getElem?_toArray, List.getElem?_cons_zero, List.getElem?_cons_succ, Option.some.injEq] at ho
      subst ho
      have e0 := hF.old 0 (.pointer (some ⟨b, 0, none⟩)) rfl rfl
      simp only [Act.eval] at e0
      clear hF hlim hJ
      go_simp
      exact hk
     | 7, ho =>
      simp only [List.getElem?_toArray, List.getElem?_cons_zero, List.getElem?_cons_succ, Option.some.injEq] at ho
      subst ho
      have e62 := hF.pure 6 62 (.pointer (some ⟨b, 0, none⟩)) rfl rfl rfl rfl
      simp only [Act.eval] at e62
      clear hF hlim hJ
      go_simp
      exact hk
     | 8, ho =>
      simp only [List.getElem?_toArray, List.getElem?_cons_zero, List.getElem?_cons_succ, Option.some.injEq] at ho
      subst ho
      have e63 := hF.pure 7 63 (.pointer (some ⟨b, 0, none⟩)) rfl rfl rfl rfl
      simp only [Act.eval] at e63
      clear hF hlim hJ
      go_simp
      exact hk
     | 9, ho =>
      simp only [List.getElem?_toArray, List.getElem?_cons_zero, List.getElem?_cons_succ, Option.some.injEq] at ho
      subst ho
      have e64 := hF.pure 8 64 (.pointer (some ⟨b, 1, none⟩)) rfl rfl rfl rfl
      have hcl := (hJ.pb (hlim 2 16 rfl rfl)).cell 1
      simp only [List.getElem?_toArray, List.getElem?_cons_zero, List.getElem?_cons_succ] at hcl
      simp only [Act.eval] at e64
      clear hF hlim hJ
      go_simp
      exact hk
     | 10, ho =>
      simp only [List.getElem?_toArray, List.getElem?_cons_zero, List.getElem?_cons_succ, Option.some.injEq] at ho
      subst ho
      have e65 := hF.pure 9 65 (.slice Ao opn.length co) rfl rfl rfl rfl
      simp only [Act.eval] at e65
      clear hF hlim hJ
      go_simp
      exact hk
     | 11, ho =>
      simp only [List.getElem?_toArray, List.getElem?_cons_zero, List.getElem?_cons_succ, Option.some.injEq] at ho
      subst ho
      have e61 := hF.pure 5 61 (.string t) rfl rfl rfl rfl
      have e66 := hF.pure 10 66 (.int .i64 (opn.length : Int)) rfl rfl rfl rfl
      simp [Act.eval] at e61 e66
      clear hF hlim hJ
      go_simp
      exact hk
     | 12, ho => simp at hc
     | 13, ho => simp at hc
     | 14, ho =>
      simp only [List.getElem?_toArray, List.getElem?_cons_zero, List.getElem?_cons_succ, Option.some.injEq] at ho
      subst ho
      have e56 := hF.pure 0 56 (.pointer (some ⟨b, 0, none⟩)) rfl rfl rfl rfl
      simp only [Act.eval] at e56
      clear hF hlim hJ
      go_simp
      exact hk
     | 15, ho =>
      simp only [List.getElem?_toArray, List.getElem?_cons_zero, List.getElem?_cons_succ, Option.some.injEq] at ho
      subst ho
      have e70 := hF.pure 14 70 (.pointer (some ⟨b, 0, none⟩)) rfl rfl rfl rfl
      simp only [Act.eval] at e70
      clear hF hlim hJ
      go_simp
      exact hk
     | 16, ho => simp at hc
     | i + 17, ho => simp at ho
   · intro p c' o hp ho a w' us K' hl hJ hF hk
     match p, hp with
     | 0, hp =>
      obtain rfl : 12 = c' := by simpa using hp
      simp only [List.getElem?_toArray, List.getElem?_cons_zero, List.getElem?_cons_succ, Option.some.injEq] at ho
      subst ho
      obtain rfl : us = [] := List.eq_nil_of_length_eq_zero hl
      have e67 := hF.pure 11 67 (.agg #[.string ⟨#[]⟩, .string t, .slice none 0 0, .int .i64 (opn.length : Int)]) rfl rfl rfl rfl
      have HK := Lib.hid (hk (.slice (some ⟨w'.heap.size, 0, none⟩) 1 1) (w'.alloc (.cells #[.string ⟨#[]⟩, .string t, .slice none 0 0, .int .i64 (opn.length : Int)] 87)) hJ.build)
      simp [Act.eval] at e67
      clear hk hF hJ
      go_simp
      exact HK.out
     | 1, hp =>
      obtain rfl : 13 = c' := by simpa using hp
      simp only [List.getElem?_toArray, List.getElem?_cons_zero, List.getElem?_cons_succ, Option.some.injEq] at ho
      subst ho
      obtain ⟨u0, rfl⟩ := list_1 hl
      obtain ⟨⟨g8, rfl, hB8⟩, hx8⟩ := hJ.st
      have e60 := hF.pure 4 60 (.slice An nodes.length cn) rfl rfl rfl rfl
      have e68 := hF.link 0 12 68 _ rfl rfl rfl rfl
      exact wp_append1x (.tmp 60) (.tmp 68) 37 rfl info_nodeI Tryz.underlying37 rfl (by decide) (own_ext (own_ext HN1.out HX2.out) hx8) e60 g8 _ e68 hB8 rfl (by simp [Value.oneCell']) (by omega) (by simp [maxLen]; omega) (by have := hx8.size; omega) (fun v' w9 ho9 hg9 hl9 => hk v' w9 (hJ.app (own_typed (own_ext (own_ext HN1.out HX2.out) hx8)) (by decide) hg9 ho9))
     | 2, hp =>
      obtain rfl : 16 = c' := by simpa using hp
      simp only [List.getElem?_toArray, List.getElem?_cons_zero, List.getElem?_cons_succ, Option.some.injEq] at ho
      subst ho
      obtain ⟨u0, u1, rfl⟩ := list_2 hl
      obtain ⟨w5, hx5, hg5, ho5⟩ := hJ.st
      obtain ⟨gv, cv, rfl, -, -⟩ := own_form ho5 (by omega)
      have e71 := hF.pure 15 71 (.pointer (some ⟨b, 0, none⟩)) rfl rfl rfl rfl
      have e69 := hF.link 1 13 69 _ rfl rfl rfl rfl
      have hbk := hJ.pb (by simp)
      have hcl := hbk.cell 0
      simp only [List.getElem?_toArray, List.getElem?_cons_zero, List.getElem?_cons_succ] at hcl
      have hfz := hbk.frozen 0
      have hsl := setCell_put hbk 0 (.slice (some ⟨gv, 0, none⟩) (nodes.length + 1) cv)
      have HK := Lib.hid (hk undef _ (hJ.store (u2 := undef)))
      simp [Act.eval] at e69 e71
      clear hk hF hJ
      go_simp
      exact HK.out
     | p + 3, hp => simp at hp
   intro us w5 hl hJ
   obtain ⟨u0, u1, u2, rfl⟩ := list_3 hl
   first | (rename_i hK; refine hK _ _ ?_; clear hK) | (rename_i hK hK_1; refine hK _ _ ?_; clear hK) | (rename_i hK hK_1 hK_2; refine hK _ _ ?_; clear hK) | (rename_i hK hK_1 hK_2 hK_3; refine hK _ _ ?_; clear hK)
   generalize hL : frameL _ _ _ _ = L
   obtain rfl : L = [(56, .pointer (some ⟨b, 0, none⟩)), (57, .pointer (some ⟨b, 0, none⟩)), (58, .pointer (some ⟨b, 0, none⟩)), (59, .pointer (some ⟨b, 0, none⟩)), (60, .slice An nodes.length cn), (61, .string t), (62, .pointer (some ⟨b, 0, none⟩)), (63, .pointer (some ⟨b, 0, none⟩)), (64, .pointer (some ⟨b, 1, none⟩)), (65, .slice Ao opn.length co), (66, .int .i64 (opn.length : Int)), (67, .agg #[.string ⟨#[]⟩, .string t, .slice none 0 0, .int .i64 (opn.length : Int)]), (68, u0), (69, u1), (70, .pointer (some ⟨b, 0, none⟩)), (71, .pointer (some ⟨b, 0, none⟩))] := hL.symm.trans (by kernel_rfl)
   clear hL hl
   simp only [Act.put, List.foldl_cons, List.foldl_nil, List.setIfInBounds_toArray, List.set_cons_zero, List.set_cons_succ]
   obtain ⟨w6, w7, hx6, hg6, ho6, hb7, rfl⟩ := hJ.st
   obtain ⟨gv, cv, rfl, -, -⟩ := own_form ho6 (by omega)
   have ePC : (#[.slice An nodes.length cn, .slice Ao opn.length co, .bool false] : Array Value).setIfInBounds 0 (.slice (some ⟨gv, 0, none⟩) (nodes.length + 1) cv) = #[.slice (some ⟨gv, 0, none⟩) (nodes.length + 1) cv, .slice Ao opn.length co, .bool false] := rfl
   rw [ePC]
   have HX6 := Lib.hid (HX2.out.trans hx6)
   have HG6 := Lib.hid hg6
   have HO6 := Lib.hid ho6
   have HB7 := Lib.hid hb7
   have HB8 := Lib.hid (hb7.put #[.slice (some ⟨gv, 0, none⟩) (nodes.length + 1) cv, .slice Ao opn.length co, .bool false])
   have hc8 := fun o => HB8.out.cell o
   have hf8 := fun o => HB8.out.frozen o
   have hs8 : (putB w7 b 104 #[.slice (some ⟨gv, 0, none⟩) (nodes.length + 1) cv, .slice Ao opn.length co, .bool false]).setCell ⟨b, 2, none⟩ (.bool true) = putB w7 b 104 #[.slice (some ⟨gv, 0, none⟩) (nodes.length + 1) cv, .slice Ao opn.length co, .bool true] := by
    rw [setCell_put HB8.out 2, putB_putB]; rfl
   clear hJ hx6 hg6 ho6 hb7 hc2 ePC
   go_wp2_with fail
   go_ret
   have hN6 : NodesOwn w7 B0 (.slice (some ⟨gv, 0, none⟩) (nodes.length + 1) cv) (nodes ++ [⟨ByteArray.empty, t, [], opn.length⟩]) :=
    nodes_snoc (h := ⟨⟨#[]⟩, t, .slice none 0 0, opn.length⟩) (own_ext HN1.out HX6.out) HN2.out (fun i y n a c => (HN3.out i y n a c).kb (KB.ext HX6.out)) HG6.out ⟨rfl, rfl, rfl, ⟨rfl, .inl ⟨rfl, rfl⟩⟩⟩ HO6.out
   have hS6 : StrsOwn w7 B0 (.slice Ao opn.length co) opn := own_kbX (own_ext HO.out HX6.out) (KB.grown HG6.out (own_typed (own_ext HN1.out HX6.out)) (by decide))
   refine ⟨rfl, ⟨_, _, HB7.out.put _, hN6.kb (KB.put HB7.out (by decide)) (KB.put HB7.out (by decide)), own_kbX hS6 (KB.put HB7.out (by decide)), hLb⟩, ?_⟩
   exact below_put' ((Below.mono HX6.out hLw).grown HG6.out (by have := HX6.out.size; omega) (fun q hq => own_lt HN1.out q hq)) hLb _ _
end
end Go.Proofs.YtbmblnhfmpolbaaGreatDoor