/- Laid together: A region that draws its order and whose operations with effects stand in a chain: each operation is met once. The walks of reel.At and of the reference's At. Lists of cuts among the arguments, opened. -/
import Derived.Test.YtablhmobekmflaaDoorPk02
import Derived.Test.YtablhmobekmflaaDoorPk03
import Derived.Test.YtablhmobekmflaaDoorPk01

/-! Chain -/
namespace Go.Proofs.YtablhmobekmflaaDoor
set_option linter.unusedVariables false
set_option linter.unusedSimpArgs false
open Go.RowKit
def dstO (ops : Array Oper) (j : Nat) : Option Nat := (ops[j]?).bind Oper.dst
/-- no two operations write one slot, each slot lies in the frame -/
def dstOK2 (ops : Array Oper) (n : Nat) : Bool := (ops.toList.filterMap Oper.dst).all (fun s => decide (s < n)) && decide ((ops.toList.filterMap Oper.dst).Nodup)
def edgeB (o : Oper) (j : Nat) : Bool := o.after.toList.any (fun d => Region.binds .any d && d.on == j)
/-- an operation waits for another, straight or through others -/
def reachB (ops : Array Oper) : Nat → Oper → Nat → Bool
  | 0, o, c => edgeB o c
  | f + 1, o, c => edgeB o c || o.after.toList.any (fun d => Region.binds .any d && ((ops[d.on]?).map (fun o' => reachB ops f o' c)).getD false)
/-- each of the chain waits for the one ahead of it -/
def chainB (ops : Array Oper) : List Nat → Bool
  | [] => true
  | [c] => decide (c < ops.size)
  | c :: c' :: l => decide (c < ops.size) && ((ops[c']?).map (fun o => reachB ops 6 o c)).getD false && chainB ops (c' :: l)
def valOf (chain : List Nat) (pv us : List Value) (j : Nat) : Value := match chain.idxOf? j with | some i => us.getD i undef | none => pv.getD j undef
theorem chainB_lt {ops : Array Oper} : ∀ {l : List Nat} {p c : Nat}, chainB ops l = true → l[p]? = some c → c < ops.size
  | [], _, _, _, h => by simp at h
  | [x], 0, c, h, hc => by simp [chainB] at h hc; omega
  | [x], p + 1, c, _, hc => by simp at hc
  | x :: y :: l, 0, c, h, hc => by simp [chainB] at h hc; omega
  | x :: y :: l, p + 1, c, h, hc => by
    simp only [chainB, Bool.and_eq_true] at h
    exact chainB_lt (p := p) h.2 (by simpa using hc)
theorem chainB_edge {ops : Array Oper} : ∀ {l : List Nat} {p c c' : Nat}, chainB ops l = true → l[p]? = some c → l[p + 1]? = some c' → ∃ o, ops[c']? = some o ∧ reachB ops 6 o c = true
  | [], _, _, _, _, h, _ => by simp at h
  | [x], p, c, c', _, _, h => by simp at h
  | x :: y :: l, 0, c, c', h, hc, hc' => by
    simp only [chainB, Bool.and_eq_true] at h
    simp at hc hc'
    subst hc hc'
    cases ho : ops[y]? with
    | none => rw [ho] at h; simp at h
    | some o => rw [ho] at h; exact ⟨o, rfl, by simpa using h.1.2⟩
  | x :: y :: l, p + 1, c, c', h, hc, hc' => by
    simp only [chainB, Bool.and_eq_true] at h
    exact chainB_edge (p := p) h.2 (by simpa using hc) (by simpa using hc')
theorem idxOf_some {l : List Nat} (hn : l.Nodup) {p c : Nat} (h : l[p]? = some c) : l.idxOf? c = some p := by
  have hp := (List.getElem?_eq_some_iff.1 h).1
  have hc : l[p] = c := (List.getElem?_eq_some_iff.1 h).2
  subst hc
  rw [List.idxOf?_eq_some_iff]
  exact ⟨hp, rfl, fun j hj he => by
    have := (List.getElem_inj hn).1 he
    omega⟩
theorem idxOf_none {l : List Nat} {c : Nat} (h : c ∉ l) : l.idxOf? c = none := List.idxOf?_eq_none_iff.2 h
theorem dst_inj {ops : Array Oper} {n i j s : Nat} (h : dstOK2 ops n = true) (hi : dstO ops i = some s) (hj : dstO ops j = some s) : i = j := by
  simp only [dstOK2, Bool.and_eq_true, decide_eq_true_eq] at h
  obtain ⟨_, hnd⟩ := h
  have key : ∀ (l : List Oper) (i j : Nat), (l.filterMap Oper.dst).Nodup → (l[i]?).bind Oper.dst = some s → (l[j]?).bind Oper.dst = some s → i = j := by
    intro l
    induction l with
    | nil => intro i j _ h; simp at h
    | cons o l ih =>
      intro i j hn h1 h2
      have mem : ∀ k, (l[k]?).bind Oper.dst = some s → s ∈ l.filterMap Oper.dst := fun k hk => by
        rw [Option.bind_eq_some_iff] at hk
        obtain ⟨o', h3, h4⟩ := hk
        exact List.mem_filterMap.2 ⟨o', List.mem_of_getElem? h3, h4⟩
      cases hd : o.dst with
      | none =>
        have hn' : (l.filterMap Oper.dst).Nodup := by simpa [List.filterMap_cons, hd] using hn
        match i, j with
        | 0, _ => simp [hd] at h1
        | _ + 1, 0 => simp [hd] at h2
        | i + 1, j + 1 => have := ih i j hn' (by simpa using h1) (by simpa using h2); omega
      | some s' =>
        have hn' : s' ∉ l.filterMap Oper.dst ∧ (l.filterMap Oper.dst).Nodup := by
          rw [List.filterMap_cons, hd] at hn
          exact List.nodup_cons.1 hn
        match i, j with
        | 0, 0 => rfl
        | 0, j + 1 =>
          simp [hd] at h1
          subst h1
          exact absurd (mem j (by simpa using h2)) hn'.1
        | i + 1, 0 =>
          simp [hd] at h2
          subst h2
          exact absurd (mem i (by simpa using h1)) hn'.1
        | i + 1, j + 1 => have := ih i j hn'.2 (by simpa using h1) (by simpa using h2); omega
  exact key ops.toList i j hnd (by simpa [dstO] using hi) (by simpa [dstO] using hj)
theorem dst_lt {ops : Array Oper} {n i s : Nat} (h : dstOK2 ops n = true) (hi : dstO ops i = some s) : s < n := by
  simp only [dstOK2, Bool.and_eq_true, List.all_eq_true] at h
  unfold dstO at hi
  rw [Option.bind_eq_some_iff] at hi
  obtain ⟨o, ho, hd⟩ := hi
  have := h.1 s (List.mem_filterMap.2 ⟨o, by simpa using Array.mem_of_getElem? ho, hd⟩)
  simpa using this
theorem edge_of {o : Oper} {j : Nat} (h : edgeB o j = true) : ∃ d ∈ o.after, Region.binds .any d = true ∧ d.on = j := edge h
theorem reach_done {ops : Array Oper} {l : Array Bool} (hcl : ∀ j o, l.getD j false = true → ops[j]? = some o → ∀ d ∈ o.after, Region.binds .any d = true → l.getD d.on false = true) {c : Nat} :
    ∀ (f : Nat) (o : Oper), (∀ d ∈ o.after, Region.binds .any d = true → l.getD d.on false = true) → reachB ops f o c = true → l.getD c false = true
  | 0, o, hall, h => by
    obtain ⟨d, hd1, hd2, hd3⟩ := edge_of (show edgeB o c = true from h)
    rw [← hd3]; exact hall d hd1 hd2
  | f + 1, o, hall, h => by
    unfold reachB at h
    rcases Bool.or_eq_true_iff.1 h with h | h
    · obtain ⟨d, hd1, hd2, hd3⟩ := edge_of h
      rw [← hd3]; exact hall d hd1 hd2
    · obtain ⟨d, hd1, hd2⟩ := List.any_eq_true.1 h
      rw [Bool.and_eq_true] at hd2
      have hdm : d ∈ o.after := by simpa using hd1
      have hdone := hall d hdm hd2.1
      cases ho' : ops[d.on]? with
      | none => rw [ho'] at hd2; simp at hd2
      | some o' =>
        rw [ho'] at hd2
        exact reach_done hcl f o' (hcl _ _ hdone ho') (by simpa using hd2.2)
theorem chain_done {ops : Array Oper} {l : Array Bool} {chain : List Nat} {q c c' : Nat} {o : Oper} (hcl : ∀ j o, l.getD j false = true → ops[j]? = some o → ∀ d ∈ o.after, Region.binds .any d = true → l.getD d.on false = true)
    (hall : ∀ d ∈ o.after, Region.binds .any d = true → l.getD d.on false = true) (hch : chainB ops chain = true) (hq : chain[q]? = some c) (hp : chain[q + 1]? = some c') (ho : ops[c']? = some o) : l.getD c false = true := by
  obtain ⟨o', ho', he⟩ := chainB_edge hch hq hp
  rw [ho] at ho'
  cases ho'
  exact reach_done hcl 6 o hall he
def ChInv (ops : Array Oper) (chain : List Nat) (pv : List Value) (a0 : Act) (J : List Value → World → Prop) (l : Array Bool) (a : Act) (w : World) : Prop :=
  l.size = ops.size ∧ a.defers = a0.defers ∧ a.tmps.size = a0.tmps.size ∧ (∀ s, (∀ j, dstO ops j = some s → l.getD j false = false) → a.tmps[s]? = a0.tmps[s]?) ∧
  (∀ j o, l.getD j false = true → ops[j]? = some o → ∀ d ∈ o.after, Region.binds .any d = true → l.getD d.on false = true) ∧
  ∃ us : List Value, us.length ≤ chain.length ∧ (∀ i c, chain[i]? = some c → (l.getD c false = true ↔ i < us.length)) ∧ (∀ j s, l.getD j false = true → dstO ops j = some s → a.tmps[s]? = some (valOf chain pv us j)) ∧ J us w
/-- what an operation finds in the frame: untouched slots, the values of pure operations that it waits for, those of the chain's -/
structure Finds (ops : Array Oper) (chain : List Nat) (pv us : List Value) (a0 a : Act) (o : Oper) : Prop where
  old : ∀ s : Nat, ops.toList.all (fun o => o.dst != some s) = true → a.eval (.tmp s) = a0.eval (.tmp s)
  pure : ∀ (j s : Nat) (v : Value), edgeB o j = true → dstO ops j = some s → chain.contains j = false → pv[j]? = some v → a.tmps[s]? = some v
  link : ∀ (p j s : Nat) (v : Value), chain[p]? = some j → edgeB o j = true → dstO ops j = some s → us[p]? = some v → a.tmps[s]? = some v
  did : ∀ (p j : Nat), chain[p]? = some j → edgeB o j = true → p < us.length
  olds : ∀ (p j s : Nat), chain[p]? = some j → dstO ops j = some s → us.length ≤ p → a.tmps[s]? = a0.tmps[s]?
/-- the slots behind the region, and what they hold -/
def frameL (ops : Array Oper) (chain : List Nat) (pv us : List Value) : List (Nat × Value) := (List.range ops.size).filterMap fun j => (dstO ops j).map fun s => (s, valOf chain pv us j)
theorem wp_region_chain {P : Program} {ops : Array Oper} {Q : Exit → Act → World → Prop} {id : Nat} {a0 : Act} {W : World} (chain : List Nat) (pv : List Value) (J : List Value → World → Prop) (hm : P.follows .mixedOrders = true) (hdst : dstOK2 ops a0.tmps.size = true) (hord : ordB 0 ops.toList = true)
    (hch : chainB ops chain = true) (hnd : chain.Nodup) (h0 : J [] W.drew)
    (hpure : ∀ (i : Nat) (o : Oper), ops[i]? = some o → chain.contains i = false → ∀ (a : Act) (w : World) (us : List Value) (K : Act → World → Prop), J us w → Finds ops chain pv us a0 a o → (∀ p c oc, chain[p]? = some c → ops[c]? = some oc → edgeB oc i = true → us.length ≤ p) → K (a.put o.dst (pv.getD i undef)) w →
      if Region.wanted o (yielded ops a.tmps) = true then Oper.wp P o a w K Q else K (a.put o.dst undef) w)
    (hlink : ∀ (p c : Nat) (o : Oper), chain[p]? = some c → ops[c]? = some o → ∀ (a : Act) (w : World) (us : List Value) (K : Act → World → Prop), us.length = p → J us w → Finds ops chain pv us a0 a o → (∀ v w', J (us ++ [v]) w' → K (a.put o.dst v) w') →
      if Region.wanted o (yielded ops a.tmps) = true then Oper.wp P o a w K Q else K (a.put o.dst undef) w)
    (hQ : ∀ us w, us.length = chain.length → J us w → Q .normal { a0 with tmps := (frameL ops chain pv us).foldl (fun t p => t.setIfInBounds p.1 p.2) a0.tmps } w) :
    (Code.region id ops true).wp P Q a0 W := by
  refine wp_region_any hm ?_
  refine wpAny_inv (ChInv ops chain pv a0 J) (fun l a w h => h.1) ?_ (hordB hord) ?_ _ _ _ _ (by simp) ?_
  · intro l a w hI i o ho hl hall K hK
    obtain ⟨hs, hdf, hsz, hnot, hcl, us, hul, hcu, hval, hJ⟩ := hI
    have hi : i < ops.size := (Array.getElem?_eq_some_iff.1 ho).1
    have hnl := not_listed hl
    have hself : (l.setIfInBounds i true).getD i false = true := getD_set_self (by omega)
    have hfind : Finds ops chain pv us a0 a o := by
      refine ⟨fun s hsn => ?_, fun j s v he hd hc hv => ?_, fun p j s v hp he hd hv => ?_, fun p j hp he => by obtain ⟨d, hd1, hd2, rfl⟩ := edge_of he; exact (hcu p _ hp).1 (hall d hd1 hd2), fun p j s hp hj hl0 => hnot s fun j' hj' => by
        have e : j' = j := dst_inj hdst hj' hj
        subst e
        cases hx : l.getD j' false
        · rfl
        · exact absurd ((hcu p _ hp).1 hx) (by omega)⟩
      · have := hnot s (fun j hj => by
          unfold dstO at hj
          rw [Option.bind_eq_some_iff] at hj
          obtain ⟨o', h1, h2⟩ := hj
          have h3 := List.all_eq_true.1 hsn o' (by simpa using Array.mem_of_getElem? h1)
          rw [h2] at h3
          simp at h3)
        simp [Act.eval, this]
      · obtain ⟨d, hd1, hd2, rfl⟩ := edge_of he
        rw [hval _ s (hall d hd1 hd2) hd]
        have : chain.idxOf? d.on = none := idxOf_none (by simpa using hc)
        simp only [valOf, this]
        simp [hv]
      · obtain ⟨d, hd1, hd2, rfl⟩ := edge_of he
        rw [hval _ s (hall d hd1 hd2) hd]
        have : chain.idxOf? d.on = some p := idxOf_some hnd hp
        simp only [valOf, this]
        simp [hv]
    have hclosed : ∀ j o', (l.setIfInBounds i true).getD j false = true → ops[j]? = some o' → ∀ d ∈ o'.after, Region.binds .any d = true → (l.setIfInBounds i true).getD d.on false = true := by
      intro j o' hj ho' d hd hb
      have mono : ∀ k, l.getD k false = true → (l.setIfInBounds i true).getD k false = true := fun k hk => by
        by_cases hik : i = k
        · subst hik; exact hself
        · rw [getD_set_other hik]; exact hk
      by_cases hij : i = j
      · subst hij
        rw [ho] at ho'
        cases ho'
        exact mono _ (hall d hd hb)
      · rw [getD_set_other hij] at hj
        exact mono _ (hcl j o' hj ho' d hd hb)
    have hput : ∀ v s, (∀ j, dstO ops j = some s → (l.setIfInBounds i true).getD j false = false) → (a.put o.dst v).tmps[s]? = a0.tmps[s]? := fun v s hsn => by
      have hsn' : ∀ j, dstO ops j = some s → l.getD j false = false := fun j hj => by
        have h1 := hsn j hj
        by_cases hij : i = j
        · subst hij; rw [hself] at h1; cases h1
        · rwa [getD_set_other hij] at h1
      cases hd : o.dst with
      | none => simp only [Act.put]; exact hnot s hsn'
      | some t =>
        have : dstO ops i = some t := by unfold dstO; rw [ho]; exact hd
        have hts : t ≠ s := fun e => by
          have h1 := hsn i (by rw [this, e])
          rw [hself] at h1; cases h1
        simp only [Act.put]
        rw [Array.getElem?_setIfInBounds_ne hts]
        exact hnot s hsn'
    have hputd : ∀ v, (a.put o.dst v).defers = a0.defers ∧ (a.put o.dst v).tmps.size = a0.tmps.size := fun v => by
      cases hd : o.dst with
      | none => exact ⟨hdf, hsz⟩
      | some t => exact ⟨hdf, by simpa [Act.put] using hsz⟩
    have hputv : ∀ us' v, valOf chain pv us' i = v → (∀ j, l.getD j false = true → valOf chain pv us' j = valOf chain pv us j) → ∀ j s, (l.setIfInBounds i true).getD j false = true → dstO ops j = some s → (a.put o.dst v).tmps[s]? = some (valOf chain pv us' j) := by
      intro us' v hv hsame j s hj hd
      by_cases hij : i = j
      · subst hij
        have hod : o.dst = some s := by unfold dstO at hd; rw [ho] at hd; exact hd
        rw [hod, hv]
        have := dst_lt hdst hd
        simp [Act.put, hsz, this]
      · rw [getD_set_other hij] at hj
        rw [hsame j hj]
        cases hod : o.dst with
        | none => simp only [Act.put]; exact hval j s hj hd
        | some t =>
          have h1 : dstO ops i = some t := by unfold dstO; rw [ho]; exact hod
          have hts : t ≠ s := fun e => hij (dst_inj hdst h1 (by rw [hd, e]))
          simp only [Act.put]
          rw [Array.getElem?_setIfInBounds_ne hts]
          exact hval j s hj hd
    by_cases hc : i ∈ chain
    · obtain ⟨p, hp⟩ := List.getElem?_of_mem hc
      have hle : us.length ≤ p := by
        rcases Nat.lt_or_ge p us.length with h | h
        · have := (hcu p i hp).2 h
          rw [hnl] at this
          cases this
        · exact h
      have hge : p ≤ us.length := by
        cases p with
        | zero => omega
        | succ q =>
          have hpl := (List.getElem?_eq_some_iff.1 hp).1
          have hq : chain[q]? = some chain[q] := List.getElem?_eq_getElem (by omega)
          have := (hcu q _ hq).1 (chain_done hcl hall hch hq hp ho)
          omega
      have hpl := (List.getElem?_eq_some_iff.1 hp).1
      refine hlink p i o hp ho a w us K (by omega) hJ hfind (fun v w' hJ' => ?_)
      apply hK
      have hlen : (us ++ [v]).length = us.length + 1 := by simp
      refine ⟨by simpa using hs, (hputd v).1, (hputd v).2, hput v, hclosed, us ++ [v], by rw [hlen]; omega, fun q c hq => ?_, hputv _ v ?_ ?_, hJ'⟩
      · rw [hlen]
        by_cases hic : i = c
        · subst hic
          have : q = p := by
            have h1 := idxOf_some hnd hq
            have h2 := idxOf_some hnd hp
            rw [h1] at h2
            exact Option.some.inj h2
          rw [hself]
          simp
          omega
        · rw [getD_set_other hic, hcu q c hq]
          have : q ≠ p := fun e => hic (by rw [e, hp] at hq; exact Option.some.inj hq)
          omega
      · simp only [valOf, idxOf_some hnd hp]
        rw [List.getD_eq_getElem?_getD, List.getElem?_append_right (by omega)]
        have : p - us.length = 0 := by omega
        simp [this]
      · intro j hj
        unfold valOf
        cases hx : chain.idxOf? j with
        | none => rfl
        | some q =>
          have hq : chain[q]? = some j := by
            obtain ⟨h1, h2, _⟩ := List.idxOf?_eq_some_iff.1 hx
            rw [List.getElem?_eq_getElem h1, h2]
          have := (hcu q j hq).1 hj
          simp only [List.getD_eq_getElem?_getD]
          rw [List.getElem?_append_left this]
    · refine hpure i o ho (by simpa using hc) a w us K hJ hfind (fun p c oc hp hoc he => ?_) ?_
      · rcases Nat.lt_or_ge p us.length with h | h
        · obtain ⟨d, hd1, hd2, hd3⟩ := edge_of he
          have := hcl c oc ((hcu p c hp).2 h) hoc d hd1 hd2
          rw [hd3, hnl] at this
          cases this
        · exact h
      · apply hK
        refine ⟨by simpa using hs, (hputd _).1, (hputd _).2, hput _, hclosed, us, hul, fun q c hq => ?_, hputv us _ ?_ (fun _ _ => rfl), hJ⟩
        · have : i ≠ c := fun e => hc (by rw [e]; exact List.mem_of_getElem? hq)
          rw [getD_set_other this]
          exact hcu q c hq
        · simp only [valOf, idxOf_none hc]
  · rintro l a w ⟨hs, hdf, hsz, hnot, hcl, us, hul, hcu, hval, hJ⟩ hall
    have hlen : us.length = chain.length := by
      rcases Nat.lt_or_ge us.length chain.length with h | h
      · have hq : chain[us.length]? = some chain[us.length] := List.getElem?_eq_getElem h
        have := (hcu _ _ hq).1 (hall _ (chainB_lt hch hq))
        omega
      · omega
    have hfr := frame_eq (a0 := a0.tmps) (frameL ops chain pv us) a.tmps a0.tmps hsz (fun p hp => by
      obtain ⟨j, hj, hv⟩ := List.mem_filterMap.1 hp
      rw [Option.map_eq_some_iff] at hv
      obtain ⟨s, hd, rfl⟩ := hv
      exact hval j s (hall j (by simpa using hj)) hd) (fun s hsn => hnot s fun j hj => absurd (by
        have hjl : j < ops.size := by
          unfold dstO at hj
          rw [Option.bind_eq_some_iff] at hj
          obtain ⟨o', h1, _⟩ := hj
          exact (Array.getElem?_eq_some_iff.1 h1).1
        rw [List.mem_map]
        exact ⟨(s, valOf chain pv us j), List.mem_filterMap.2 ⟨j, by simpa using hjl, by rw [hj]; rfl⟩, rfl⟩) hsn)
    have : a = { a0 with tmps := (frameL ops chain pv us).foldl (fun t p => t.setIfInBounds p.1 p.2) a0.tmps } := by
      obtain ⟨at_, ad⟩ := a
      simp only at hfr hdf
      rw [hfr, hdf]
    rw [this]
    exact hQ us w hlen hJ
  · refine ⟨by simp, rfl, rfl, fun _ _ => rfl, fun j o h => ?_, [], by simp, fun i c hc => ?_, fun j s h => ?_, h0⟩
    · simp [Array.getElem?_replicate] at h
      split at h <;> simp at h
    · have : (Array.replicate ops.size false).getD c false = false := by
        simp [Array.getElem?_replicate]
        split <;> rfl
      rw [this]
      simp
    · simp [Array.getElem?_replicate] at h
      split at h <;> simp at h
def depsOf (o : Oper) : List Nat := (o.after.toList.filter (fun d => Region.binds .any d)).map (·.on)
theorem edge_deps {o : Oper} {j : Nat} (h : (depsOf o).contains j = true) : edgeB o j = true := by
  have h' : j ∈ depsOf o := by simpa using h
  obtain ⟨d, hd, rfl⟩ := List.mem_map.1 h'
  rw [List.mem_filter] at hd
  exact List.any_eq_true.2 ⟨d, hd.1, by simp [hd.2]⟩
/-- what an operation finds in the frame, by the region's tables: the slots that it writes, who waits for whom -/
structure Sees (slots : List (Option Nat)) (deps : List (List Nat)) (chain : List Nat) (pv us : List Value) (a0 a : Act) (i : Nat) : Prop where
  old : ∀ (s : Nat) (v : Value), slots.contains (some s) = false → a0.eval (.tmp s) = v → a.eval (.tmp s) = v
  pure : ∀ (j s : Nat) (v : Value), (deps.getD i []).contains j = true → slots[j]? = some (some s) → chain.contains j = false → pv[j]? = some v → a.eval (.tmp s) = v
  link : ∀ (p j s : Nat) (v : Value), chain[p]? = some j → (deps.getD i []).contains j = true → slots[j]? = some (some s) → us[p]? = some v → a.eval (.tmp s) = v
  did : ∀ (p j : Nat), chain[p]? = some j → (deps.getD i []).contains j = true → p < us.length
  olds : ∀ (p j s : Nat) (v : Value), chain[p]? = some j → slots[j]? = some (some s) → us.length ≤ p → a0.eval (.tmp s) = v → a.eval (.tmp s) = v
theorem Finds.sees {ops : Array Oper} {chain : List Nat} {pv us : List Value} {a0 a : Act} {o : Oper} {slots : List (Option Nat)} {deps : List (List Nat)} {i : Nat} (hs : ops.toList.map (·.dst) = slots) (hd : ops.toList.map depsOf = deps) (ho : ops[i]? = some o) (h : Finds ops chain pv us a0 a o) : Sees slots deps chain pv us a0 a i := by
  have hdo : deps.getD i [] = depsOf o := by
    rw [← hd, List.getD_eq_getElem?_getD, List.getElem?_map]
    have : ops.toList[i]? = some o := by simpa using ho
    rw [this]; rfl
  have hsl : ∀ j s, slots[j]? = some (some s) → dstO ops j = some s := fun j s h => by
    rw [← hs, List.getElem?_map, Option.map_eq_some_iff] at h
    obtain ⟨o', h1, h2⟩ := h
    have h1' : ops[j]? = some o' := by simpa using h1
    simp [dstO, h1', h2]
  refine ⟨fun s v hc hv => (h.old s ?_).trans hv, fun j s v he hj hc hv => eval_of (h.pure j s v (edge_deps (by rw [← hdo]; exact he)) (hsl j s hj) hc hv), fun p j s v hp he hj hv => eval_of (h.link p j s v hp (edge_deps (by rw [← hdo]; exact he)) (hsl j s hj) hv), fun p j hp he => h.did p j hp (edge_deps (by rw [← hdo]; exact he)), fun p j s v hp hj hl0 hv => by rw [← hv]; simp [Act.eval, h.olds p j s hp (hsl j s hj) hl0]⟩
  have hn : some s ∉ ops.toList.map (·.dst) := by rw [hs]; simpa using hc
  refine List.all_eq_true.2 fun o' ho' => ?_
  have : o'.dst ≠ some s := fun e => hn (List.mem_map.2 ⟨o', ho', e⟩)
  simp [this]
theorem wp_region_links {P : Program} {ops : Array Oper} {Q : Exit → Act → World → Prop} {id : Nat} {a0 : Act} {W : World} (slots : List (Option Nat)) (deps : List (List Nat)) (chain : List Nat) (pv : List Value) (J : List Value → World → Prop) (hm : P.follows .mixedOrders = true) (hdst : dstOK2 ops a0.tmps.size = true) (hord : ordB 0 ops.toList = true)
    (hs : ops.toList.map (·.dst) = slots) (hd : ops.toList.map depsOf = deps) (hg : ops.toList.all (fun o => o.guard.isNone) = true) (hch : chainB ops chain = true) (hnd : chain.Nodup) (h0 : J [] W.drew)
    (hpure : ∀ (i : Nat) (o : Oper), ops[i]? = some o → chain.contains i = false → ∀ (a : Act) (w : World) (us : List Value) (K : Act → World → Prop), J us w → Sees slots deps chain pv us a0 a i → (∀ p c, chain[p]? = some c → (deps.getD c []).contains i = true → us.length ≤ p) → K (a.put o.dst (pv.getD i undef)) w → Oper.wp P o a w K Q)
    (hlink : ∀ (p c : Nat) (o : Oper), chain[p]? = some c → ops[c]? = some o → ∀ (a : Act) (w : World) (us : List Value) (K : Act → World → Prop), us.length = p → J us w → Sees slots deps chain pv us a0 a c → (∀ v w', J (us ++ [v]) w' → K (a.put o.dst v) w') → Oper.wp P o a w K Q)
    (hQ : ∀ us w, us.length = chain.length → J us w → Q .normal { a0 with tmps := (frameL ops chain pv us).foldl (fun t p => t.setIfInBounds p.1 p.2) a0.tmps } w) :
    (Code.region id ops true).wp P Q a0 W := by
  have hgd : ∀ (i : Nat) (o : Oper), ops[i]? = some o → o.guard = none := fun i o ho => by
    have := List.all_eq_true.1 hg o (by simpa using Array.mem_of_getElem? ho)
    simpa using this
  refine wp_region_chain chain pv J hm hdst hord hch hnd h0 (fun i o ho hc a w us K hJ hF hl hk => ?_) (fun p c o hp ho a w us K hl hJ hF hk => ?_) hQ
  · refine want_none (hgd i o ho) (hpure i o ho hc a w us K hJ (hF.sees hs hd ho) (fun p c hp he => ?_) hk)
    have hcl := chainB_lt hch hp
    have hoc : ops[c]? = some ops[c] := by simp [hcl]
    refine hl p c _ hp hoc (edge_deps ?_)
    have : deps.getD c [] = depsOf ops[c] := by
      rw [← hd, List.getD_eq_getElem?_getD, List.getElem?_map]
      have : ops.toList[c]? = some ops[c] := by simp [hcl]
      rw [this]; rfl
    rw [← this]
    exact he
  · exact want_none (hgd c o ho) (hlink p c o hp ho a w us K hl hJ (hF.sees hs hd ho) hk)
end Go.Proofs.YtablhmobekmflaaDoor

/-! At -/
namespace Go.Proofs.YtablhmobekmflaaDoor
set_option linter.unusedVariables false
set_option linter.unusedSimpArgs false
open Go.RowKit
/-- the first cut that covers a record frame -/
def findC (l : List Cut) (t : Int) : Option Cut := l.find? fun c => decide (c.inn ≤ t ∧ t < c.out)
/-- what a record frame plays -/
def atE (e : Edl) (t : Int) : ByteArray × Int × Bool :=
  if edlErr e = 0 then (match findC e.cuts t with | some c => (c.reel, srcAt c t, true) | none => (⟨#[]⟩, 0, false)) else (⟨#[]⟩, 0, false)
def atVal (r : ByteArray × Int × Bool) : Value := .tuple #[.agg #[.string r.1, .int .i64 r.2.1], .bool r.2.2]
theorem findC_drop {l : List Cut} {k : Nat} {r : Cut} {t : Int} (hr : l[k]? = some r) : findC (l.drop k) t = if r.inn ≤ t ∧ t < r.out then some r else findC (l.drop (k + 1)) t := by
  obtain ⟨hk, hk2⟩ := List.getElem?_eq_some_iff.1 hr
  rw [List.drop_eq_getElem_cons hk, hk2]
  unfold findC
  rw [List.find?_cons]
  by_cases h : r.inn ≤ t ∧ t < r.out
  · rw [if_pos h, decide_eq_true h]
  · rw [if_neg h, decide_eq_false h]
theorem atE_err {e : Edl} {t : Int} (h : edlErr e ≠ 0) : atE e t = (⟨#[]⟩, 0, false) := by unfold atE; rw [if_neg h]
theorem atE_some {e : Edl} {t : Int} {c : Cut} (h : edlErr e = 0) (hf : findC e.cuts t = some c) : atE e t = (c.reel, srcAt c t, true) := by unfold atE; rw [if_pos h, hf]
theorem atE_none {e : Edl} {t : Int} (h : edlErr e = 0) (hf : findC e.cuts t = none) : atE e t = (⟨#[]⟩, 0, false) := by unfold atE; rw [if_pos h, hf]
def At45Rel (w1 : World) (n : Nat) (l : List Cut) (t : Int) (i : Value) (wr : World) : Prop := ∃ k : Nat, k ≤ n ∧ i = .int .i64 k ∧ Ext w1 wr ∧ findC l t = findC (l.drop k) t
def AtSt (W : World) (g : Nat) (T : TypeId) (v : Value) (cs : Array Value) : List Value → World → Prop
  | [], w => Ext W w
  | [u], w => u = v ∧ Ext W w
  | [_, u], w => u = .agg cs ∧ Ext W w
  | [_, _, _], w => ∃ w5, Ext W w5 ∧ w = putB w5 g T cs
  | [_, _, _, b], w => b = .bool true ∧ ∃ w5, Ext W w5 ∧ w = putB w5 g T cs
  | _, _ => False
theorem AtSt.ext {W : World} {g : Nat} {T : TypeId} {v : Value} {cs : Array Value} : ∀ {us : List Value} {w : World}, AtSt W g T v cs us w → us.length ≤ 1 → Ext W w
  | [], _, h, _ => h
  | [_], _, h, _ => h.2
  | _ :: _ :: _, _, _, h => by simp at h
theorem size_src : (Tryd.prog.info? 31).map (·.size) = some 2 := by kernel_rfl
/-- what a list of cuts must have to be looked at -/
structure EdlOk (e : Edl) : Prop where
  r0 : 0 ≤ e.rate
  r1 : e.rate ≤ 255
  title : e.title.size ≤ 140737488351232
  fits : ∀ c ∈ e.cuts, c.Fits
set_option maxRecDepth 100000 in
set_option maxHeartbeats 4000000 in
theorem At_any (e : Edl) (A : Option Addr) (n c : Nat) (t : Int) (w : World) (hE : Env w) (hl : CutsAt w A n e.cuts) (hn : n ≤ 1000000) (hok : EdlOk e) :
    Calls Tryd.prog 7 #[.agg (e.cells A n c), .int .i64 t] w fun en w' => en = .returned (atVal (atE e t)) ∧ Ext w w' := by
  have HL := Lib.hid hl
  have HLn := Lib.hid hl.len
  have HX := Lib.hid (((Ext.refl w).alloc (.cells (e.cells A n c) 28)).alloc (.cells #[.string ⟨#[]⟩, .int .i64 0] 31))
  have HB0 := Lib.hid ((Blk.new w 28 (e.cells A n c)).alloc (.cells #[.string ⟨#[]⟩, .int .i64 0] 31))
  have HB1 := Lib.hid (Blk.new' (w := w.alloc (.cells (e.cells A n c) 28)) (g := w.heap.size + 1) (t := 31) (cs := #[.string ⟨#[]⟩, .int .i64 0]) (by simp))
  have HCk := Lib.hid (fun w' (hx : Ext w w') => Check_any e A n c w' (hE.ext hx) (hl.ext hx) hn hok.r0 hok.r1 hok.title hok.fits)
  have HSn := Lib.hid (fun (h : edlErr e = 0) (c : Cut) (hc : c ∈ e.cuts) => edl_sane h hc)
  have HE := Lib.hid (@atE_err e t)
  have HSm := Lib.hid (fun c => @atE_some e t c)
  have HNn := Lib.hid (@atE_none e t)
  clear hl hok hE
  unfold Edl.cells at *
  go_enter Tryd.func7, Tryd.ntmps7
  go_wp2_with (refine wpList_loadB rfl 28 (.tmp 2) rfl w.heap.size 28 _ _ (by exact rfl) (by exact HB0.out) Tryd.underlying28 rfl (by exact size_list) ?_)
  refine (HCk.out _ HX.out).mono ?_
  rintro en w1 ⟨rfl, hx1⟩
  have HX1 := Lib.hid (HX.out.trans hx1)
  have HBl := Lib.hid (HB0.out.ext hx1)
  have HBr := Lib.hid (HB1.out.ext hx1)
  clear hx1 HB0 HB1 HX
  by_cases hee : edlErr e = 0
  case neg =>
    have hne : (edlErr e != 0) = true := by simpa using hee
    have HEr := Lib.hid hee
    clear hee
    go_wp2_with (refine wpList_storeB rfl 31 (.tmp 4) (.tmp 11) rfl (w.heap.size + 1) 31 _ _ (by exact rfl) (by exact rfl) (by exact HBr.out) (by exact rfl) (by exact size_src) (by simp [Value.oneCell']) ?_)
    refine bodyPost_ret (v := atVal (⟨#[]⟩, 0, false)) ?_ rfl ⟨by rw [HE.out HEr.out], ?_⟩
    · exact results_B_tmp (P := Tryd.prog) Tryd.results7 (g := w.heap.size + 1) rfl (by exact HBr.out.put _) Tryd.underlying31 rfl size_src
    · exact HX1.out.put (by omega) _ _
  case pos =>
    rw [hee]
    have HZ := Lib.hid hee
    clear hee
    have hcell1 := fun o => HBl.out.cell o
    go_wp2_with fail
    clear hcell1
    go_loopw [15] (fun i wr => At45Rel w1 n e.cuts t i wr) (fun i _ => n - (intOf i).toNat)
    case atStart => exact ⟨0, Nat.zero_le _, rfl, Ext.refl _, by simp⟩
    case round =>
      obtain ⟨k, hk, rfl, hx, hP⟩ := hrel
      have HXr := Lib.hid (HX1.out.trans hx)
      have HBrr := Lib.hid (HBr.out.ext hx)
      by_cases hlt : k < n
      · obtain ⟨b, off, r, rfl, hr, c0, c1, c2, c3, c4, c5, c6⟩ := (HL.out.ext HXr.out).at7 hlt
        have HS := Lib.hid (findC_drop (t := t) hr)
        have HP := Lib.hid hP
        have hsn := HSn.out HZ.out r (List.mem_of_getElem? hr)
        have HSane := Lib.hid hsn
        clear hr hP hsn
        obtain ⟨num, rl, src, inn, out, nn, dd⟩ := r
        have HBc := Lib.hid (Blk.new wr 52 (Cut.cells ⟨num, rl, src, inn, out, nn, dd⟩))
        have HXc := Lib.hid ((Ext.refl wr).alloc (.cells (Cut.cells ⟨num, rl, src, inn, out, nn, dd⟩) 52))
        unfold Cut.cells at HBc HXc
        dsimp only at *
        by_cases h1 : inn ≤ t
        · by_cases h2 : t < out
          · have HSr := Lib.hid (source_any ⟨num, rl, src, inn, out, nn, dd⟩ t · HSane.out h1 h2)
            have HF := Lib.hid (HSm.out _ HZ.out (HP.out.trans (by rw [HS.out, if_pos ⟨h1, h2⟩])))
            unfold Cut.cells at HSr
            dsimp only at *
            have HBrc := Lib.hid (HBrr.out.ext HXc.out)
            have hgr := HBr.out.lt
            have hgs := HX1.out.size
            go_wp2_with fail
            have HXW := Lib.hid (HXr.out.trans HXc.out)
            generalize wr.alloc (.cells #[.int .i64 num, .string rl, .int .i64 src, .int .i64 inn, .int .i64 out, .int .i64 nn, .int .i64 dd] 52) = W at *
            generalize wr.heap.size = gc at *
            clear c0 c1 c2 c3 c4 c5 c6
            refine wp_region_links [some 31, some 32, some 33, some 34, some 35, some 36, none, some 5] [[], [0], [], [], [2, 3], [1, 4], [5, 4, 0, 1, 2, 3, 4, 5], [6, 0, 1, 2, 3, 4, 5, 6]] [4, 5, 6, 7] [.pointer (some ⟨gc, 1, none⟩), .string rl, .agg #[.int .i64 num, .string rl, .int .i64 src, .int .i64 inn, .int .i64 out, .int .i64 nn, .int .i64 dd], .int .i64 t, undef, undef, undef, undef] (AtSt W (w.heap.size + 1) 31 (.int .i64 (srcAt ⟨num, rl, src, inn, out, nn, dd⟩ t)) #[.string rl, .int .i64 (srcAt ⟨num, rl, src, inn, out, nn, dd⟩ t)]) (by kernel_rfl) (by kernel_rfl) (by kernel_rfl) (by kernel_rfl) (by kernel_rfl) (by kernel_rfl) (by kernel_rfl) (by decide) ?_ ?_ ?_ ?_
            · exact (Ext.refl W).drew
            · intro i o ho hc a w' us K' hJ hF hlim hk
              match i, ho with
              | 0, ho =>
                simp only [List.getElem?_toArray, List.getElem?_cons_zero, List.getElem?_cons_succ, Option.some.injEq] at ho
                subst ho
                have e7 := hF.old 7 (.pointer (some ⟨gc, 0, none⟩)) rfl rfl
                simp only [Act.eval] at e7
                clear hF hlim hJ
                go_simp
                exact hk
              | 1, ho =>
                simp only [List.getElem?_toArray, List.getElem?_cons_zero, List.getElem?_cons_succ, Option.some.injEq] at ho
                subst ho
                have e31 := hF.pure 0 31 (.pointer (some ⟨gc, 1, none⟩)) rfl rfl rfl rfl
                have hcl : w'.cell? ⟨gc, 1, none⟩ = some (.string rl) := (HBc.out.ext (hJ.ext (hlim 1 5 rfl rfl))).cell 1
                simp only [Act.eval] at e31
                clear hF hlim hJ
                go_simp
                exact hk
              | 2, ho =>
                simp only [List.getElem?_toArray, List.getElem?_cons_zero, List.getElem?_cons_succ, Option.some.injEq] at ho
                subst ho
                have e7 := hF.old 7 (.pointer (some ⟨gc, 0, none⟩)) rfl rfl
                exact wp_loadB 52 (.tmp 7) rfl gc 52 _ _ e7 (HBc.out.ext (hJ.ext (by have := hlim 0 4 rfl rfl; omega))) Tryd.underlying52 rfl (by exact size_cut) hk
              | 3, ho =>
                simp only [List.getElem?_toArray, List.getElem?_cons_zero, List.getElem?_cons_succ, Option.some.injEq] at ho
                subst ho
                have e1 := hF.old 1 (.int .i64 t) rfl rfl
                simp only [Act.eval] at e1
                clear hF hlim hJ
                go_simp
                exact hk
              | 4, ho => simp at hc
              | 5, ho => simp at hc
              | 6, ho => simp at hc
              | 7, ho => simp at hc
              | i + 8, ho => simp at ho
            · intro p c' o hp ho a w' us K' hl hJ hF hk
              match p, hp with
              | 0, hp =>
                obtain rfl : 4 = c' := by simpa using hp
                simp only [List.getElem?_toArray, List.getElem?_cons_zero, List.getElem?_cons_succ, Option.some.injEq] at ho
                subst ho
                obtain rfl : us = [] := List.eq_nil_of_length_eq_zero hl
                have e33 := hF.pure 2 33 (.agg #[.int .i64 num, .string rl, .int .i64 src, .int .i64 inn, .int .i64 out, .int .i64 nn, .int .i64 dd]) rfl rfl rfl rfl
                have e34 := hF.pure 3 34 (.int .i64 t) rfl rfl rfl rfl
                exact wp_call2 rfl e33 e34 Tryd.call15 (HSr.out _) (fun w5 hx5 => hk _ w5 ⟨rfl, Ext.trans hJ hx5⟩)
              | 1, hp =>
                obtain rfl : 5 = c' := by simpa using hp
                simp only [List.getElem?_toArray, List.getElem?_cons_zero, List.getElem?_cons_succ, Option.some.injEq] at ho
                subst ho
                obtain ⟨u0, rfl⟩ := list_1 hl
                have e32 := hF.pure 1 32 (.string rl) rfl rfl rfl rfl
                have e35 := hF.link 0 4 35 _ rfl rfl rfl rfl
                obtain ⟨rfl, hx⟩ := hJ
                have HK := Lib.hid (hk (.agg #[.string rl, .int .i64 (srcAt ⟨num, rl, src, inn, out, nn, dd⟩ t)]) w' ⟨rfl, hx⟩)
                have f32 : a.tmps[32]?.getD undef = .string rl := by simpa [Act.eval] using e32
                have f35 : a.tmps[35]?.getD undef = .int .i64 (srcAt ⟨num, rl, src, inn, out, nn, dd⟩ t) := by simpa [Act.eval] using e35
                clear hF hk
                go_simp
                exact HK.out
              | 2, hp =>
                obtain rfl : 6 = c' := by simpa using hp
                simp only [List.getElem?_toArray, List.getElem?_cons_zero, List.getElem?_cons_succ, Option.some.injEq] at ho
                subst ho
                obtain ⟨u0, u1, rfl⟩ := list_2 hl
                have e4 := hF.old 4 (.pointer (some ⟨w.heap.size + 1, 0, none⟩)) rfl rfl
                have e36 := hF.link 1 5 36 _ rfl rfl rfl rfl
                obtain ⟨rfl, hx⟩ := hJ
                exact wp_storeB 31 (.tmp 4) (.tmp 36) rfl (w.heap.size + 1) 31 _ _ e4 e36 (by exact size_src) (by simp [Value.oneCell']) (HBrc.out.ext hx) rfl (hk _ _ ⟨w', hx, rfl⟩)
              | 3, hp =>
                obtain rfl : 7 = c' := by simpa using hp
                simp only [List.getElem?_toArray, List.getElem?_cons_zero, List.getElem?_cons_succ, Option.some.injEq] at ho
                subst ho
                obtain ⟨u0, u1, u2, rfl⟩ := list_3 hl
                exact wp_assign _ rfl (hk _ _ ⟨rfl, hJ⟩)
              | p + 4, hp => simp at hp
            intro us w7 hl hJ
            obtain ⟨u0, u1, u2, u3, rfl⟩ := list_4 hl
            rename_i hK
            refine hK _ _ ?_
            clear hK
            generalize hL : frameL _ _ _ _ = L
            obtain rfl : L = [(31, .pointer (some ⟨gc, 1, none⟩)), (32, .string rl), (33, .agg #[.int .i64 num, .string rl, .int .i64 src, .int .i64 inn, .int .i64 out, .int .i64 nn, .int .i64 dd]), (34, .int .i64 t), (35, u0), (36, u1), (5, u3)] := hL.symm.trans (by kernel_rfl)
            clear hL hl
            simp only [Act.put, List.foldl_cons, List.foldl_nil, List.setIfInBounds_toArray, List.set_cons_zero, List.set_cons_succ]
            obtain ⟨rfl, w5, hx5, rfl⟩ := hJ
            have HB5 := Lib.hid (HBrc.out.ext hx5)
            go_wp2_with fail
            refine bodyPost_ret (v := atVal (rl, srcAt ⟨num, rl, src, inn, out, nn, dd⟩ t, true)) ?_ rfl ⟨by rw [HF.out], ?_⟩
            · exact results_B_tmp (P := Tryd.prog) Tryd.results7 (g := w.heap.size + 1) rfl (by exact HB5.out.put _) Tryd.underlying31 rfl size_src
            · exact (HXW.out.trans hx5).put (by omega) _ _
          · have HF := Lib.hid (HP.out.trans (by rw [HS.out, if_neg (fun h => h2 h.2)] : _ = findC (e.cuts.drop (k + 1)) t))
            go_wp2_with fail
            exact ⟨⟨k + 1, by omega, by go_num, hx.trans HXc.out, HF.out⟩, by simp [intOf]; omega⟩
        · have HF := Lib.hid (HP.out.trans (by rw [HS.out, if_neg (fun h => h1 h.1)] : _ = findC (e.cuts.drop (k + 1)) t))
          go_wp2_with fail
          exact ⟨⟨k + 1, by omega, by go_num, hx.trans HXc.out, HF.out⟩, by simp [intOf]; omega⟩
      · have hkn : k = n := by omega
        subst hkn
        have HF := Lib.hid (HNn.out HZ.out (hP.trans (by rw [List.drop_eq_nil_of_le (by have := HLn.out; omega)]; rfl)))
        clear hP
        go_wp2_with (refine wpList_storeB rfl 31 (.tmp 4) (.tmp 38) rfl (w.heap.size + 1) 31 _ _ (by exact rfl) (by exact rfl) (by exact HBrr.out) (by exact rfl) (by exact size_src) (by simp [Value.oneCell']) ?_)
        refine bodyPost_ret (v := atVal (⟨#[]⟩, 0, false)) ?_ rfl ⟨by rw [HF.out], ?_⟩
        · exact results_B_tmp (P := Tryd.prog) Tryd.results7 (g := w.heap.size + 1) rfl (by exact HBrr.out.put _) Tryd.underlying31 rfl size_src
        · exact HXr.out.put (by omega) _ _
end Go.Proofs.YtablhmobekmflaaDoor

/-! OpenL -/
namespace Go.Proofs.YtablhmobekmflaaDoor
set_option linter.unusedVariables false
set_option linter.unusedSimpArgs false
open Go.RowKit Go.ChangeShapes Go.WideShapes Go.ChangeAt
set_option maxRecDepth 100000
theorem cells_rate : Tryd.prog.cellsOf 22 = 1 := by kernel_rfl
theorem cells_ratio : Tryd.prog.cellsOf 50 = 2 := by kernel_rfl
theorem cells_cut : Tryd.prog.cellsOf 52 = 7 := by kernel_rfl
theorem cells_cuts : Tryd.prog.cellsOf 23 = 1 := by kernel_rfl
theorem cells_list : Tryd.prog.cellsOf 25 = 4 := by kernel_rfl
theorem bytes_cut : Tryd.prog.bytesOf 52 = 64 := by kernel_rfl
theorem open_ratio (W : World) : Opens Tryd.prog W 50 (fun cs (a : Int × Int) => cs = [.int .i64 a.1, .int .i64 a.2] ∧ I64 a.1 ∧ I64 a.2) := by
  intro H enc fuel cs x h hw
  obtain ⟨hl, hf⟩ := Opens.fields Tryd.underlying50 h hw
  rw [cells_ratio] at hl
  obtain ⟨v0, v1, rfl⟩ := list_2 hl
  obtain ⟨a0, h0, s0⟩ := hf 0 _ rfl (Opens.int Tryd.underlying2)
  obtain ⟨a1, h1, s1⟩ := hf 1 _ rfl (Opens.int Tryd.underlying2)
  simp [cells_int64] at h0 h1
  subst h0 h1
  exact ⟨(a0, a1), rfl, bounds_i64 s0, bounds_i64 s1⟩
theorem open_cut7 (W : World) : Opens Tryd.prog W 52 (fun cs (c : Cut) => cs = c.vals ∧ c.Fits) := by
  intro H enc fuel cs x h hw
  obtain ⟨hl, hf⟩ := Opens.fields Tryd.underlying52 h hw
  rw [cells_cut] at hl
  obtain ⟨v0, v1, v2, v3, v4, v5, v6, rfl⟩ := list_7 hl
  obtain ⟨a0, h0, s0⟩ := hf 0 _ rfl (Opens.int Tryd.underlying3)
  obtain ⟨a1, h1, s1⟩ := hf 1 _ rfl (Opens.string Tryd.underlying9)
  obtain ⟨a2, h2, s2⟩ := hf 2 _ rfl (Opens.int Tryd.underlying2)
  obtain ⟨⟨a3, a4⟩, h3, s3, s4⟩ := hf 3 _ rfl (open_span W)
  obtain ⟨⟨a5, a6⟩, h5, s5, s6⟩ := hf 4 _ rfl (open_ratio W)
  simp [cells_int64, cells_int, cells_string, cells_span, cells_ratio] at h0 h1 h2 h3 h5
  obtain ⟨h3, h4⟩ := h3
  obtain ⟨h5, h6⟩ := h5
  subst h0 h1 h2 h3 h4 h5 h6
  exact ⟨⟨a0, a1, a2, a3, a4, a5, a6⟩, rfl, bounds_i64 s0, bounds_i64 s2, s3, s4, s5, s6, s1⟩
theorem mem_cut7 {w : World} {b o : Nat} {c : Cut} (h : Mem (fun cs (c : Cut) => cs = c.vals ∧ c.Fits) w b o c) : Cells Cut.vals w b o c ∧ c.Fits := by
  obtain ⟨cs, h1, rfl, h2⟩ := h
  exact ⟨fun j u hu => h1 j u hu, h2⟩
theorem open_list (W : World) : Opens Tryd.prog W 25 (fun cs (e : Edl) => (∃ A n c, cs = (e.cells A n c).toList ∧ CutsAt W A n e.cuts ∧ n ≤ c ∧ c ≤ maxLen) ∧ EdlOk e) := by
  intro H enc fuel cs x h hw
  obtain ⟨hl, hf⟩ := Opens.fields Tryd.underlying25 h hw
  rw [cells_list] at hl
  obtain ⟨v0, v1, v2, v3, rfl⟩ := list_4 hl
  obtain ⟨a0, h0, s0⟩ := hf 0 _ rfl (Opens.string Tryd.underlying9)
  obtain ⟨a1, h1, s1⟩ := hf 1 _ rfl (Opens.int Tryd.underlying22)
  obtain ⟨a2, h2⟩ := hf 2 _ rfl (Opens.bool Tryd.underlying4)
  obtain ⟨l, h3⟩ := hf 3 _ rfl (R := fun cs (l : List Cut) => (∃ A n c, cs = [.slice A n c] ∧ n ≤ c ∧ c ≤ maxLen ∧ CutsAt W A n l) ∧ ∀ x ∈ l, x.Fits) (fun H enc fuel cs x h hw => by
    obtain ⟨A, n, c, l, rfl, hnc, hcm, hb, hs⟩ := Opens.slice Tryd.underlying23 cells_cut (by decide) bytes_cut (open_cut7 W) h hw
    exact ⟨l, ⟨A, n, c, rfl, hnc, hcm, Sl.change hs fun _ _ _ hm => (mem_cut7 hm).1⟩, hs.all fun _ _ _ hm => (mem_cut7 hm).2⟩)
  simp [cells_string, cells_rate, cells_bool, cells_cuts] at h0 h1 h2 h3
  obtain ⟨⟨A, n, c, h3, hnc, hcm, hr⟩, hfit⟩ := h3
  subst h0 h1 h2 h3
  exact ⟨⟨a0, a1, a2, l⟩, ⟨A, n, c, rfl, hr, hnc, hcm⟩, (bounds_u8 s1).1, (bounds_u8 s1).2, s0, hfit⟩
/-- an argument that is a list of cuts -/
theorem arg_list {H : Type} {enc : TypeId × Value → H} {W : World} {base : Nat} {v : Value} {d : DataW H} {p : List MemPlace} (hv : Value.okWide Tryd.prog W .any base 25 v) (h : DataW.Trod enc Tryd.prog W 0 (fun _ => true) true 25 v d p)
    (hw : ∀ n ∈ d.weights Tryd.prog 25, n ≤ reachBytes) : ∃ e A n c, v = .agg (e.cells A n c) ∧ CutsAt W A n e.cuts ∧ n ≤ c ∧ c ≤ maxLen ∧ EdlOk e := by
  obtain ⟨cs, rfl⟩ := agg_of_cells Tryd.underlying25 hv
  obtain ⟨fuel, h⟩ := h
  obtain ⟨e, ⟨A, n, c, hc, hat, hnc, hcm⟩, hf⟩ := open_list W H enc fuel _ _ h hw
  refine ⟨e, A, n, c, ?_, hat, hnc, hcm, hf⟩
  have : cs = e.cells A n c := Array.toList_inj.1 hc
  rw [this]
/-- an argument that is a number -/
theorem arg_int64 {H : Type} {enc : TypeId × Value → H} {W : World} {base : Nat} {v : Value} {d : DataW H} {p : List MemPlace} (hv : Value.okWide Tryd.prog W .any base 2 v) (h : DataW.Trod enc Tryd.prog W 0 (fun _ => true) true 2 v d p)
    (hw : ∀ n ∈ d.weights Tryd.prog 2, n ≤ reachBytes) : ∃ k : Int, v = .int .i64 k ∧ I64 k := by
  obtain ⟨fuel, h⟩ := h
  obtain ⟨a, ha, hb⟩ := Opens.int Tryd.underlying2 H enc fuel _ _ h hw
  unfold Value.okWide at hv
  rw [Tryd.underlying2] at hv
  cases v with
  | agg cs => exact absurd hv (by unfold Cell.okWide; rw [Tryd.underlying2]; simp [Cell.ok])
  | _ => first | (refine ⟨a, ?_, bounds_i64 hb⟩; exact (List.cons.inj ha).1) | (simp at hv; done)
/-- an argument that is a string -/
theorem arg_string {H : Type} {enc : TypeId × Value → H} {W : World} {base : Nat} {v : Value} {d : DataW H} {p : List MemPlace} (hv : Value.okWide Tryd.prog W .any base 9 v) (h : DataW.Trod enc Tryd.prog W 0 (fun _ => true) true 9 v d p)
    (hw : ∀ n ∈ d.weights Tryd.prog 9, n ≤ reachBytes) : ∃ s : ByteArray, v = .string s ∧ s.size ≤ 140737488351232 := by
  obtain ⟨fuel, h⟩ := h
  obtain ⟨a, ha, hb⟩ := Opens.string Tryd.underlying9 H enc fuel _ _ h hw
  unfold Value.okWide at hv
  rw [Tryd.underlying9] at hv
  cases v with
  | agg cs => exact absurd hv (by unfold Cell.okWide; rw [Tryd.underlying9]; simp [Cell.ok])
  | _ => first | (refine ⟨a, ?_, hb⟩; exact (List.cons.inj ha).1) | (simp at hv; done)
def wlist {H : Type} : DataW H := .agg [.lit (.string []), .lit (.int .u8 0), .lit (.bool false), .nil]
end Go.Proofs.YtablhmobekmflaaDoor
