/- Texts laid together. -/
import Derived.Test.YtbmblnhfmpolbaaGreatDoorTm14
import Derived.Test.YtbmblnhfmpolbaaGreatDoorTm07
import Derived.Test.YtbmblnhfmpolbaaGreatDoorTm06
set_option linter.unusedVariables false
set_option linter.unusedSimpArgs false
namespace Go.Proofs.YtbmblnhfmpolbaaGreatDoor
section
open Go.RowKit
theorem copyCheck_kx (B b : Nat) (bs : List Value) (w : World) (h : Lib.IsBuilder 92 5 B b bs w) :
 Calls Tryz.prog 47 #[.pointer (some ⟨b, 0, none⟩)] w fun e w' => e = .returned (.tuple #[]) ∧ (Lib.BuilderAt 92 5 B b (.pointer (some ⟨b, 0, none⟩)) bs w' ∧ Below B w w' ∧ (∀ T : TypeId, T ≠ 92 → T ≠ 5 → KB T w w')) := by
 rcases h with h | h
 · refine (copyCheck_fresh b w h.cell0 h.shape h.frozen0).mono ?_
   rintro e w' ⟨rfl, rfl⟩
   obtain ⟨-, v, hb, -⟩ := h.2
   exact ⟨rfl, h.used _, (Below.refl B w).setCell (p := ⟨b, 0, none⟩) h.1 _, fun T hT _ => KB.set (T' := 92) ⟨_, h.2.choose_spec.1⟩ hT⟩
 · refine (copyCheck_used b w h.cell0).mono ?_
   rintro e w' ⟨rfl, rfl⟩
   exact ⟨rfl, h, Below.refl B _, fun _ _ _ => KB.refl _⟩
set_option maxHeartbeats 2000000 in
set_option maxRecDepth 100000 in
theorem WriteString_kx (B b : Nat) (bs : List Value) (s : ByteArray) (w : World) (h : Lib.IsBuilder 92 5 B b bs w) (hlen : bs.length + s.size ≤ 140737488355328) (hBw : B ≤ w.heap.size) :
 Calls Tryz.prog 25 #[.pointer (some ⟨b, 0, none⟩), .string s] w fun e w' => e = .returned (.tuple #[.int .i64 s.size, .nilIface]) ∧ (Lib.BuilderAt 92 5 B b (.pointer (some ⟨b, 0, none⟩)) (bs ++ Lib.strCells s) w' ∧ Below B w w' ∧ (∀ T : TypeId, T ≠ 92 → T ≠ 5 → KB T w w')) := by
 obtain ⟨i0, hi, hz0, hz1, hz2⟩ := info_parts info_byte
 go_enter Tryz.func25, Tryz.ntmps25
 go_wp2_with fail
 refine (copyCheck_kx B b bs _ h).mono ?_
 rintro e w1 ⟨rfl, h1, hb1, hk1⟩
 have HK1 := Lib.hid hk1
 clear hk1
 obtain ⟨hB, v, hbk, hown, hne⟩ := h1
 have c0 : w1.cell? ⟨b, 0, none⟩ = some (.pointer (some ⟨b, 0, none⟩)) := by rw [Lib.cell_of_heap hbk]; rfl
 have c1 : w1.cell? ⟨b, 1, none⟩ = some v := by rw [Lib.cell_of_heap hbk]; rfl
 go_wp2_with (at_builtin; refine Lib.wpList_append_own_string _ rfl _ _ 90 9 rfl B 5 i0 Tryz.underlying90 Tryz.underlying9 hi hz0 hz1 hz2 _ _ _ rfl hown s rfl ?c3 ?c4 ?c5 ?_)
 case c3 => unfold maxLen; omega
 case c4 => omega
 case c5 => have := hb1.size; omega
 intro v' w2 hown' hgrow _
 have hlt : b < w1.heap.size := (Array.getElem?_eq_some_iff.1 hbk).1
 have hb2 : w2.heap[b]? = some (.cells #[.pointer (some ⟨b, 0, none⟩), v] 92 (0, 0)) := by
  rw [hgrow.block b hlt (fun e => hne e.symm)]
  exact hbk
 have HK2 : Hid (∀ T : TypeId, T ≠ 5 → KB T w1 w2) := fun T hT => KB.grown hgrow (own_typed hown) hT
 have d0 : w2.cell? ⟨b, 0, none⟩ = some (.pointer (some ⟨b, 0, none⟩)) := by rw [Lib.cell_of_heap hb2]; rfl
 have d1 : w2.cell? ⟨b, 1, none⟩ = some v := by rw [Lib.cell_of_heap hb2]; rfl
 have f1 : w2.frozen? ⟨b, 1, none⟩ = false := Lib.frozen_of_heap hb2 1
 obtain ⟨ao, n', cap, rfl⟩ : ∃ ao n' cap, v' = .slice ao n' cap := by
  rcases hown'.2 with ⟨hv, _⟩ | ⟨g, cap, cur, hv, _⟩
  · exact ⟨_, _, _, hv⟩
  · exact ⟨_, _, _, hv⟩
 go_wp2
 go_ret2
 refine ⟨rfl, ?_, ?_, ?_⟩
 · exact Lib.BuilderAt.put (T := 92) (e := 5) hB hb2 (bs' := bs ++ Lib.strCells s) (by simpa [Lib.strCells_length] using hown') (by decide)
 · exact (hb1.grown hgrow (by have := hb1.size; omega) (fun k hk => (hown.lt k hk).1)).setCell (p := ⟨b, 1, none⟩) hB _
 · exact fun T hT hT' => ((HK1.out T hT hT').trans (HK2.out T hT')).trans (KB.set (T' := 92) ⟨_, hb2⟩ hT)
theorem blk_kb {w w1 : World} {g : Nat} {T : TypeId} {cs : Array Value} (h : Blk w g T cs) (k : KB T w w1) : Blk w1 g T cs := k g cs h
structure PrS (W w : World) (st : List ByteArray) (v : Value) (out : List UInt8) : Prop where
 ext : Ext W w
 bld : Lib.IsBuilder 92 5 W.heap.size W.heap.size (Lib.byteCells out) w
 own : StrsOwn w W.heap.size v st
 big : W.heap.size < w.heap.size
section
variable {W w w1 : World} {st : List ByteArray} {v : Value} {out : List UInt8}
theorem PrS.go (h : PrS W w st v out) (k : Ext w w1) : PrS W w1 st v out := ⟨h.ext.trans k, isB_ext h.bld k, own_ext h.own k, by have := h.big; have := k.size; omega⟩
theorem bytes_len (l : List UInt8) : (Lib.byteCells l).length = l.length := by simp [Lib.byteCells]
theorem bytes_app (l : List UInt8) (s : ByteArray) : Lib.byteCells l ++ Lib.strCells s = Lib.byteCells (l ++ s.data.toList) := by simp [Lib.byteCells, Lib.strCells]
theorem PrS.write (h : PrS W w st v out) (s : ByteArray) (hl : out.length + s.size ≤ 140737488355328) :
 Calls Tryz.prog 25 #[.pointer (some ⟨W.heap.size, 0, none⟩), .string s] w fun e w' => e = .returned (.tuple #[.int .i64 s.size, .nilIface]) ∧ PrS W w' st v (out ++ s.data.toList) ∧ (∀ T : TypeId, T ≠ 92 → T ≠ 5 → KB T w w') ∧ w.heap.size ≤ w'.heap.size := by
 have hb := h.big
 refine (WriteString_kx W.heap.size W.heap.size _ s w h.bld (by rw [bytes_len]; exact hl) (by omega)).mono ?_
 rintro e w' ⟨rfl, hb2, hx2, hk⟩
 have := hx2.size
 exact ⟨rfl, ⟨h.ext.below hx2 (Nat.le_refl _), by rw [← bytes_app]; exact .inr hb2, own_kbX h.own (hk _ (by decide) (by decide)), by omega⟩, hk, by omega⟩
theorem isB_grown {T e : TypeId} {B b : Nat} {bs : List Value} {row : Option Nat} (h : Lib.IsBuilder T e B b bs w) (hg : w.grownBy w1 row) (hr : ∀ q, row = some q → Typed w 9 q) (h1 : T ≠ 9) (h2 : e ≠ 9) : Lib.IsBuilder T e B b bs w1 := by
 have key : ∀ p, Lib.BuilderAt T e B b p bs w → Lib.BuilderAt T e B b p bs w1 := fun p ⟨hB, v, hb, hown, hne⟩ =>
  ⟨hB, v, KB.grown hg hr h1 b _ hb, own_kbX hown (KB.grown hg hr h2), hne⟩
 exact h.elim (fun x => .inl (key _ x)) (fun x => .inr (key _ x))
theorem PrS.push {v' : Value} {n : ByteArray} (h : PrS W w st v out) (hg : w.grownBy w1 v.ownBlock) (ho : w1.ownsRow W.heap.size 9 1 v' (st.length + 1) (st.flatMap strVs ++ strVs n)) : PrS W w1 (st ++ [n]) v' out := by
 refine ⟨h.ext.grown hg (fun k hk => (own_lt h.own k hk)), isB_grown h.bld hg (own_typed h.own) (by decide) (by decide), ?_, by have := h.big; have := hg.size; omega⟩
 unfold StrsOwn
 rw [List.length_append, List.flatMap_append]
 simpa using ho
theorem PrS.pop {A : Option Addr} {c : Nat} {s : List ByteArray} {n : ByteArray} (h : PrS W w (s ++ [n]) (.slice A (s ++ [n]).length c) out) : PrS W w s (.slice A s.length c) out := by
 refine ⟨h.ext, h.bld, ?_, h.big⟩
 have := own_take h.own s.length (by simp) (by simp)
 unfold StrsOwn
 rw [List.flatMap_append, List.take_left' (by clear h this; induction s with | nil => rfl | cons a s ih => rw [List.flatMap_cons, List.length_append, ih]; simp [strVs]; omega)] at this
 exact this
theorem PrS.at_ (h : PrS W w st v out) : ∃ A c, v = .slice A st.length c ∧ st.length ≤ c ∧ Sl w 1 (Cells strVs) A st.length st := by
 obtain ⟨A, c, rfl, h1, -, h2, -⟩ := own_sl (f := strVs) (size := 1) (fun _ => rfl) rfl h.own
 exact ⟨A, c, rfl, h1, h2⟩
end
theorem fins_bytes (s : List ByteArray) (n : ByteArray) (d : Nat) (h : d ≤ s.length) (R : List Tk) : tkBytes (((s ++ [n]).drop d).reverse.map Tk.fin ++ R) = ([60, 47] ++ n.data.toList ++ [62]) ++ tkBytes ((s.drop d).reverse.map Tk.fin ++ R) := by
 rw [List.drop_append_of_le_length h, List.reverse_append]
 rfl
end
section
open Go.RowKit
def reachD (deps : List (List Nat)) : Nat → Nat → Nat → Bool
 | 0, c, i => (deps.getD c []).contains i
 | f + 1, c, i => (deps.getD c []).contains i || (deps.getD c []).any fun j => reachD deps f j i
theorem reachD_closed {deps : List (List Nat)} {D : Nat → Prop} {i : Nat} (hD : ∀ j k, D j → (deps.getD j []).contains k = true → D k) : ∀ (f c : Nat), D c → reachD deps f c i = true → D i
 | 0, c, hc, h => hD c i hc h
 | f + 1, c, hc, h => by
  unfold reachD at h
  rcases Bool.or_eq_true_iff.1 h with h | h
  · exact hD c i hc h
  · obtain ⟨j, hj, h1⟩ := List.any_eq_true.1 h
    exact reachD_closed hD f j (hD c j hc (by simpa using hj)) h1
theorem wp_region_chainR {P : Program} {ops : Array Oper} {Q : Exit → Act → World → Prop} {id : Nat} {a0 : Act} {W : World} (chain : List Nat) (pv : List Value) (J : List Value → World → Prop) (hm : P.follows .mixedOrders = true) (hdst : dstOK2 ops a0.tmps.size = true) (hord : ordB 0 ops.toList = true)
 (hch : chainB ops chain = true) (hnd : chain.Nodup) (h0 : J [] W.drew)
 (hpure : ∀ (i : Nat) (o : Oper), ops[i]? = some o → chain.contains i = false → ∀ (a : Act) (w : World) (us : List Value) (K : Act → World → Prop), J us w → Finds ops chain pv us a0 a o → (∀ p c, chain[p]? = some c → (∀ D : Nat → Prop, (∀ j oj, D j → ops[j]? = some oj → ∀ d ∈ oj.after, Region.binds .any d = true → D d.on) → D c → D i) → us.length ≤ p) → K (a.put o.dst (pv.getD i undef)) w →
  if Region.wanted o (yielded ops a.tmps) = true then Oper.wp P o a w K Q else K (a.put o.dst undef) w)
 (hlink : ∀ (p c : Nat) (o : Oper), chain[p]? = some c → ops[c]? = some o → ∀ (a : Act) (w : World) (us : List Value) (K : Act → World → Prop), us.length = p → J us w → Finds ops chain pv us a0 a o → (∀ v w', J (us ++ [v]) w' → K (a.put o.dst v) w') →
  if Region.wanted o (yielded ops a.tmps) = true then Oper.wp P o a w K Q else K (a.put o.dst undef) w)
 (hQ : ∀ us w, us.length = chain.length → J us w → Q .normal { a0 with tmps := (frameL ops chain pv us).foldl (fun t p => t.setIfInBounds p.1 p.2) a0.tmps } w) :
 (Code.region id ops true).wp P Q a0 W := by
 refine wp_region_any hm ?_
 refine wpAny_inv (ChInv ops chain pv a0 J) (fun l a w h => h.1) ?_ (hordB hord) ?_ _ _ _ _ (by simp) ?_
 · intro l a w hI i o ho hl hall K hK
   obtain ⟨hs, hdf, hsz, hnot, hcl, us, hul, hcu, hval, hJ⟩ := hI
   have hi : i < ops.size := (Array.getElem?_eq_some_iff.1 ho).1
   have hnl := not_listed hl
   have hself : (l.setIfInBounds i true).getD i false = true := getD_set_self (by omega)
   have hfind : Finds ops chain pv us a0 a o := by
    refine ⟨fun s hsn => ?_, fun j s v he hd hc hv => ?_, fun p j s v hp he hd hv => ?_, fun p j hp he => by obtain ⟨d, hd1, hd2, rfl⟩ := edge_of he; exact (hcu p _ hp).1 (hall d hd1 hd2), fun p j s hp hj hl0 => hnot s fun j' hj' => by
     have e : j' = j := dst_inj hdst hj' hj
     subst e
     cases hx : l.getD j' false
     · rfl
     · exact absurd ((hcu p _ hp).1 hx) (by omega)⟩
    · have := hnot s (fun j hj => by
       unfold dstO at hj
       rw [Option.bind_eq_some_iff] at hj
       obtain ⟨o', h1, h2⟩ := hj
       have h3 := List.all_eq_true.1 hsn o' (by simpa using Array.mem_of_getElem? h1)
       rw [h2] at h3
       simp at h3)
      simp [Act.eval, this]
    · obtain ⟨d, hd1, hd2, rfl⟩ := edge_of he
      rw [hval _ s (hall d hd1 hd2) hd]
      have : chain.idxOf? d.on = none := idxOf_none (by simpa using hc)
      simp only [valOf, this]
      simp [hv]
    · obtain ⟨d, hd1, hd2, rfl⟩ := edge_of he
      rw [hval _ s (hall d hd1 hd2) hd]
      have : chain.idxOf? d.on = some p := idxOf_some hnd hp
      simp only [valOf, this]
      simp [hv]
   have hclosed : ∀ j o', (l.setIfInBounds i true).getD j false = true → ops[j]? = some o' → ∀ d ∈ o'.after, Region.binds .any d = true → (l.setIfInBounds i true).getD d.on false = true := by
    intro j o' hj ho' d hd hb
    have mono : ∀ k, l.getD k false = true → (l.setIfInBounds i true).getD k false = true := fun k hk => by
     by_cases hik : i = k
     · subst hik; exact hself
     · rw [getD_set_other hik]; exact hk
    by_cases hij : i = j
    · subst hij
      rw [ho] at ho'
      cases ho'
      exact mono _ (hall d hd hb)
    · rw [getD_set_other hij] at hj
      exact mono _ (hcl j o' hj ho' d hd hb)
   have hput : ∀ v s, (∀ j, dstO ops j = some s → (l.setIfInBounds i true).getD j false = false) → (a.put o.dst v).tmps[s]? = a0.tmps[s]? := fun v s hsn => by
    have hsn' : ∀ j, dstO ops j = some s → l.getD j false = false := fun j hj => by
     have h1 := hsn j hj
     by_cases hij : i = j
     · subst hij; rw [hself] at h1; cases h1
     · rwa [getD_set_other hij] at h1
    cases hd : o.dst with
    | none => simp only [Act.put]; exact hnot s hsn'
    | some t =>
     have : dstO ops i = some t := by unfold dstO; rw [ho]; exact hd
     have hts : t ≠ s := fun e => by
      have h1 := hsn i (by rw [this, e])
      rw [hself] at h1; cases h1
     simp only [Act.put]
     rw [Array.getElem?_setIfInBounds_ne hts]
     exact hnot s hsn'
   have hputd : ∀ v, (a.put o.dst v).defers = a0.defers ∧ (a.put o.dst v).tmps.size = a0.tmps.size := fun v => by
    cases hd : o.dst with
    | none => exact ⟨hdf, hsz⟩
    | some t => exact ⟨hdf, by simpa [Act.put] using hsz⟩
   have hputv : ∀ us' v, valOf chain pv us' i = v → (∀ j, l.getD j false = true → valOf chain pv us' j = valOf chain pv us j) → ∀ j s, (l.setIfInBounds i true).getD j false = true → dstO ops j = some s → (a.put o.dst v).tmps[s]? = some (valOf chain pv us' j) := by
    intro us' v hv hsame j s hj hd
    by_cases hij : i = j
    · subst hij
      have hod : o.dst = some s := by unfold dstO at hd; rw [ho] at hd; exact hd
      rw [hod, hv]
      have := dst_lt hdst hd
      simp [Act.put, hsz, this]
    · rw [getD_set_other hij] at hj
      rw [hsame j hj]
      cases hod : o.dst with
      | none => simp only [Act.put]; exact hval j s hj hd
      | some t =>
       have h1 : dstO ops i = some t := by unfold dstO; rw [ho]; exact hod
       have hts : t ≠ s := fun e => hij (dst_inj hdst h1 (by rw [hd, e]))
       simp only [Act.put]
       rw [Array.getElem?_setIfInBounds_ne hts]
       exact hval j s hj hd
   by_cases hc : i ∈ chain
   · obtain ⟨p, hp⟩ := List.getElem?_of_mem hc
     have hle : us.length ≤ p := by
      rcases Nat.lt_or_ge p us.length with h | h
      · have := (hcu p i hp).2 h
        rw [hnl] at this
        cases this
      · exact h
     have hge : p ≤ us.length := by
      cases p with
      | zero => omega
      | succ q =>
       have hpl := (List.getElem?_eq_some_iff.1 hp).1
       have hq : chain[q]? = some chain[q] := List.getElem?_eq_getElem (by omega)
       have := (hcu q _ hq).1 (chain_done hcl hall hch hq hp ho)
       omega
     have hpl := (List.getElem?_eq_some_iff.1 hp).1
     refine hlink p i o hp ho a w us K (by omega) hJ hfind (fun v w' hJ' => ?_)
     apply hK
     have hlen : (us ++ [v]).length = us.length + 1 := by simp
     refine ⟨by simpa using hs, (hputd v).1, (hputd v).2, hput v, hclosed, us ++ [v], by rw [hlen]; omega, fun q c hq => ?_, hputv _ v ?_ ?_, hJ'⟩
     · rw [hlen]
       by_cases hic : i = c
       · subst hic
         have : q = p := by
          have h1 := idxOf_some hnd hq
          have h2 := idxOf_some hnd hp
          rw [h1] at h2
          exact Option.some.inj h2
         rw [hself]
         simp
         omega
       · rw [getD_set_other hic, hcu q c hq]
         have : q ≠ p := fun e => hic (by rw [e, hp] at hq; exact Option.some.inj hq)
         omega
     · simp only [valOf, idxOf_some hnd hp]
       rw [List.getD_eq_getElem?_getD, List.getElem?_append_right (by omega)]
       have : p - us.length = 0 := by omega
       simp [this]
     · intro j hj
       unfold valOf
       cases hx : chain.idxOf? j with
       | none => rfl
       | some q =>
        have hq : chain[q]? = some j := by
         obtain ⟨h1, h2, _⟩ := List.idxOf?_eq_some_iff.1 hx
         rw [List.getElem?_eq_getElem h1, h2]
        have := (hcu q j hq).1 hj
        simp only [List.getD_eq_getElem?_getD]
        rw [List.getElem?_append_left this]
   · refine hpure i o ho (by simpa using hc) a w us K hJ hfind (fun p c hp he => ?_) ?_
     · rcases Nat.lt_or_ge p us.length with h | h
       · have := he (fun k => l.getD k false = true) hcl ((hcu p c hp).2 h)
         rw [hnl] at this
         cases this
       · exact h
     · apply hK
       refine ⟨by simpa using hs, (hputd _).1, (hputd _).2, hput _, hclosed, us, hul, fun q c hq => ?_, hputv us _ ?_ (fun _ _ => rfl), hJ⟩
       · have : i ≠ c := fun e => hc (by rw [e]; exact List.mem_of_getElem? hq)
         rw [getD_set_other this]
         exact hcu q c hq
       · simp only [valOf, idxOf_none hc]
 · rintro l a w ⟨hs, hdf, hsz, hnot, hcl, us, hul, hcu, hval, hJ⟩ hall
   have hlen : us.length = chain.length := by
    rcases Nat.lt_or_ge us.length chain.length with h | h
    · have hq : chain[us.length]? = some chain[us.length] := List.getElem?_eq_getElem h
      have := (hcu _ _ hq).1 (hall _ (chainB_lt hch hq))
      omega
    · omega
   have hfr := frame_eq (a0 := a0.tmps) (frameL ops chain pv us) a.tmps a0.tmps hsz (fun p hp => by
    obtain ⟨j, hj, hv⟩ := List.mem_filterMap.1 hp
    rw [Option.map_eq_some_iff] at hv
    obtain ⟨s, hd, rfl⟩ := hv
    exact hval j s (hall j (by simpa using hj)) hd) (fun s hsn => hnot s fun j hj => absurd (by
     have hjl : j < ops.size := by
      unfold dstO at hj
      rw [Option.bind_eq_some_iff] at hj
      obtain ⟨o', h1, _⟩ := hj
      exact (Array.getElem?_eq_some_iff.1 h1).1
     rw [List.mem_map]
     exact ⟨(s, valOf chain pv us j), List.mem_filterMap.2 ⟨j, by simpa using hjl, by rw [hj]; rfl⟩, rfl⟩) hsn)
   have : a = { a0 with tmps := (frameL ops chain pv us).foldl (fun t p => t.setIfInBounds p.1 p.2) a0.tmps } := by
    obtain ⟨at_, ad⟩ := a
    simp only at hfr hdf
    rw [hfr, hdf]
   rw [this]
   exact hQ us w hlen hJ
 · refine ⟨by simp, rfl, rfl, fun _ _ => rfl, fun j o h => ?_, [], by simp, fun i c hc => ?_, fun j s h => ?_, h0⟩
   · simp [Array.getElem?_replicate] at h
     split at h <;> simp at h
   · have : (Array.replicate ops.size false).getD c false = false := by
      simp [Array.getElem?_replicate]
      split <;> rfl
     rw [this]
     simp
   · simp [Array.getElem?_replicate] at h
     split at h <;> simp at h
theorem wp_region_linksR {P : Program} {ops : Array Oper} {Q : Exit → Act → World → Prop} {id : Nat} {a0 : Act} {W : World} (slots : List (Option Nat)) (deps : List (List Nat)) (chain : List Nat) (pv : List Value) (J : List Value → World → Prop) (hm : P.follows .mixedOrders = true) (hdst : dstOK2 ops a0.tmps.size = true) (hord : ordB 0 ops.toList = true)
 (hs : ops.toList.map (·.dst) = slots) (hd : ops.toList.map depsOf = deps) (hg : ops.toList.all (fun o => o.guard.isNone) = true) (hch : chainB ops chain = true) (hnd : chain.Nodup) (h0 : J [] W.drew)
 (hpure : ∀ (i : Nat) (o : Oper), ops[i]? = some o → chain.contains i = false → ∀ (a : Act) (w : World) (us : List Value) (K : Act → World → Prop), J us w → Sees slots deps chain pv us a0 a i → (∀ p c, chain[p]? = some c → reachD deps 9 c i = true → us.length ≤ p) → K (a.put o.dst (pv.getD i undef)) w → Oper.wp P o a w K Q)
 (hlink : ∀ (p c : Nat) (o : Oper), chain[p]? = some c → ops[c]? = some o → ∀ (a : Act) (w : World) (us : List Value) (K : Act → World → Prop), us.length = p → J us w → Sees slots deps chain pv us a0 a c → (∀ v w', J (us ++ [v]) w' → K (a.put o.dst v) w') → Oper.wp P o a w K Q)
 (hQ : ∀ us w, us.length = chain.length → J us w → Q .normal { a0 with tmps := (frameL ops chain pv us).foldl (fun t p => t.setIfInBounds p.1 p.2) a0.tmps } w) :
 (Code.region id ops true).wp P Q a0 W := by
 have hgd : ∀ (i : Nat) (o : Oper), ops[i]? = some o → o.guard = none := fun i o ho => by
  have := List.all_eq_true.1 hg o (by simpa using Array.mem_of_getElem? ho)
  simpa using this
 refine wp_region_chainR chain pv J hm hdst hord hch hnd h0 (fun i o ho hc a w us K hJ hF hl hk => ?_) (fun p c o hp ho a w us K hl hJ hF hk => ?_) hQ
 · refine want_none (hgd i o ho) (hpure i o ho hc a w us K hJ (hF.sees hs hd ho) (fun p c hp he => hl p c hp fun D hD hc => reachD_closed (fun j k hj hk => ?_) 9 c hc he) hk)
   rw [← hd, List.getD_eq_getElem?_getD, List.getElem?_map] at hk
   cases hoj : ops.toList[j]? with
   | none => rw [hoj] at hk; simp at hk
   | some oj =>
    rw [hoj] at hk
    obtain ⟨d, hd1, hd2, hd3⟩ := edge_of (edge_deps hk)
    rw [← hd3]
    exact hD j oj hj (by simpa using hoj) d hd1 hd2
 · exact want_none (hgd c o ho) (hlink p c o hp ho a w us K hl hJ (hF.sees hs hd ho) hk)
end
section
open Go.RowKit
def PnRel (l : List Nd) (W : World) (v u : Value) (wr : World) : Prop :=
 ∃ (k : Nat) (st : List ByteArray) (out : List UInt8), k ≤ l.length ∧ v = .int .i64 k ∧ PrS W wr st u out ∧ out ++ tkBytes (toks st (l.drop k)) = printL l ∧ st.length ≤ k
def PnIn (W W0 : World) (P R : List UInt8) (k d g : Nat) (nd : Array Value) (tk : List ByteArray) (u : Value) (wr : World) : Prop :=
 ∃ (st : List ByteArray) (out : List UInt8), PrS W wr st u out ∧ Blk wr g 87 nd ∧ out ++ (tkBytes ((st.drop d).reverse.map Tk.fin) ++ R) = P ∧ st.take d = tk ∧ st.length ≤ k ∧ W0.heap.size ≤ wr.heap.size
def sLen : Value → Nat
 | .slice _ n _ => n
 | _ => 0
theorem sl_str {w : World} {A : Option Addr} {n : Nat} {l : List ByteArray} (h : Sl w 1 (Cells strVs) A n l) {i : Nat} (hi : i < n) : ∃ b off s, A = some ⟨b, off, none⟩ ∧ l[i]? = some s ∧ w.cell? ⟨b, off + i, none⟩ = some (.string s) := by
 obtain ⟨b, off, s, hA, hs, hC⟩ := h.at_ hi
 exact ⟨b, off, s, hA, hs, by simpa using hC 0 _ rfl⟩
def PnJ (W0 W : World) (E : ByteArray) (st : List ByteArray) (v : Value) (out : List UInt8) (s : ByteArray) : List Value → World → Prop
 | [], w => Ext W0 w
 | [u0], w => u0 = .string E ∧ Ext W0 w
 | [_, _], w => PrS W w st v (out ++ s.data.toList) ∧ (∀ T : TypeId, T ≠ 92 → T ≠ 5 → KB T W0 w) ∧ W0.heap.size ≤ w.heap.size
 | _, _ => False
theorem PnJ.early {W0 W w : World} {E : ByteArray} {st : List ByteArray} {v : Value} {out : List UInt8} {s : ByteArray} {us : List Value} (h : PnJ W0 W E st v out s us w) (hl : us.length ≤ 1) : Ext W0 w := by
 match us, h, hl with
 | [], h, _ => exact h
 | [u0], h, _ => exact h.2
theorem PnJ.first {W0 W w : World} {E : ByteArray} {st : List ByteArray} {v x : Value} {out : List UInt8} {s : ByteArray} {us : List Value} (h : PnJ W0 W E st v out s us w) (hv : us[0]? = some x) (hl : us.length ≤ 1) : x = .string E := by
 match us, h, hl with
 | [], h, _ => simp at hv
 | [u0], h, _ => simp at hv; rw [← hv]; exact h.1
def PnAt (W W0 : World) (P R : List UInt8) (k g : Nat) (nd : Array Value) (al : List (ByteArray × ByteArray)) (st : List ByteArray) (u v : Value) (wr : World) : Prop :=
 ∃ (j : Nat) (out : List UInt8), j ≤ al.length ∧ v = .int .i64 j ∧ PrS W wr st u out ∧ Blk wr g 87 nd ∧ out ++ ((al.drop j).flatMap attrL ++ R) = P ∧ W0.heap.size ≤ wr.heap.size
def PnEnd (W : World) (P : List UInt8) (st : List ByteArray) (u v : Value) (wr : World) : Prop :=
 ∃ (i : Nat) (out : List UInt8), i ≤ st.length ∧ v = .int .i64 ((i : Int) - 1) ∧ PrS W wr st u out ∧ out ++ tkBytes ((st.take i).reverse.map Tk.fin) = P
theorem toks_cons (st : List ByteArray) (x : Nd) (l : List Nd) : tkBytes (toks st (x :: l)) = tkBytes ((st.drop x.depth).reverse.map Tk.fin) ++ ((ndTok x (moreB x l)).bytes ++ tkBytes (toks (st.take x.depth ++ openB x (moreB x l)) l)) := by
 rw [toks]
 simp [tkBytes]
theorem take_ge {s : List ByteArray} {d : Nat} (h : ¬ d < s.length) : s.take d = s ∧ s.drop d = [] := ⟨List.take_of_length_le (by omega), List.drop_eq_nil_of_le (by omega)⟩
theorem snoc_of {s : List ByteArray} (h : 0 < s.length) : ∃ t n, s = t ++ [n] := by
 rcases List.eq_nil_or_concat s with h' | ⟨t, n, h'⟩
 · subst h'; simp at h
 · exact ⟨t, n, by simpa using h'⟩
theorem wp_concatX {P : Program} {o : Oper} {a : Act} {w : World} {K : Act → World → Prop} {Q : Exit → Act → World → Prop} {t t' : TypeId} {x y : Operand} {s u : ByteArray} (ho : o.op = .binOp .add t x y t') (hx : a.eval x = .string s) (hy : a.eval y = .string u) (hl : ¬ (9223372036854775807 : Int) < (s.size : Int) + u.size) (h : K (a.put o.dst (.string (s ++ u))) w) : o.wp P a w K Q := by
 unfold Oper.wp execOp
 simp only [ho, hx, hy]
 simp [eqGuard, binOp, Op.stringOp]
 rw [if_neg hl]
 exact h
theorem wp_call2X {P : Program} {o : Oper} {a : Act} {w : World} {K : Act → World → Prop} {Q : Exit → Act → World → Prop} {f : FuncId} {x y : Operand} {ts : Array TypeId} {v u : Value} (ho : o.op = .call { callee := .value (.func f), args := #[x, y], argTypes := ts }) (hx : a.eval x = v) (hy : a.eval y = u)
 (hent : ∀ args w, (callFunc f args).run P w = .ok (.enter f args) w) {R : Ending → World → Prop} (hc : Calls P f #[v, u] w R) (h : ∀ en w', R en w' → ∃ r, en = .returned r ∧ K (a.put o.dst r) w') : o.wp P a w K Q := by
 have h2 : Calls P f #[v, u] w (fun
  | .returned u, w'' => K (a.put o.dst u) w''
  | .panicked chain, w'' => Q (.panic chain) a w''
  | .outgrown, _ => LetsOut Q) := hc.mono fun en w' hr => by
  obtain ⟨u, rfl, hk⟩ := h en w' hr
  exact hk
 unfold Oper.wp execOp
 simp only [ho]
 have hev : a.eval (.func f) = .func (.func f) #[] #[] := rfl
 simp [resolve, invoke, hev, hx, hy, hent, Sem.run_bind, Deferred.ofValue]
 exact h2
set_option maxHeartbeats 8000000 in
set_option maxRecDepth 100000 in
theorem Print_ok (A : Option Addr) (n c : Nat) (l : List Nd) (w : World) (hat : NodesAt w A n l) (hg : GoodL l) (hsm : ∀ x ∈ l, NdSm x) (hE : EntW w) (hV : Env w) (hbig : (printL l).length ≤ 1099511627776) :
 Calls Tryz.prog 9 #[.slice A n c] w fun e w' => e = .returned (.tuple (if (printL l).length ≤ 262144 then #[.string ⟨(printL l).toArray⟩, .int .i64 0] else #[.string ⟨#[]⟩, .int .i64 9])) ∧ Ext w w' := by
 have HEs := Lib.hid (fun s w' (hx : Ext w w') hs => Escape_any s w' (hE.ext hx) (hV.ext hx) hs)
 have HCk := Lib.hid (XCheck_ok A n c l w hat hg hsm hV)
 have HAt := Lib.hid hat
 have HOk := Lib.hid (fun x hx => hg.from'.ok x hx)
 have HSm := Lib.hid hsm
 have hln : l.length = n := hat.len
 have hn : n ≤ 8192 := by rw [← hln]; exact hg.few
 obtain ⟨P, hP⟩ : ∃ P, P = printL l := ⟨_, rfl⟩
 rw [← hP] at hbig ⊢
 have HP := Lib.hid hP
 have HLn := Lib.hid hln
 clear hat hg hsm hE hV hP hln
 go_enter Tryz.func9, Tryz.ntmps9
 go_wp2_with fail
 refine HCk.out.mono ?_
 rintro e W ⟨rfl, hxw⟩
 have HXw := Lib.hid hxw
 clear hxw
 go_wp2_with fail
 go_loopw [19, 6] (fun v u wr => PnRel l W v u wr) (fun v _ _ => n - (intOf v).toNat)
 case atStart => exact ⟨0, [], [], Nat.zero_le _, rfl, ⟨(Ext.refl W).alloc _, Lib.fresh_isBuilder _ _ W, StrsOwn.nil _ _, by simp⟩, rfl, Nat.le_refl _⟩
 case round =>
  obtain ⟨k, st, out, hk, rfl, hps, heq, hsl⟩ := hrel
  have HPs := Lib.hid hps
  rw [HLn.out] at hk
  clear hps
  by_cases hlt : k < n
  · obtain ⟨b, off, x, rfl, hx, A1, n1, c1, d10, d11, d12, d13, hnc, hA1⟩ := HAt.out.at' hlt
    have c10 := (HXw.out.trans HPs.out.ext).cell d10
    have c11 := (HXw.out.trans HPs.out.ext).cell d11
    have c12 := (HXw.out.trans HPs.out.ext).cell d12
    have c13 := (HXw.out.trans HPs.out.ext).cell d13
    clear d10 d11 d12 d13
    have hok := HOk.out x (List.mem_of_getElem? hx)
    have hsm := HSm.out x (List.mem_of_getElem? hx)
    have hdp := hok.deep
    rw [drop_at l k x hx, toks_cons] at heq
    have HNx : Hid (∀ y, l[k + 1]? = some y → moreB x (l.drop (k + 1)) = decide (x.depth < y.depth)) := fun y hy => by
     rw [drop_at l (k + 1) y hy]; rfl
    have HNo : Hid (n ≤ k + 1 → moreB x (l.drop (k + 1)) = false) := fun h => by
     have h1 : l.drop (k + 1) = [] := List.drop_eq_nil_of_le (by rw [HLn.out]; exact h)
     rw [h1]; rfl
    obtain ⟨m, hm⟩ : ∃ m, m = moreB x (l.drop (k + 1)) := ⟨_, rfl⟩
    rw [← hm] at heq HNx HNo
    clear hm
    have HOx := Lib.hid hok
    have HSx := Lib.hid hsm
    have HA1 := Lib.hid hA1
    have hl1 := hA1.len
    obtain ⟨xnm, xtx, xat, xdp⟩ := x
    dsimp only at *
    have HBb := Lib.hid (Blk.new wr 87 #[.string xnm, .string xtx, .slice A1 n1 c1, .int .i64 xdp])
    have HXb := Lib.hid ((Ext.refl wr).alloc (.cells #[.string xnm, .string xtx, .slice A1 n1 c1, .int .i64 xdp] 87))
    have HX1 := Lib.hid (HPs.out.ext.trans HXb.out)
    obtain ⟨tk, htq⟩ : ∃ tk, tk = st.take xdp := ⟨_, rfl⟩
    rw [← htq] at heq
    have HEq := Lib.hid heq
    have HTq := Lib.hid htq
    have htl : tk.length ≤ k := by rw [htq, List.length_take]; omega
    clear heq hok hsm hA1 hx htq
    go_wp2_with fail
    obtain ⟨W9, hW9⟩ : ∃ W9, W9 = wr.alloc (.cells #[.string xnm, .string xtx, .slice A1 n1 c1, .int .i64 xdp] 87) := ⟨_, rfl⟩
    rw [← hW9] at HBb HXb HX1 ⊢
    have HZ9 : Hid (wr.heap.size < W9.heap.size) := by show _ < _; rw [hW9]; simp
    clear hW9
    obtain ⟨g, hgq⟩ : ∃ g, g = wr.heap.size := ⟨_, rfl⟩
    rw [← hgq] at HBb ⊢
    clear c10 c11 c12 c13 hgq
    go_loopw [6] (fun u wr2 => PnIn W W9 P ((ndTok ⟨xnm, xtx, xat, xdp⟩ m).bytes ++ tkBytes (toks (tk ++ openB ⟨xnm, xtx, xat, xdp⟩ m) (l.drop (k + 1)))) k xdp g #[.string xnm, .string xtx, .slice A1 n1 c1, .int .i64 xdp] tk u wr2) (fun u _ => sLen u)
    case atStart => exact ⟨st, out, HPs.out.go HXb.out, HBb.out, HEq.out.trans HP.out.symm, HTq.out.symm, hsl, Nat.le_refl _⟩
    case round =>
     obtain ⟨st2, out2, hps2, hbk2, heq2, htk2, hsl2, hzz⟩ := hrel
     obtain ⟨A2, c2, rfl, hc2, hS2⟩ := hps2.at_
     have hcb := fun o => hbk2.cell o
     have HPs2 := Lib.hid hps2
     have HBk2 := Lib.hid hbk2
     by_cases hgt : xdp < st2.length
     · obtain ⟨s, nm, rfl⟩ := snoc_of (s := st2) (by omega)
       obtain ⟨b2, off2, s2, rfl, hs2, hcs⟩ := sl_str hS2 (i := s.length) (by simp)
       simp only [List.length_append, List.length_cons, List.length_nil] at hgt hcs hsl2 hc2
       rw [List.getElem?_append_right (Nat.le_refl _)] at hs2
       simp only [Nat.sub_self, List.getElem?_cons_zero, Option.some.injEq] at hs2
       subst hs2
       have hd1 := fins_bytes s nm xdp (by omega) []
       simp only [List.append_nil] at hd1
       rw [hd1] at heq2
       have hsz : (⟨#[60, 47]⟩ ++ nm ++ ⟨#[62]⟩ : ByteArray).data.toList = [60, 47] ++ nm.data.toList ++ [62] := by simp [ByteArray.data_append]
       have hsn : (⟨#[60, 47]⟩ ++ nm ++ ⟨#[62]⟩ : ByteArray).size = nm.size + 3 := by
        rw [← size_toList, hsz]; simp [size_toList]
       have hbd : out2.length + (nm.size + 3) ≤ 1099511627776 := by
        have := congrArg List.length heq2
        simp only [List.length_append, List.length_cons, List.length_nil, size_toList] at this
        omega
       have HWr := Lib.hid (hps2.write (⟨#[60, 47]⟩ ++ nm ++ ⟨#[62]⟩) (by rw [hsn]; omega))
       have HEq2 := Lib.hid heq2
       have HSz := Lib.hid hsz
       have HTk := Lib.hid htk2
       clear hd1 heq2 hsz hps2 hbk2 hS2 htk2
       have hs1 : ((s.length + 1 : Nat) : Int) - 1 = (s.length : Int) := by omega
       simp only [List.length_append, List.length_cons, List.length_nil, Nat.zero_add]
       go_wp2_with fail
       refine HWr.out.mono ?_
       rintro e w3 ⟨rfl, hp3, hk3, hz3⟩
       have HP3 := Lib.hid hp3.pop
       have HB3 := Lib.hid (blk_kb HBk2.out (hk3 _ (by decide) (by decide)))
       clear hp3 hk3 hcb
       have hcb := fun o => HB3.out.cell o
       go_wp2_with fail
       exact ⟨⟨s, _, HP3.out, HB3.out, by rw [HSz.out]; simpa only [List.append_assoc] using HEq2.out, by have := HTk.out; rwa [List.take_append_of_le_length (by omega)] at this, by omega, by omega⟩, by simp only [sLen]; omega⟩
     · obtain ⟨htk3, hdr3⟩ := take_ge hgt
       rw [hdr3] at heq2
       rw [htk3] at htk2
       have hdq : decide (xdp < st2.length) = false := decide_eq_false hgt
       clear HTq
       subst htk2
       rw [show tkBytes (([] : List ByteArray).reverse.map Tk.fin) = [] from rfl, List.nil_append] at heq2
       have HEq2 := Lib.hid heq2
       clear heq2 htk3 hdr3 hps2 hbk2
       by_cases hz : xnm.size = 0
       · obtain rfl := str_no hz
         obtain ⟨hta, hts, htv, -⟩ := HOx.out.tx rfl
         dsimp only at hta hts htv
         have HEe := Lib.hid (HEs.out xtx _ (HXw.out.trans HPs2.out.ext) HSx.out.1)
         have hbd : out2.length + (escS xtx).size ≤ 1099511627776 := by
          have := congrArg List.length HEq2.out
          rw [show (ndTok ⟨⟨#[]⟩, xtx, xat, xdp⟩ m).bytes = (escS xtx).data.toList from rfl] at this
          simp only [List.length_append, size_toList] at this
          omega
         clear hta hts htv
         go_wp2_with fail
         refine HEe.out.mono ?_
         rintro e w3 ⟨rfl, hx3⟩
         have HPs3 := Lib.hid (HPs2.out.go hx3)
         clear hx3 hcb
         go_wp2_with fail
         refine (HPs3.out.write (escS xtx) (by omega)).mono ?_
         rintro e w4 ⟨rfl, hp4, -, -⟩
         have HPs4 := Lib.hid hp4
         clear hp4
         go_wp2_with fail
         exact ⟨⟨k + 1, st2, out2 ++ (escS xtx).data.toList, by rw [HLn.out]; omega, by go_num, HPs4.out, by
          have := HEq2.out
          rw [show (ndTok ⟨⟨#[]⟩, xtx, xat, xdp⟩ m).bytes = (escS xtx).data.toList from rfl, show openB ⟨⟨#[]⟩, xtx, xat, xdp⟩ m = [] from rfl, List.append_nil] at this
          rw [← HP.out, ← this, List.append_assoc], by omega⟩, by simp only [intOf]; omega⟩
       · have hz2 := str_ne2 hz
         have hz3 := str_ne hz
         obtain ⟨hel, htx⟩ := HOx.out.el hz
         dsimp only at hel htx
         have htb : (ndTok ⟨xnm, xtx, xat, xdp⟩ m).bytes = [60] ++ (xnm.data.toList ++ (xat.flatMap attrL ++ if m then [62] else [47, 62])) := by
          unfold ndTok
          rw [if_neg hz]
          cases m <;> rfl
         rw [htb] at HEq2
         have hsz : (⟨#[60]⟩ ++ xnm : ByteArray).data.toList = [60] ++ xnm.data.toList := by simp [ByteArray.data_append]
         have hsn : (⟨#[60]⟩ ++ xnm : ByteArray).size = xnm.size + 1 := by
          rw [ByteArray.size_append]; exact Nat.add_comm _ _
         have hbd : out2.length + (xnm.size + 1) ≤ 1099511627776 := by
          have := congrArg List.length HEq2.out
          simp only [List.length_append, List.length_cons, List.length_nil, size_toList] at this
          omega
         have HWr := Lib.hid (HPs2.out.write (⟨#[60]⟩ ++ xnm) (by rw [hsn]; omega))
         have hn16 : n1 ≤ 16 := by rw [← hl1]; exact hel.few
         have HEl := Lib.hid hel
         have HSz := Lib.hid hsz
         clear hel htb hsz
         go_wp2_with fail
         refine HWr.out.mono ?_
         rintro e w3 ⟨rfl, hp3, hk3, hz3'⟩
         have HPs3 := Lib.hid hp3
         have HB3 := Lib.hid (blk_kb HBk2.out (hk3 _ (by decide) (by decide)))
         clear hp3 hk3 hcb
         have hcb := fun o => HB3.out.cell o
         go_wp2_with fail
         have HAx := Lib.hid (fun w' (hx : Ext W w') => HA1.out.ext (HXw.out.trans hx))
         clear hcb
         go_loopw [57] (fun v wr4 => PnAt W W9 P ((if m then [62] else [47, 62]) ++ tkBytes (toks (st2 ++ openB ⟨xnm, xtx, xat, xdp⟩ m) (l.drop (k + 1)))) k g #[.string xnm, .string xtx, .slice A1 n1 c1, .int .i64 xdp] xat st2 (.slice A2 st2.length c2) v wr4) (fun v _ => n1 - (intOf v).toNat)
         case atStart => exact ⟨0, _, Nat.zero_le _, rfl, HPs3.out, HB3.out, by rw [HSz.out]; simpa only [List.append_assoc, List.drop_zero] using HEq2.out, by omega⟩
         case round =>
          obtain ⟨j, out4, hj, rfl, hps4, hbk4, heq4, hz4⟩ := hrel
          have HPs4 := Lib.hid hps4
          have HBk4 := Lib.hid hbk4
          rw [hl1] at hj
          by_cases hjl : j < n1
          · obtain ⟨ga, offa, aa, rfl, ha, ca0, ca1⟩ := attr_at (HAx.out _ HPs4.out.ext) hjl
            have hsa := HSx.out.2 aa (List.mem_of_getElem? ha)
            have hex := escS_size aa.2
            have hn1 := xnm_len (HEl.out.each aa (List.mem_of_getElem? ha)).1
            have HEe := Lib.hid (fun w' (hx : Ext wr w') => HEs.out aa.2 w' ((HXw.out.trans HPs4.out.ext).trans hx) hsa)
            have hdrp : (xat.drop j).flatMap attrL = attrL aa ++ (xat.drop (j + 1)).flatMap attrL := by rw [drop_at xat j aa ha, List.flatMap_cons]
            rw [hdrp] at heq4
            obtain ⟨s, hs⟩ : ∃ s : ByteArray, s = ⟨#[32]⟩ ++ aa.1 ++ ⟨#[61, 34]⟩ ++ escS aa.2 ++ ⟨#[34]⟩ := ⟨_, rfl⟩
            have hsl4 : s.data.toList = attrL aa := by rw [hs]; simp [ByteArray.data_append, attrL, escS]
            have hss : s.size = (attrL aa).length := by rw [← size_toList, hsl4]
            have hbd4 : out4.length + s.size ≤ 1099511627776 := by
             have := congrArg List.length heq4
             simp only [List.length_append] at this
             omega
            have HEq4 := Lib.hid heq4
            have HS := Lib.hid hs
            have HSl := Lib.hid hsl4
            have HBa := Lib.hid (Blk.new wr 69 #[.string aa.1, .string aa.2])
            have HXa := Lib.hid ((Ext.refl wr).alloc (.cells #[.string aa.1, .string aa.2] 69))
            clear heq4 hs hsl4 hss hps4 hbk4 hdrp ha
            go_wp2_with fail
            obtain ⟨W5, hW5⟩ : ∃ W5, W5 = wr.alloc (.cells #[.string aa.1, .string aa.2] 69) := ⟨_, rfl⟩
            rw [← hW5] at HBa HXa ⊢
            have HZ5 : Hid (wr.heap.size ≤ W5.heap.size) := HXa.out.size
            clear hW5 ca0 ca1
            obtain ⟨ag, hag⟩ : ∃ ag, ag = wr.heap.size := ⟨_, rfl⟩
            rw [← hag] at HBa ⊢
            clear hag
            have h32 : (⟨#[32]⟩ : ByteArray).size = 1 := rfl
            have h61 : (⟨#[61, 34]⟩ : ByteArray).size = 2 := rfl
            have h34 : (⟨#[34]⟩ : ByteArray).size = 1 := rfl
            refine wp_region_linksR [some 61, some 62, some 63, some 64, some 65, some 66, some 67, some 68, some 69, some 70] [[], [0], [1], [2], [], [4], [5], [3, 6], [7], [8, 6]] [6, 9] [.pointer (some ⟨ag, 0, none⟩), .string aa.1, .string ((⟨#[32]⟩ : ByteArray) ++ aa.1), .string ((⟨#[32]⟩ : ByteArray) ++ aa.1 ++ (⟨#[61, 34]⟩ : ByteArray)), .pointer (some ⟨ag, 1, none⟩), .string aa.2, undef, .string ((⟨#[32]⟩ : ByteArray) ++ aa.1 ++ (⟨#[61, 34]⟩ : ByteArray) ++ escS aa.2), .string ((⟨#[32]⟩ : ByteArray) ++ aa.1 ++ (⟨#[61, 34]⟩ : ByteArray) ++ escS aa.2 ++ (⟨#[34]⟩ : ByteArray)), undef] (PnJ W5 W (escS aa.2) st2 (.slice A2 st2.length c2) out4 s) (by kernel_rfl) (by kernel_rfl) (by kernel_rfl) (by kernel_rfl) (by kernel_rfl) (by kernel_rfl) (by kernel_rfl) (by decide) ?_ ?_ ?_ ?_
            · exact (Ext.refl W5).drew
            · intro i o ho hc a w' us K' hJ hF hlim hk
              match i, ho with
              | 0, ho =>
               simp only [List.getElem?_toArray, List.getElem?_cons_zero, List.getElem?_cons_succ, Option.some.injEq] at ho
               subst ho
               have e10 := hF.old 10 (.pointer (some ⟨ag, 0, none⟩)) rfl rfl
               simp only [Act.eval] at e10
               clear hF hlim hJ
               go_simp
               exact hk
              | 1, ho =>
               simp only [List.getElem?_toArray, List.getElem?_cons_zero, List.getElem?_cons_succ, Option.some.injEq] at ho
               subst ho
               have e61 := hF.pure 0 61 (.pointer (some ⟨ag, 0, none⟩)) rfl rfl rfl rfl
               have hcl := (HBa.out.ext (PnJ.early hJ (hlim 1 9 rfl (by kernel_rfl)))).cell 0
               simp only [List.getElem?_toArray, List.getElem?_cons_zero, List.getElem?_cons_succ] at hcl
               simp only [Act.eval] at e61
               clear hF hlim hJ
               go_simp
               exact hk
              | 2, ho =>
               simp only [List.getElem?_toArray, List.getElem?_cons_zero, List.getElem?_cons_succ, Option.some.injEq] at ho
               subst ho
               have e62 := hF.pure 1 62 (.string aa.1) rfl rfl rfl rfl
               exact wp_concatX rfl rfl e62 (by simp only [ByteArray.size_append, h32, h61, h34]; omega) hk
              | 3, ho =>
               simp only [List.getElem?_toArray, List.getElem?_cons_zero, List.getElem?_cons_succ, Option.some.injEq] at ho
               subst ho
               have e63 := hF.pure 2 63 (.string ((⟨#[32]⟩ : ByteArray) ++ aa.1)) rfl rfl rfl rfl
               exact wp_concatX rfl e63 rfl (by simp only [ByteArray.size_append, h32, h61, h34]; omega) hk
              | 4, ho =>
               simp only [List.getElem?_toArray, List.getElem?_cons_zero, List.getElem?_cons_succ, Option.some.injEq] at ho
               subst ho
               have e10 := hF.old 10 (.pointer (some ⟨ag, 0, none⟩)) rfl rfl
               simp only [Act.eval] at e10
               clear hF hlim hJ
               go_simp
               exact hk
              | 5, ho =>
               simp only [List.getElem?_toArray, List.getElem?_cons_zero, List.getElem?_cons_succ, Option.some.injEq] at ho
               subst ho
               have e65 := hF.pure 4 65 (.pointer (some ⟨ag, 1, none⟩)) rfl rfl rfl rfl
               have hcl := (HBa.out.ext (PnJ.early hJ (hlim 1 9 rfl (by kernel_rfl)))).cell 1
               simp only [List.getElem?_toArray, List.getElem?_cons_zero, List.getElem?_cons_succ] at hcl
               simp only [Act.eval] at e65
               clear hF hlim hJ
               go_simp
               exact hk
              | 6, ho => simp at hc
              | 7, ho =>
               simp only [List.getElem?_toArray, List.getElem?_cons_zero, List.getElem?_cons_succ, Option.some.injEq] at ho
               subst ho
               have e64 := hF.pure 3 64 (.string ((⟨#[32]⟩ : ByteArray) ++ aa.1 ++ (⟨#[61, 34]⟩ : ByteArray))) rfl rfl rfl rfl
               obtain ⟨v67, hv67⟩ := getElem_ltq (hF.did 0 6 rfl rfl)
               have e67 := hF.link 0 6 67 _ rfl rfl rfl hv67
               have hq := PnJ.first hJ hv67 (hlim 1 9 rfl (by kernel_rfl))
               subst hq
               exact wp_concatX rfl e64 e67 (by simp only [ByteArray.size_append, h32, h61, h34]; omega) hk
              | 8, ho =>
               simp only [List.getElem?_toArray, List.getElem?_cons_zero, List.getElem?_cons_succ, Option.some.injEq] at ho
               subst ho
               have e68 := hF.pure 7 68 (.string ((⟨#[32]⟩ : ByteArray) ++ aa.1 ++ (⟨#[61, 34]⟩ : ByteArray) ++ escS aa.2)) rfl rfl rfl rfl
               exact wp_concatX rfl e68 rfl (by simp only [ByteArray.size_append, h32, h61, h34]; omega) hk
              | 9, ho => simp at hc
              | i + 10, ho => simp at ho
            · intro p c' o hp ho a w' us K' hl hJ hF hk
              match p, hp with
              | 0, hp =>
               obtain rfl : 6 = c' := by simpa using hp
               simp only [List.getElem?_toArray, List.getElem?_cons_zero, List.getElem?_cons_succ, Option.some.injEq] at ho
               subst ho
               obtain rfl : us = [] := List.eq_nil_of_length_eq_zero hl
               have e66 := hF.pure 5 66 (.string aa.2) rfl rfl rfl rfl
               exact wp_call1 rfl e66 Tryz.call26 (HEe.out _ (HXa.out.trans hJ)) (fun en w5 h5 => ⟨_, h5.1, hk _ w5 ⟨rfl, Ext.trans hJ h5.2⟩⟩)
              | 1, hp =>
               obtain rfl : 9 = c' := by simpa using hp
               simp only [List.getElem?_toArray, List.getElem?_cons_zero, List.getElem?_cons_succ, Option.some.injEq] at ho
               subst ho
               obtain ⟨u0, rfl⟩ := list_1 hl
               have e5 := hF.old 5 (.pointer (some ⟨W.heap.size, 0, none⟩)) rfl rfl
               have e69 := hF.pure 8 69 (.string ((⟨#[32]⟩ : ByteArray) ++ aa.1 ++ (⟨#[61, 34]⟩ : ByteArray) ++ escS aa.2 ++ (⟨#[34]⟩ : ByteArray))) rfl rfl rfl rfl
               exact wp_call2X rfl (hF.old 5 _ rfl rfl) (e69.trans (by rw [← HS.out])) Tryz.call25 ((HPs4.out.go (HXa.out.trans hJ.2)).write s (by omega)) (fun en w5 h5 => ⟨_, h5.1, hk _ w5 ⟨h5.2.1, fun T h1 h2 => (KB.ext hJ.2).trans (h5.2.2.1 T h1 h2), Nat.le_trans (Ext.size hJ.2) h5.2.2.2⟩⟩)
              | p + 2, hp => simp at hp
            intro us w6 hl hJ
            obtain ⟨u0, u1, rfl⟩ := list_2 hl
            first | (rename_i hK; refine hK _ _ ?_; clear hK) | (rename_i hK hK_1; refine hK _ _ ?_; clear hK) | (rename_i hK hK_1 hK_2; refine hK _ _ ?_; clear hK) | (rename_i hK hK_1 hK_2 hK_3; refine hK _ _ ?_; clear hK)
            generalize hL : frameL _ _ _ _ = L
            obtain rfl : L = [(61, .pointer (some ⟨ag, 0, none⟩)), (62, .string aa.1), (63, .string ((⟨#[32]⟩ : ByteArray) ++ aa.1)), (64, .string ((⟨#[32]⟩ : ByteArray) ++ aa.1 ++ (⟨#[61, 34]⟩ : ByteArray))), (65, .pointer (some ⟨ag, 1, none⟩)), (66, .string aa.2), (67, u0), (68, .string ((⟨#[32]⟩ : ByteArray) ++ aa.1 ++ (⟨#[61, 34]⟩ : ByteArray) ++ escS aa.2)), (69, .string ((⟨#[32]⟩ : ByteArray) ++ aa.1 ++ (⟨#[61, 34]⟩ : ByteArray) ++ escS aa.2 ++ (⟨#[34]⟩ : ByteArray))), (70, u1)] := hL.symm.trans (by kernel_rfl)
            clear hL hl
            simp only [Act.put, List.foldl_cons, List.foldl_nil, List.setIfInBounds_toArray, List.set_cons_zero, List.set_cons_succ]
            obtain ⟨hp6, hk6, hz6⟩ := hJ
            have HP6 := Lib.hid hp6
            have HB6 := Lib.hid (blk_kb (HBk4.out.ext HXa.out) (hk6 _ (by decide) (by decide)))
            have hz5 := HZ5.out
            clear hp6 hk6
            go_wp2_with fail
            exact ⟨⟨j + 1, _, by rw [hl1]; omega, by go_num, HP6.out, HB6.out, by rw [HSl.out]; simpa only [List.append_assoc] using HEq4.out, by omega⟩, by simp only [intOf]; omega⟩
          · have ej : j = n1 := by omega
            subst ej
            have hdn : (xat.drop j).flatMap attrL = [] := by rw [List.drop_eq_nil_of_le (by rw [hl1]; exact Nat.le_refl _)]; rfl
            rw [hdn, List.nil_append] at heq4
            have HEq4 := Lib.hid heq4
            clear heq4 hps4 hbk4 hdn
            go_upto_region 20 with fail
            have hc := fun (y : EW wr) o => (HBk4.out.ext y.ext).cell o
            have FIN : ∀ w6, Ext wr w6 → PrS W w6 st2 (.slice A2 st2.length c2) out4 := fun w6 hx => HPs4.out.go hx
            have HFin := Lib.hid FIN
            clear FIN
            have hbd5 : out4.length + 2 ≤ 1099511627778 := by
             have := congrArg List.length HEq4.out
             simp only [List.length_append] at this
             omega
            by_cases hnx : k + 1 < n
            · obtain ⟨b7, off7, y, hA7, hy, A7, n7, c7, -, -, -, d7, -, -⟩ := HAt.out.at' hnx
              cases hA7
              have hmy := HNx.out y hy
              have k7 := fun (z : EW wr) => z.ext.cell ((HXw.out.trans HPs4.out.ext).cell d7)
              have hyd := (HOk.out y (List.mem_of_getElem? hy)).deep
              clear d7 hy
              have hnxi : decide ((k : Int) + 1 < (n : Int)) = true := decide_eq_true (by omega)
              cases m
              · have hlt7 : decide ((xdp : Int) < (y.depth : Int)) = false := decide_eq_false (by have := of_decide_eq_false hmy.symm; omega)
                have hlt8 : ¬ xdp < y.depth := of_decide_eq_false hmy.symm
                clear hmy
                refine wp_region_ew wr (Ext.refl _) (by kernel_rfl) (by kernel_rfl) ?_
                repeat (go_big_quiet_step (fail))
                refine wpQuiet_nil ?_
                rintro w6 ⟨⟨_, hx6⟩, rfl⟩
                try dsimp only
                have HWr6 := Lib.hid ((HFin.out w6 hx6).write (⟨#[47, 62]⟩ : ByteArray) (by show out4.length + 2 ≤ _; omega))
                clear hx6 hc k7
                go_wp2_with fail
                refine HWr6.out.mono ?_
                rintro e w7 ⟨rfl, hp7, -, -⟩
                have HP7 := Lib.hid hp7
                clear hp7
                go_wp2_with fail
                exact ⟨⟨k + 1, st2, out4 ++ [47, 62], by rw [HLn.out]; omega, by go_num, HP7.out, by
                 have := HEq4.out
                 rw [show openB ⟨xnm, xtx, xat, xdp⟩ false = [] from if_neg (fun h => Bool.noConfusion h.2), List.append_nil] at this
                 rw [← HP.out, ← this, if_neg (by simp), List.append_assoc], by omega⟩, by simp only [intOf]; omega⟩
              · have hlt7 : decide ((xdp : Int) < (y.depth : Int)) = true := decide_eq_true (by have := of_decide_eq_true hmy.symm; omega)
                have hlt8 : xdp < y.depth := of_decide_eq_true hmy.symm
                clear hmy
                refine wp_region_ew wr (Ext.refl _) (by kernel_rfl) (by kernel_rfl) ?_
                repeat (go_big_quiet_step (fail))
                refine wpQuiet_nil ?_
                rintro w6 ⟨⟨_, hx6⟩, rfl⟩
                try dsimp only
                have HWr6 := Lib.hid ((HFin.out w6 hx6).write (⟨#[62]⟩ : ByteArray) (by show out4.length + 1 ≤ _; omega))
                have HB6 := Lib.hid (HBk4.out.ext hx6)
                clear hx6 hc k7
                go_wp2_with fail
                refine HWr6.out.mono ?_
                rintro e w7 ⟨rfl, hp7, hk7, hz7⟩
                have HP7 := Lib.hid hp7
                have HB7 := Lib.hid (blk_kb HB6.out (hk7 _ (by decide) (by decide)))
                have hb7 := hp7.big
                clear hp7 hk7
                have hc7 := fun o => HB7.out.cell o
                go_wp2_with (at_builtin; refine wpList_append1 rfl (.tmp 89) (.tmp 92) 93 rfl info_strX Tryz.underlying93 rfl (by decide) (own_ext HP7.out.own ((Ext.refl _).alloc _)) (by exact rfl) w7.heap.size _ (by exact rfl) (by exact Blk.new' rfl) (by exact rfl) (by simp [Value.oneCell']) (by omega) (by simp [maxLen]; omega) (by simp only [World.size_alloc]; omega) ?_; intro v' w8 hown8 hgr)
                exact ⟨⟨k + 1, st2 ++ [xnm], out4 ++ [62], by rw [HLn.out]; omega, by go_num, (HP7.out.go ((Ext.refl _).alloc _)).push hgr hown8, by
                 have := HEq4.out
                 rw [show openB ⟨xnm, xtx, xat, xdp⟩ true = [xnm] from if_pos ⟨hz, rfl⟩] at this
                 rw [← HP.out, ← this, if_pos True.intro, List.append_assoc], by simp; omega⟩, by simp only [intOf]; omega⟩
            · obtain rfl := HNo.out (by omega)
              have hnxi : decide ((k : Int) + 1 < (n : Int)) = false := decide_eq_false (by omega)
              refine wp_region_ew wr (Ext.refl _) (by kernel_rfl) (by kernel_rfl) ?_
              repeat (go_big_quiet_step (fail))
              refine wpQuiet_nil ?_
              rintro w6 ⟨⟨_, hx6⟩, rfl⟩
              try dsimp only
              have HWr6 := Lib.hid ((HFin.out w6 hx6).write (⟨#[47, 62]⟩ : ByteArray) (by show out4.length + 2 ≤ _; omega))
              clear hx6 hc
              go_wp2_with fail
              refine HWr6.out.mono ?_
              rintro e w7 ⟨rfl, hp7, -, -⟩
              have HP7 := Lib.hid hp7
              clear hp7
              go_wp2_with fail
              exact ⟨⟨k + 1, st2, out4 ++ [47, 62], by rw [HLn.out]; omega, by go_num, HP7.out, by
               have := HEq4.out
               rw [show openB ⟨xnm, xtx, xat, xdp⟩ false = [] from if_neg (fun h => Bool.noConfusion h.2), List.append_nil] at this
               rw [← HP.out, ← this, if_neg (by simp), List.append_assoc], by omega⟩, by simp only [intOf]; omega⟩
  · have ek : k = n := by omega
    subst ek
    have hdn : l.drop k = [] := List.drop_eq_nil_of_le (by rw [HLn.out]; exact Nat.le_refl _)
    rw [hdn] at heq
    have heq2 : out ++ tkBytes ((st.take st.length).reverse.map Tk.fin) = P := by
     rw [List.take_length, HP.out, ← heq]; rfl
    obtain ⟨A2, c2, rfl, hc2, hS2⟩ := HPs.out.at_
    clear heq hdn
    have HEq := Lib.hid heq2
    clear heq2 hS2
    go_wp2_with fail
    go_loopw [11] (fun v wr2 => PnEnd W P st (.slice A2 st.length c2) v wr2) (fun v _ => (intOf v + 1).toNat)
    case atStart => exact ⟨st.length, out, Nat.le_refl _, by go_num, HPs.out, HEq.out⟩
    case round =>
     obtain ⟨i, out2, hi, rfl, hps2, heq2⟩ := hrel
     have HPs2 := Lib.hid hps2
     by_cases hi0 : i = 0
     · subst hi0
       have hpo : out2 = P := by simpa [tkBytes] using heq2
       subst hpo
       have HLe := Lib.hid (Tryz.Builder_Len W.heap.size W.heap.size _ wr HPs2.out.bld)
       rw [bytes_len] at HLe
       clear heq2 hps2
       go_wp2_with fail
       refine HLe.out.mono ?_
       rintro e w3 ⟨rfl, rfl⟩
       by_cases hbig2 : out2.length ≤ 262144
       · have hbi : decide ((262144 : Int) < (out2.length : Int)) = false := decide_eq_false (by omega)
         have hbi2 : ¬ 262144 < out2.length := by omega
         have HSt := Lib.hid (Tryz.Builder_String_any W.heap.size W.heap.size out2 _ HPs2.out.bld (by have := HPs2.out.big; omega))
         go_wp2_with fail
         refine HSt.out.mono ?_
         rintro e w4 ⟨rfl, hx4⟩
         have HX4 := Lib.hid (HPs2.out.ext.below hx4 (Nat.le_refl _))
         clear hx4
         go_wp2_with fail
         go_ret2
         exact ⟨rfl, HXw.out.trans HX4.out⟩
       · have hbi : decide ((262144 : Int) < (out2.length : Int)) = true := decide_eq_true (by omega)
         have hbi2 : 262144 < out2.length := by omega
         go_wp2_with fail
         go_ret2
         exact ⟨rfl, HXw.out.trans HPs2.out.ext⟩
     · obtain ⟨q, rfl⟩ : ∃ q, i = q + 1 := ⟨i - 1, by omega⟩
       obtain ⟨A3, c3, hv3, hc3, hS3⟩ := hps2.at_
       cases hv3
       obtain ⟨b2, off2, nm, rfl, hs2, hcs⟩ := sl_str hS3 (i := q) (by omega)
       have hd1 := fins_bytes (st.take q) nm 0 (Nat.zero_le _) []
       simp only [List.append_nil, List.drop_zero] at hd1
       rw [take_snoc' st q nm hs2, hd1] at heq2
       have hsz : (⟨#[60, 47]⟩ ++ nm ++ ⟨#[62]⟩ : ByteArray).data.toList = [60, 47] ++ nm.data.toList ++ [62] := by simp [ByteArray.data_append]
       have hsn : (⟨#[60, 47]⟩ ++ nm ++ ⟨#[62]⟩ : ByteArray).size = nm.size + 3 := by
        rw [← size_toList, hsz]; simp [size_toList]
       have hbd : out2.length + (nm.size + 3) ≤ 1099511627776 := by
        have := congrArg List.length heq2
        simp only [List.length_append, List.length_cons, List.length_nil, size_toList] at this
        omega
       have HWr := Lib.hid (hps2.write (⟨#[60, 47]⟩ ++ nm ++ ⟨#[62]⟩) (by rw [hsn]; omega))
       have HEq2 := Lib.hid heq2
       have HSz := Lib.hid hsz
       clear hd1 heq2 hsz hps2 hS3 hs2
       have hq1 : ((q + 1 : Nat) : Int) - 1 = (q : Int) := by omega
       rw [hq1]
       go_wp2_with fail
       refine HWr.out.mono ?_
       rintro e w3 ⟨rfl, hp3, hk3, hz3⟩
       have HP3 := Lib.hid hp3
       clear hp3 hk3 hcs
       go_wp2_with fail
       exact ⟨⟨q, _, by omega, by go_num, HP3.out, by rw [HSz.out]; simpa only [List.append_assoc] using HEq2.out⟩, by simp only [intOf]; omega⟩
end
end Go.Proofs.YtbmblnhfmpolbaaGreatDoor