/- Laid together: Lemmas for the second loop of Retime. The walks of the references' Mode, negative, Quotient, Ticks, Time, Frame, Convert, known, Span. What the reference's Retime keeps from step to step. The walk of the reference's Retime. -/
import Derived.Test.YtagfedbdakmlgaaGreatDoorLi10
import Derived.Test.YtagfedbdakmlgaaGreatDoorLi18

/-! RetC -/
namespace Go.Proofs.YtagfedbdakmlgaaGreatDoor
set_option linter.unusedVariables false
set_option linter.unusedSimpArgs false
open Go.RowKit Go.Maps
def ocells (d : Doc) (b : Int) (drop : Bool) (last : Int) (r e c : Value) : Array Value := #[.string d.title, .string d.lang, .int .u8 b, .bool drop, .int .i64 last, r, e, c]
structure RcRel (d : Doc) (h : DocH) (b m : Int) (drop : Bool) (B M : Nat) (hh : DocH) (w : World) (vd : Value) (k : Nat) (v : Value) (wr : World) : Prop where
  ext : Ext w wr
  doc : Blk wr w.heap.size 27 (d.cells h)
  zero : Blk wr (w.heap.size + 1) 27 docZero
  out : Blk wr B 27 (ocells d b drop ((d.evs.length : Int) + liveN (d.coms.take k)) (.slice hh.ra hh.rn hh.rc) (.slice hh.ea hh.en hh.ec) v)
  regs : wr.ownsRow w.heap.size 94 7 (.slice hh.ra hh.rn hh.rc) hh.rn (d.regs.flatMap Reg.vals)
  evs : EvsOwn wr w.heap.size (.slice hh.ea hh.en hh.ec) hh.en (retEvs d.rate b m d.evs)
  map : MapI wr 2 M d.evs
  dris : wr.ownsRow w.heap.size 98 3 vd d.evs.length ((retDris d.rate b m d.evs).flatMap Dri.vals)
  coms : wr.ownsRow w.heap.size 78 8 v (liveN (d.coms.take k)) ((retComs d.evs d.evs.length (d.coms.take k)).flatMap Com.vals)
def RcLoop (d : Doc) (h : DocH) (b m : Int) (drop : Bool) (B M : Nat) (hh : DocH) (w : World) (vd : Value) (n : Nat) (i : Value) (wr : World) : Prop :=
  ∃ (k : Nat) (v : Value), k ≤ n ∧ i = .int .i64 k ∧ (∃ A N c, v = .slice A N c) ∧ RcRel d h b m drop B M hh w vd k v wr
/-- two cells of a comment are stored, one after the other, in a drawn region -/
structure CsJ (C : Nat) (cs1 cs2 : Array Value) (W : World) (us : List Value) (w' : World) : Prop where
  only : Only 78 W w'
  nil : us = [] → Ext W w'
  one : ∀ u, us = [u] → ∃ w5, Ext W w5 ∧ w' = putB w5 C 78 cs1
  two : ∀ u u1, us = [u, u1] → ∃ w5, Ext W w5 ∧ w' = putB w5 C 78 cs2
section
variable {C : Nat} {cs0 cs1 cs2 : Array Value} {W w' : World} {u0 u1 : Value}
theorem CsJ.start (W : World) : CsJ C cs1 cs2 W [] W.drew := ⟨Only.ext (Ext.refl W).drew, fun _ => (Ext.refl W).drew, fun u h => by simp at h, fun u u1 h => by simp at h⟩
theorem CsJ.first (h : CsJ C cs1 cs2 W [] w') (hB : Blk W C 78 cs0) : CsJ C cs1 cs2 W ([] ++ [u0]) (putB w' C 78 cs1) :=
  ⟨(Only.ext (h.nil rfl)).trans (Only.put (hB.ext (h.nil rfl))), fun h => by simp at h, fun u hu => ⟨w', h.nil rfl, rfl⟩, fun u u1 h => by simp at h⟩
end
section
variable {d : Doc} {h hh : DocH} {b m : Int} {drop : Bool} {B M k C : Nat} {w wr w28 w5 w33 : World} {vd v v' : Value} {c : Com} {oc : Array Value} {cs0 cs2 : Array Value}
theorem RcRel.grow {w1 : World} (r : RcRel d h b m drop B M hh w vd k v wr) (hx : Ext wr w1) : RcRel d h b m drop B M hh w vd k v w1 :=
  ⟨r.ext.trans hx, r.doc.ext hx, r.zero.ext hx, r.out.ext hx, own_ext r.regs hx, r.evs.ext hx, r.map.ext hx, own_ext r.dris hx, own_ext r.coms hx⟩
theorem RcRel.skip {w1 : World} (r : RcRel d h b m drop B M hh w vd k v wr) (hc : d.coms[k]? = some c) (hl : c.lost = true) (hx : Ext wr w1) : RcRel d h b m drop B M hh w vd (k + 1) v w1 := by
  have g := r.grow hx
  have e1 : liveN (d.coms.take (k + 1)) = liveN (d.coms.take k) := by rw [liveN_take hc, if_pos hl]; rfl
  have e2 : retComs d.evs d.evs.length (d.coms.take (k + 1)) = retComs d.evs d.evs.length (d.coms.take k) := by rw [retComs_take d.evs hc, if_pos hl, List.append_nil]
  exact ⟨g.ext, g.doc, g.zero, by rw [e1]; exact g.out, g.regs, g.evs, g.map, g.dris, by rw [e1, e2]; exact g.coms⟩
/-- the row of comments behind the stores into the copy -/
theorem RcRel.row (r : RcRel d h b m drop B M hh w vd k v wr) (h28 : Ext wr w28) (h5 : Ext (putB w28 B 27 oc) w5) (hC : wr.heap.size ≤ C) :
    (putB w5 C 78 cs2).ownsRow w.heap.size 78 8 v (liveN (d.coms.take k)) ((retComs d.evs d.evs.length (d.coms.take k)).flatMap Com.vals) := by
  have h1 := own_ext (own_kb (own_ext r.coms h28) (KB.put (r.out.ext h28) (cs' := oc) (by decide))) h5
  refine h1.kept (putB_grown _ _ _ _) ?_
  cases hv : v.ownBlock with
  | none => exact .inl rfl
  | some q =>
    refine .inr fun e => ?_
    have := (r.coms.lt q hv).2
    have := Option.some.inj e
    omega
theorem RcRel.step (r : RcRel d h b m drop B M hh w vd k v wr) (hc : d.coms[k]? = some c) (hl : c.lost = false) (h28 : Ext wr w28) (h5 : Ext (putB w28 B 27 oc) w5) (hC : wr.heap.size ≤ C) (hBC : Blk w5 C 78 cs0) (hBw : w.heap.size + 2 ≤ B)
    (hgr : ((putB w5 C 78 cs2).alloc (.cells cs2 78)).grownBy w33 v.ownBlock)
    (ho : w33.ownsRow w.heap.size 78 8 v' (liveN (d.coms.take k) + 1) ((retComs d.evs d.evs.length (d.coms.take k)).flatMap Com.vals ++ (Com.mk ((d.evs.length : Int) + liveN (d.coms.take k) + 1) (newId d.evs c.ev) c.fr c.til c.author c.text c.done c.lost).vals)) :
    Blk w33 B 27 oc ∧ RcRel d h b m drop B M hh w vd (k + 1) v' (putB w33 B 27 (ocells d b drop ((d.evs.length : Int) + liveN (d.coms.take k) + 1) (.slice hh.ra hh.rn hh.rc) (.slice hh.ea hh.en hh.ec) v')) := by
  have hrow := (r.row h28 h5 hC (cs2 := cs2)).alloc (.cells cs2 78)
  have hty := own_typed hrow
  have hB28 := r.out.ext h28
  -- every other type
  have k1 : ∀ {T : TypeId}, T ≠ 27 → T ≠ 78 → KB T wr w33 := fun h1 h2 =>
    (KB.ext h28).trans ((KB.put hB28 h1).trans ((KB.ext h5).trans ((KB.put hBC h2).trans ((KB.ext ((Ext.refl _).alloc _)).trans (KB.grown hgr hty h2)))))
  have km : KM wr w33 := KM.trans (Only.ext (T := 0) h28).km (KM.trans (Only.put hB28).km (KM.trans (Only.ext (T := 0) h5).km (KM.trans (Only.put hBC).km (KM.trans (Only.ext (T := 0) ((Ext.refl _).alloc _)).km (Only.grown hgr hty).km))))
  have kd : ∀ {g : Nat} {cs : Array Value}, Blk (putB w28 B 27 oc) g 27 cs → Blk w33 g 27 cs := fun hb =>
    (((hb.ext h5).kb (KB.put hBC (by decide))).alloc _).kb (KB.grown hgr hty (by decide))
  have hout : Blk w33 B 27 oc := kd (hB28.put oc)
  have k2 : ∀ {T : TypeId}, T ≠ 27 → T ≠ 78 → KB T wr (putB w33 B 27 (ocells d b drop ((d.evs.length : Int) + liveN (d.coms.take k) + 1) (.slice hh.ra hh.rn hh.rc) (.slice hh.ea hh.en hh.ec) v')) := fun h1 h2 => (k1 h1 h2).trans (KB.put hout h1)
  have e1 : liveN (d.coms.take (k + 1)) = liveN (d.coms.take k) + 1 := by rw [liveN_take hc, hl]; rfl
  have e2 : retComs d.evs d.evs.length (d.coms.take (k + 1)) = retComs d.evs d.evs.length (d.coms.take k) ++ [⟨(d.evs.length : Int) + liveN (d.coms.take k) + 1, newId d.evs c.ev, c.fr, c.til, c.author, c.text, c.done, c.lost⟩] := by rw [retComs_take d.evs hc, hl]; rfl
  have hx33 : Ext w w33 := by
    have a1 : Ext w (putB w28 B 27 oc) := (r.ext.trans h28).put (by omega) _ _
    have a2 : Ext w (putB w5 C 78 cs2) := (a1.trans h5).put (by have := r.ext.size; omega) _ _
    exact (a2.alloc _).grown hgr (fun q hq => own_lt hrow q hq)
  refine ⟨hout, hx33.put (by omega) _ _, ?_, ?_, ?_, own_kb r.regs (k2 (by decide) (by decide)), r.evs.kb (k2 (by decide) (by decide)) (k2 (by decide) (by decide)) (k2 (by decide) (by decide)), (r.map.km km).km (Only.put hout).km, own_kb r.dris (k2 (by decide) (by decide)), ?_⟩
  · exact (kd ((r.doc.ext h28).put_other (by omega) _)).put_other (by omega) _
  · exact (kd ((r.zero.ext h28).put_other (by omega) _)).put_other (by omega) _
  · rw [e1]
    have := hout.put (ocells d b drop ((d.evs.length : Int) + liveN (d.coms.take k) + 1) (.slice hh.ra hh.rn hh.rc) (.slice hh.ea hh.en hh.ec) v')
    rw [show ((d.evs.length : Int) + ((liveN (d.coms.take k) + 1 : Nat) : Int)) = (d.evs.length : Int) + liveN (d.coms.take k) + 1 by omega]
    exact this
  · rw [e1, e2, List.flatMap_append]
    exact own_kb (by simpa using ho) (KB.put hout (by decide))
end
end Go.Proofs.YtagfedbdakmlgaaGreatDoor

/-! ConvR -/
namespace Go.Proofs.YtagfedbdakmlgaaGreatDoor
set_option linter.unusedVariables false
set_option linter.unusedSimpArgs false
open Go.RowKit
end Go.Proofs.YtagfedbdakmlgaaGreatDoor

/-! RetRP -/
namespace Go.Proofs.YtagfedbdakmlgaaGreatDoor
set_option linter.unusedVariables false
set_option linter.unusedSimpArgs false
open Go.RowKit
/-- the events: vO is the slice in the document, vE, vD the rows that are built -/
structure R47R (d : Doc) (h : DocH) (b m : Int) (drop : Bool) (B : Nat) (vR : Value) (rn : Nat) (w : World) (vO : Value) (ke : Nat) (vE : Value) (kd : Nat) (vD : Value) (wr : World) : Prop where
  ext : Ext w wr
  doc : Blk wr w.heap.size 27 (d.cells h)
  zero : Blk wr (w.heap.size + 1) 27 docZero
  out : Blk wr B 27 (ocells d b drop 0 vR vO (.slice none 0 0))
  regs : wr.ownsRow w.heap.size 94 7 vR rn (d.regs.flatMap Reg.vals)
  evs : EvsOwn wr w.heap.size vE ke (retEvs d.rate b m (d.evs.take ke))
  dris : wr.ownsRow w.heap.size 98 3 vD kd ((retDris d.rate b m (d.evs.take kd)).flatMap Dri.vals)
section
variable {d : Doc} {h : DocH} {b m : Int} {drop : Bool} {B rn ke kd g : Nat} {vR vO vE vD v' : Value} {w wr w1 w2 : World} {cs cs' : Array Value} {x : Ev}
theorem R47R.grow (r : R47R d h b m drop B vR rn w vO ke vE kd vD wr) (hx : Ext wr w1) : R47R d h b m drop B vR rn w vO ke vE kd vD w1 :=
  ⟨r.ext.trans hx, r.doc.ext hx, r.zero.ext hx, r.out.ext hx, own_ext r.regs hx, r.evs.ext hx, own_ext r.dris hx⟩
theorem R47R.push {hs : List EH} {A' : Option Addr} {n' c' : Nat} (r : R47R d h b m drop B vR rn w vO ke vE kd vD wr) (hx : d.evs[ke]? = some x) (h1 : wr.ownsRow w.heap.size 66 7 vE ke (hs.flatMap EH.vals)) (hg : EGood wr w.heap.size (EH.of (retEv d.rate b m ke x) A' n' c') (retEv d.rate b m ke x)) (hgr : wr.grownBy w2 vE.ownBlock)
    (hO : w2.ownsRow w.heap.size 66 7 v' (ke + 1) (hs.flatMap EH.vals ++ ((retEv d.rate b m ke x).cells A' n' c').toList)) : R47R d h b m drop B vR rn w vO (ke + 1) v' kd vD w2 := by
  have hty := own_typed h1
  refine ⟨r.ext.grown hgr (fun q hq => own_lt h1 q hq), r.doc.kb (KB.grown hgr hty (by decide)), r.zero.kb (KB.grown hgr hty (by decide)), r.out.kb (KB.grown hgr hty (by decide)), own_kb r.regs (KB.grown hgr hty (by decide)), ?_, own_kb r.dris (KB.grown hgr hty (by decide))⟩
  have e : retEvs d.rate b m (d.evs.take (ke + 1)) = retEvs d.rate b m (d.evs.take ke) ++ [retEv d.rate b m ke x] := mapIdx_take _ hx
  rw [e]
  exact r.evs.push h1 hg hgr hO
theorem R47R.store (r : R47R d h b m drop B vR rn w vO ke vE kd vD wr) (hB : w.heap.size + 2 ≤ B) : R47R d h b m drop B vR rn w v' ke vE kd vD (putB wr B 27 (ocells d b drop 0 vR v' (.slice none 0 0))) :=
  ⟨r.ext.put (by omega) _ _, r.doc.put_other (by omega) _, r.zero.put_other (by omega) _, r.out.put _, own_kb r.regs (KB.put r.out (by decide)), r.evs.kb (KB.put r.out (by decide)) (KB.put r.out (by decide)) (KB.put r.out (by decide)), own_kb r.dris (KB.put r.out (by decide))⟩
end
def R47Loop (d : Doc) (h : DocH) (b m : Int) (drop : Bool) (B : Nat) (vR : Value) (rn n : Nat) (w : World) (i vD : Value) (wr : World) : Prop :=
  ∃ (k : Nat) (vE : Value), k ≤ n ∧ i = .int .i64 k ∧ R47R d h b m drop B vR rn w vE k vE k vD wr ∧ retErr d.rate b m d.evs = retErr d.rate b m (d.evs.drop k)
/-- the comments -/
structure R47C (d : Doc) (h : DocH) (b m : Int) (drop : Bool) (B : Nat) (vR : Value) (rn : Nat) (vE vD : Value) (w : World) (last : Int) (vO : Value) (k : Nat) (vC : Value) (wr : World) : Prop where
  ext : Ext w wr
  doc : Blk wr w.heap.size 27 (d.cells h)
  zero : Blk wr (w.heap.size + 1) 27 docZero
  out : Blk wr B 27 (ocells d b drop last vR vE vO)
  regs : wr.ownsRow w.heap.size 94 7 vR rn (d.regs.flatMap Reg.vals)
  evs : EvsOwn wr w.heap.size vE d.evs.length (retEvs d.rate b m d.evs)
  dris : wr.ownsRow w.heap.size 98 3 vD d.evs.length ((retDris d.rate b m d.evs).flatMap Dri.vals)
  coms : wr.ownsRow w.heap.size 78 8 vC (liveN (d.coms.take k)) ((retComs d.evs d.evs.length (d.coms.take k)).flatMap Com.vals)
section
variable {d : Doc} {h : DocH} {b m last last' : Int} {drop : Bool} {B rn k g : Nat} {vR vO vO' vE vD vC v' : Value} {w wr w1 w2 : World} {cs cs' : Array Value} {c : Com}
theorem R47C.grow (r : R47C d h b m drop B vR rn vE vD w last vO k vC wr) (hx : Ext wr w1) : R47C d h b m drop B vR rn vE vD w last vO k vC w1 :=
  ⟨r.ext.trans hx, r.doc.ext hx, r.zero.ext hx, r.out.ext hx, own_ext r.regs hx, r.evs.ext hx, own_ext r.dris hx, own_ext r.coms hx⟩
theorem R47C.skip (r : R47C d h b m drop B vR rn vE vD w last vO k vC wr) (hc : d.coms[k]? = some c) (hl : c.lost = true) : R47C d h b m drop B vR rn vE vD w last vO (k + 1) vC wr := by
  have e1 : liveN (d.coms.take (k + 1)) = liveN (d.coms.take k) := by rw [liveN_take hc, if_pos hl]; rfl
  have e2 : retComs d.evs d.evs.length (d.coms.take (k + 1)) = retComs d.evs d.evs.length (d.coms.take k) := by rw [retComs_take d.evs hc, if_pos hl, List.append_nil]
  exact ⟨r.ext, r.doc, r.zero, r.out, r.regs, r.evs, r.dris, by rw [e1, e2]; exact r.coms⟩
theorem R47C.push (r : R47C d h b m drop B vR rn vE vD w last vO k vC wr) (hc : d.coms[k]? = some c) (hl : c.lost = false) (hgr : wr.grownBy w2 vC.ownBlock)
    (ho : w2.ownsRow w.heap.size 78 8 v' (liveN (d.coms.take k) + 1) ((retComs d.evs d.evs.length (d.coms.take k)).flatMap Com.vals ++ (Com.mk ((d.evs.length : Int) + liveN (d.coms.take k) + 1) (newId d.evs c.ev) c.fr c.til c.author c.text c.done c.lost).vals)) :
    R47C d h b m drop B vR rn vE vD w last vO (k + 1) v' w2 := by
  have hty := own_typed r.coms
  have e1 : liveN (d.coms.take (k + 1)) = liveN (d.coms.take k) + 1 := by rw [liveN_take hc, hl]; rfl
  have e2 : retComs d.evs d.evs.length (d.coms.take (k + 1)) = retComs d.evs d.evs.length (d.coms.take k) ++ [⟨(d.evs.length : Int) + liveN (d.coms.take k) + 1, newId d.evs c.ev, c.fr, c.til, c.author, c.text, c.done, c.lost⟩] := by rw [retComs_take d.evs hc, hl]; rfl
  refine ⟨r.ext.grown hgr (fun q hq => own_lt r.coms q hq), r.doc.kb (KB.grown hgr hty (by decide)), r.zero.kb (KB.grown hgr hty (by decide)), r.out.kb (KB.grown hgr hty (by decide)), own_kb r.regs (KB.grown hgr hty (by decide)), r.evs.kb (KB.grown hgr hty (by decide)) (KB.grown hgr hty (by decide)) (KB.grown hgr hty (by decide)), own_kb r.dris (KB.grown hgr hty (by decide)), ?_⟩
  rw [e1, e2, List.flatMap_append]
  simpa using ho
end
def R47CLoop (d : Doc) (h : DocH) (b m : Int) (drop : Bool) (B : Nat) (vR : Value) (rn : Nat) (vE vD : Value) (w : World) (n : Nat) (i : Value) (wr : World) : Prop :=
  ∃ (k : Nat) (vC : Value), k ≤ n ∧ i = .int .i64 k ∧ R47C d h b m drop B vR rn vE vD w ((d.evs.length : Int) + liveN (d.coms.take k)) vC k vC wr
/-- the copy of the regions and the new document, made at whatever time in a drawn region -/
structure R8J (d : Doc) (b : Int) (drop : Bool) (L rn : Nat) (W : World) (us : List Value) (gs : Nat → Option Nat) (w' : World) : Prop where
  ext : Ext W w'
  blk : ∀ g, gs 11 = some g → W.heap.size ≤ g ∧ Blk w' g 27 (if us.length ≤ 3 then docZero else ocells d b drop 0 (us.getD 1 undef) (.slice none 0 0) (.slice none 0 0))
  nil : us.length = 1 → w'.ownsRow L 94 7 (us.getD 0 undef) 0 []
  own : 2 ≤ us.length → w'.ownsRow L 94 7 (us.getD 1 undef) rn (d.regs.flatMap Reg.vals)
  agg : 3 ≤ us.length → us.getD 2 undef = .agg (ocells d b drop 0 (us.getD 1 undef) (.slice none 0 0) (.slice none 0 0))
section
variable {d : Doc} {b : Int} {drop : Bool} {L rn : Nat} {W w' w2 : World} {us : List Value} {gs : Nat → Option Nat} {u0 u1 u2 : Value}
theorem R8J.start (W : World) : R8J d b drop L rn W [] (fun _ => none) W.drew :=
  ⟨(Ext.refl W).drew, fun g h => (by have h2 : (none : Option Nat) = some g := h; exact absurd h2 (by simp)), fun h => by simp at h, fun h => by simp at h, fun h => by simp at h⟩
theorem R8J.alloc (j : R8J d b drop L rn W us gs w') (hl : us.length ≤ 3) : R8J d b drop L rn W us (upd gs 11 w'.heap.size) (w'.alloc (.cells docZero 27)) := by
  refine ⟨j.ext.alloc _, fun g hg => ?_, fun h => own_ext (j.nil h) ((Ext.refl _).alloc _), fun h => own_ext (j.own h) ((Ext.refl _).alloc _), j.agg⟩
  rw [upd_self] at hg
  cases hg
  exact ⟨j.ext.size, by rw [if_pos hl]; exact Blk.new _ _ _⟩
theorem R8J.s0 (j : R8J d b drop L rn W [] gs w') (hL : L ≤ W.heap.size) : R8J d b drop L rn W ([] ++ [.slice (some ⟨w'.heap.size, 0, none⟩) 0 0]) gs (w'.alloc (.cells #[] 94)) := by
  have := j.ext.size
  exact ⟨j.ext.alloc _, fun g hg => ⟨(j.blk g hg).1, (j.blk g hg).2.alloc _⟩, fun _ => own_nil0 w' _ _ _ (by omega), fun h => by simp at h, fun h => by simp at h⟩
theorem R8J.s1 (j : R8J d b drop L rn W [u0] gs w') (hg : w'.grownBy w2 u0.ownBlock) (ho : w2.ownsRow L 94 7 u1 rn (d.regs.flatMap Reg.vals)) (hlt : ∀ q, u0.ownBlock = some q → W.heap.size ≤ q) : R8J d b drop L rn W ([u0] ++ [u1]) gs w2 := by
  have h0 := j.nil rfl
  exact ⟨j.ext.grown hg hlt, fun g hgg => ⟨(j.blk g hgg).1, (j.blk g hgg).2.kb (KB.grown hg (own_typed h0) (by decide))⟩, fun h => by simp at h, fun _ => ho, fun h => by simp at h⟩
theorem R8J.s2 (j : R8J d b drop L rn W [u0, u1] gs w') : R8J d b drop L rn W ([u0, u1] ++ [.agg (ocells d b drop 0 u1 (.slice none 0 0) (.slice none 0 0))]) gs w' :=
  ⟨j.ext, fun g hg => ⟨(j.blk g hg).1, (j.blk g hg).2⟩, fun h => by simp at h, fun _ => j.own (Nat.le_refl _), fun _ => rfl⟩
theorem R8J.s3 {g : Nat} {v : Value} (j : R8J d b drop L rn W [u0, u1, u2] gs w') (hg : gs 11 = some g) : R8J d b drop L rn W ([u0, u1, u2] ++ [v]) gs (putB w' g 27 (ocells d b drop 0 u1 (.slice none 0 0) (.slice none 0 0))) := by
  have hb := (j.blk g hg).2
  refine ⟨j.ext.put (j.blk g hg).1 _ _, fun g' hg' => ?_, fun h => by simp at h, fun _ => own_kb (j.own (by simp)) (KB.put hb (by decide)), fun _ => j.agg (by simp)⟩
  rw [hg] at hg'
  cases hg'
  exact ⟨(j.blk g hg).1, hb.put _⟩
end
end Go.Proofs.YtagfedbdakmlgaaGreatDoor

/-! RetR -/
namespace Go.Proofs.YtagfedbdakmlgaaGreatDoor
set_option linter.unusedVariables false
set_option linter.unusedSimpArgs false
open Go.RowKit
/-- two stores into a block of an event, one after the other, in a drawn region -/
structure E2J (C : Nat) (cs1 cs2 : Array Value) (W : World) (us : List Value) (w' : World) : Prop where
  only : Only 66 W w'
  nil : us = [] → Ext W w'
  one : ∀ u, us = [u] → ∃ w5, Ext W w5 ∧ w' = putB w5 C 66 cs1
  two : ∀ u u1, us = [u, u1] → ∃ w5, Ext W w5 ∧ w' = putB w5 C 66 cs2
section
variable {C : Nat} {cs0 cs1 cs2 : Array Value} {W w' : World} {u0 u1 : Value}
theorem E2J.start (W : World) : E2J C cs1 cs2 W [] W.drew := ⟨Only.ext (Ext.refl W).drew, fun _ => (Ext.refl W).drew, fun u h => by simp at h, fun u u1 h => by simp at h⟩
theorem E2J.first (h : E2J C cs1 cs2 W [] w') (hB : Blk W C 66 cs0) : E2J C cs1 cs2 W ([] ++ [u0]) (putB w' C 66 cs1) :=
  ⟨(Only.ext (h.nil rfl)).trans (Only.put (hB.ext (h.nil rfl))), fun h => by simp at h, fun u hu => ⟨w', h.nil rfl, rfl⟩, fun u u1 h => by simp at h⟩
end
end Go.Proofs.YtagfedbdakmlgaaGreatDoor
