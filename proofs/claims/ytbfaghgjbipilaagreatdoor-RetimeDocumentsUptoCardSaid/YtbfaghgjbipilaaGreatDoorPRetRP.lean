/- What the reference's Retime keeps from step to step. -/
import Derived.Test.YtbfaghgjbipilaaGreatDoorPRetC
import Derived.Test.YtbfaghgjbipilaaGreatDoorPk13
import Derived.Test.YtbfaghgjbipilaaGreatDoorPConvR
import Derived.Test.YtbfaghgjbipilaaGreatDoorPk19
namespace Go.Proofs.YtbfaghgjbipilaaGreatDoor
set_option linter.unusedVariables false
set_option linter.unusedSimpArgs false
open Go.RowKit

theorem own_young {w w1 : World} {L g : Nat} {e t : TypeId} {size : Nat} {v : Value} {n : Nat} {xs : List Value} {cs' : Array Value} (h : w.ownsRow L e size v n xs) (h1 : Ext w w1) (hne : w.heap.size ≤ g) : (putB w1 g t cs').ownsRow L e size v n xs := by
  refine (own_ext h h1).kept (putB_grown _ _ _ _) ?_
  cases hv : v.ownBlock with
  | none => exact .inl rfl
  | some q =>
    refine .inr fun e => ?_
    have := (h.lt q hv).2
    have := Option.some.inj e
    omega
/-- events of one's own, behind a store into a younger block of events -/
theorem EvsOwn.young {w w1 : World} {L g n : Nat} {v : Value} {l : List Ev} {cs cs' : Array Value} (h : EvsOwn w L v n l) (h1 : Ext w w1) (hB : Blk w1 g 51 cs) (hne : w.heap.size ≤ g) : EvsOwn (putB w1 g 51 cs') L v n l := by
  obtain ⟨hs, a1, a2, a3, a4⟩ := h
  exact ⟨hs, own_young a1 h1 hne, a2, a3, fun i x e a b => ((a4 i x e a b).ext h1).kb (KB.put hB (by decide)) (KB.put hB (by decide))⟩

/-- the events: vO is the slice in the document, vE, vD the rows that are built -/
structure R47R (d : Doc) (h : DocH) (b m : Int) (drop : Bool) (B : Nat) (vR : Value) (rn : Nat) (w : World) (vO : Value) (ke : Nat) (vE : Value) (kd : Nat) (vD : Value) (wr : World) : Prop where
  ext : Ext w wr
  doc : Blk wr w.heap.size 27 (d.cells h)
  zero : Blk wr (w.heap.size + 1) 27 docZero
  out : Blk wr B 27 (ocells d b drop 0 vR vO (.slice none 0 0))
  regs : wr.ownsRow w.heap.size 95 7 vR rn (d.regs.flatMap Reg.vals)
  evs : EvsOwn wr w.heap.size vE ke (retEvs d.rate b m (d.evs.take ke))
  dris : wr.ownsRow w.heap.size 135 3 vD kd ((retDris d.rate b m (d.evs.take kd)).flatMap Dri.vals)
section
variable {d : Doc} {h : DocH} {b m : Int} {drop : Bool} {B rn ke kd g : Nat} {vR vO vE vD v' : Value} {w wr w1 w2 : World} {cs cs' : Array Value} {x : Ev}
theorem R47R.grow (r : R47R d h b m drop B vR rn w vO ke vE kd vD wr) (hx : Ext wr w1) : R47R d h b m drop B vR rn w vO ke vE kd vD w1 :=
  ⟨r.ext.trans hx, r.doc.ext hx, r.zero.ext hx, r.out.ext hx, own_ext r.regs hx, r.evs.ext hx, own_ext r.dris hx⟩
theorem R47R.putY (r : R47R d h b m drop B vR rn w vO ke vE kd vD wr) (hx : Ext wr w1) (hB : Blk w1 g 51 cs) (hg : wr.heap.size ≤ g) : R47R d h b m drop B vR rn w vO ke vE kd vD (putB w1 g 51 cs') := by
  have r1 := r.grow hx
  have := r.ext.size
  exact ⟨r1.ext.put (by omega) _ _, r1.doc.kb (KB.put hB (by decide)), r1.zero.kb (KB.put hB (by decide)), r1.out.kb (KB.put hB (by decide)), own_kb r1.regs (KB.put hB (by decide)), r.evs.young hx hB hg, own_kb r1.dris (KB.put hB (by decide))⟩
theorem R47R.push {hs : List EH} {A' : Option Addr} {n' c' : Nat} (r : R47R d h b m drop B vR rn w vO ke vE kd vD wr) (hx : d.evs[ke]? = some x) (h1 : wr.ownsRow w.heap.size 51 7 vE ke (hs.flatMap EH.vals)) (hg : EGood wr w.heap.size (EH.of (retEv d.rate b m ke x) A' n' c') (retEv d.rate b m ke x)) (hgr : wr.grownBy w2 vE.ownBlock)
    (hO : w2.ownsRow w.heap.size 51 7 v' (ke + 1) (hs.flatMap EH.vals ++ ((retEv d.rate b m ke x).cells A' n' c').toList)) : R47R d h b m drop B vR rn w vO (ke + 1) v' kd vD w2 := by
  have hty := own_typed h1
  refine ⟨r.ext.grown hgr (fun q hq => own_lt h1 q hq), r.doc.kb (KB.grown hgr hty (by decide)), r.zero.kb (KB.grown hgr hty (by decide)), r.out.kb (KB.grown hgr hty (by decide)), own_kb r.regs (KB.grown hgr hty (by decide)), ?_, own_kb r.dris (KB.grown hgr hty (by decide))⟩
  have e : retEvs d.rate b m (d.evs.take (ke + 1)) = retEvs d.rate b m (d.evs.take ke) ++ [retEv d.rate b m ke x] := mapIdx_take _ hx
  rw [e]
  exact r.evs.push h1 hg hgr hO
theorem R47R.store (r : R47R d h b m drop B vR rn w vO ke vE kd vD wr) (hB : w.heap.size + 2 ≤ B) : R47R d h b m drop B vR rn w v' ke vE kd vD (putB wr B 27 (ocells d b drop 0 vR v' (.slice none 0 0))) :=
  ⟨r.ext.put (by omega) _ _, r.doc.put_other (by omega) _, r.zero.put_other (by omega) _, r.out.put _, own_kb r.regs (KB.put r.out (by decide)), r.evs.kb (KB.put r.out (by decide)) (KB.put r.out (by decide)) (KB.put r.out (by decide)), own_kb r.dris (KB.put r.out (by decide))⟩
theorem R47R.pushD (r : R47R d h b m drop B vR rn w vO ke vE kd vD wr) (hx : d.evs[kd]? = some x) (hgr : wr.grownBy w2 vD.ownBlock)
    (hO : w2.ownsRow w.heap.size 135 3 v' (kd + 1) ((retDris d.rate b m (d.evs.take kd)).flatMap Dri.vals ++ (retDri d.rate b m kd x).vals)) : R47R d h b m drop B vR rn w vO ke vE (kd + 1) v' w2 := by
  have hty := own_typed r.dris
  refine ⟨r.ext.grown hgr (fun q hq => own_lt r.dris q hq), r.doc.kb (KB.grown hgr hty (by decide)), r.zero.kb (KB.grown hgr hty (by decide)), r.out.kb (KB.grown hgr hty (by decide)), own_kb r.regs (KB.grown hgr hty (by decide)), r.evs.kb (KB.grown hgr hty (by decide)) (KB.grown hgr hty (by decide)) (KB.grown hgr hty (by decide)), ?_⟩
  rw [retDris_take hx, List.flatMap_append]
  simpa using hO
end
def R47Loop (d : Doc) (h : DocH) (b m : Int) (drop : Bool) (B : Nat) (vR : Value) (rn n : Nat) (w : World) (i vD : Value) (wr : World) : Prop :=
  ∃ (k : Nat) (vE : Value), k ≤ n ∧ i = .int .i64 k ∧ R47R d h b m drop B vR rn w vE k vE k vD wr ∧ retErr d.rate b m d.evs = retErr d.rate b m (d.evs.drop k)

/-- the comments -/
structure R47C (d : Doc) (h : DocH) (b m : Int) (drop : Bool) (B : Nat) (vR : Value) (rn : Nat) (vE vD : Value) (w : World) (last : Int) (vO : Value) (k : Nat) (vC : Value) (wr : World) : Prop where
  ext : Ext w wr
  doc : Blk wr w.heap.size 27 (d.cells h)
  zero : Blk wr (w.heap.size + 1) 27 docZero
  out : Blk wr B 27 (ocells d b drop last vR vE vO)
  regs : wr.ownsRow w.heap.size 95 7 vR rn (d.regs.flatMap Reg.vals)
  evs : EvsOwn wr w.heap.size vE d.evs.length (retEvs d.rate b m d.evs)
  dris : wr.ownsRow w.heap.size 135 3 vD d.evs.length ((retDris d.rate b m d.evs).flatMap Dri.vals)
  coms : wr.ownsRow w.heap.size 72 8 vC (liveN (d.coms.take k)) ((retComs d.evs d.evs.length (d.coms.take k)).flatMap Com.vals)
section
variable {d : Doc} {h : DocH} {b m last last' : Int} {drop : Bool} {B rn k g : Nat} {vR vO vO' vE vD vC v' : Value} {w wr w1 w2 : World} {cs cs' : Array Value} {c : Com}
theorem R47C.grow (r : R47C d h b m drop B vR rn vE vD w last vO k vC wr) (hx : Ext wr w1) : R47C d h b m drop B vR rn vE vD w last vO k vC w1 :=
  ⟨r.ext.trans hx, r.doc.ext hx, r.zero.ext hx, r.out.ext hx, own_ext r.regs hx, r.evs.ext hx, own_ext r.dris hx, own_ext r.coms hx⟩
theorem R47C.putOut (r : R47C d h b m drop B vR rn vE vD w last vO k vC wr) (hB : w.heap.size + 2 ≤ B) : R47C d h b m drop B vR rn vE vD w last' vO' k vC (putB wr B 27 (ocells d b drop last' vR vE vO')) :=
  ⟨r.ext.put (by omega) _ _, r.doc.put_other (by omega) _, r.zero.put_other (by omega) _, r.out.put _, own_kb r.regs (KB.put r.out (by decide)), r.evs.kb (KB.put r.out (by decide)) (KB.put r.out (by decide)) (KB.put r.out (by decide)), own_kb r.dris (KB.put r.out (by decide)), own_kb r.coms (KB.put r.out (by decide))⟩
/-- a store into a block of a comment that is not the row's -/
theorem R47C.putC (r : R47C d h b m drop B vR rn vE vD w last vO k vC wr) (hB : Blk wr g 72 cs) (hg : w.heap.size ≤ g) (hne : vC.ownBlock = none ∨ vC.ownBlock ≠ some g) : R47C d h b m drop B vR rn vE vD w last vO k vC (putB wr g 72 cs') :=
  ⟨r.ext.put hg _ _, r.doc.kb (KB.put hB (by decide)), r.zero.kb (KB.put hB (by decide)), r.out.kb (KB.put hB (by decide)), own_kb r.regs (KB.put hB (by decide)), r.evs.kb (KB.put hB (by decide)) (KB.put hB (by decide)) (KB.put hB (by decide)), own_kb r.dris (KB.put hB (by decide)), r.coms.kept (putB_grown _ _ _ _) hne⟩
theorem R47C.skip (r : R47C d h b m drop B vR rn vE vD w last vO k vC wr) (hc : d.coms[k]? = some c) (hl : c.lost = true) : R47C d h b m drop B vR rn vE vD w last vO (k + 1) vC wr := by
  have e1 : liveN (d.coms.take (k + 1)) = liveN (d.coms.take k) := by rw [liveN_take hc, if_pos hl]; rfl
  have e2 : retComs d.evs d.evs.length (d.coms.take (k + 1)) = retComs d.evs d.evs.length (d.coms.take k) := by rw [retComs_take d.evs hc, if_pos hl, List.append_nil]
  exact ⟨r.ext, r.doc, r.zero, r.out, r.regs, r.evs, r.dris, by rw [e1, e2]; exact r.coms⟩
theorem R47C.push (r : R47C d h b m drop B vR rn vE vD w last vO k vC wr) (hc : d.coms[k]? = some c) (hl : c.lost = false) (hgr : wr.grownBy w2 vC.ownBlock)
    (ho : w2.ownsRow w.heap.size 72 8 v' (liveN (d.coms.take k) + 1) ((retComs d.evs d.evs.length (d.coms.take k)).flatMap Com.vals ++ (Com.mk ((d.evs.length : Int) + liveN (d.coms.take k) + 1) (newId d.evs c.ev) c.fr c.til c.author c.text c.done c.lost).vals)) :
    R47C d h b m drop B vR rn vE vD w last vO (k + 1) v' w2 := by
  have hty := own_typed r.coms
  have e1 : liveN (d.coms.take (k + 1)) = liveN (d.coms.take k) + 1 := by rw [liveN_take hc, hl]; rfl
  have e2 : retComs d.evs d.evs.length (d.coms.take (k + 1)) = retComs d.evs d.evs.length (d.coms.take k) ++ [⟨(d.evs.length : Int) + liveN (d.coms.take k) + 1, newId d.evs c.ev, c.fr, c.til, c.author, c.text, c.done, c.lost⟩] := by rw [retComs_take d.evs hc, hl]; rfl
  refine ⟨r.ext.grown hgr (fun q hq => own_lt r.coms q hq), r.doc.kb (KB.grown hgr hty (by decide)), r.zero.kb (KB.grown hgr hty (by decide)), r.out.kb (KB.grown hgr hty (by decide)), own_kb r.regs (KB.grown hgr hty (by decide)), r.evs.kb (KB.grown hgr hty (by decide)) (KB.grown hgr hty (by decide)) (KB.grown hgr hty (by decide)), own_kb r.dris (KB.grown hgr hty (by decide)), ?_⟩
  rw [e1, e2, List.flatMap_append]
  simpa using ho
end
def R47CLoop (d : Doc) (h : DocH) (b m : Int) (drop : Bool) (B : Nat) (vR : Value) (rn : Nat) (vE vD : Value) (w : World) (n : Nat) (i : Value) (wr : World) : Prop :=
  ∃ (k : Nat) (vC : Value), k ≤ n ∧ i = .int .i64 k ∧ R47C d h b m drop B vR rn vE vD w ((d.evs.length : Int) + liveN (d.coms.take k)) vC k vC wr
theorem num_newId (l : List Ev) (id : Int) : numI l id = newId l id := by unfold numI newId; cases findE l id <;> rfl

/-- the copy of the regions and the new document, made at whatever time in a drawn region -/
structure R8J (d : Doc) (b : Int) (drop : Bool) (L rn : Nat) (W : World) (us : List Value) (gs : Nat → Option Nat) (w' : World) : Prop where
  ext : Ext W w'
  blk : ∀ g, gs 11 = some g → W.heap.size ≤ g ∧ Blk w' g 27 (if us.length ≤ 3 then docZero else ocells d b drop 0 (us.getD 1 undef) (.slice none 0 0) (.slice none 0 0))
  nil : us.length = 1 → w'.ownsRow L 95 7 (us.getD 0 undef) 0 []
  own : 2 ≤ us.length → w'.ownsRow L 95 7 (us.getD 1 undef) rn (d.regs.flatMap Reg.vals)
  agg : 3 ≤ us.length → us.getD 2 undef = .agg (ocells d b drop 0 (us.getD 1 undef) (.slice none 0 0) (.slice none 0 0))
section
variable {d : Doc} {b : Int} {drop : Bool} {L rn : Nat} {W w' w2 : World} {us : List Value} {gs : Nat → Option Nat} {u0 u1 u2 : Value}
theorem R8J.start (W : World) : R8J d b drop L rn W [] (fun _ => none) W.drew :=
  ⟨(Ext.refl W).drew, fun g h => (by have h2 : (none : Option Nat) = some g := h; exact absurd h2 (by simp)), fun h => by simp at h, fun h => by simp at h, fun h => by simp at h⟩
theorem R8J.alloc (j : R8J d b drop L rn W us gs w') (hl : us.length ≤ 3) : R8J d b drop L rn W us (upd gs 11 w'.heap.size) (w'.alloc (.cells docZero 27)) := by
  refine ⟨j.ext.alloc _, fun g hg => ?_, fun h => own_ext (j.nil h) ((Ext.refl _).alloc _), fun h => own_ext (j.own h) ((Ext.refl _).alloc _), j.agg⟩
  rw [upd_self] at hg
  cases hg
  exact ⟨j.ext.size, by rw [if_pos hl]; exact Blk.new _ _ _⟩
theorem R8J.s0 (j : R8J d b drop L rn W [] gs w') (hL : L ≤ W.heap.size) : R8J d b drop L rn W ([] ++ [.slice (some ⟨w'.heap.size, 0, none⟩) 0 0]) gs (w'.alloc (.cells #[] 95)) := by
  have := j.ext.size
  exact ⟨j.ext.alloc _, fun g hg => ⟨(j.blk g hg).1, (j.blk g hg).2.alloc _⟩, fun _ => own_nil0 w' _ _ _ (by omega), fun h => by simp at h, fun h => by simp at h⟩
theorem R8J.s1 (j : R8J d b drop L rn W [u0] gs w') (hg : w'.grownBy w2 u0.ownBlock) (ho : w2.ownsRow L 95 7 u1 rn (d.regs.flatMap Reg.vals)) (hlt : ∀ q, u0.ownBlock = some q → W.heap.size ≤ q) : R8J d b drop L rn W ([u0] ++ [u1]) gs w2 := by
  have h0 := j.nil rfl
  exact ⟨j.ext.grown hg hlt, fun g hgg => ⟨(j.blk g hgg).1, (j.blk g hgg).2.kb (KB.grown hg (own_typed h0) (by decide))⟩, fun h => by simp at h, fun _ => ho, fun h => by simp at h⟩
theorem R8J.s2 (j : R8J d b drop L rn W [u0, u1] gs w') : R8J d b drop L rn W ([u0, u1] ++ [.agg (ocells d b drop 0 u1 (.slice none 0 0) (.slice none 0 0))]) gs w' :=
  ⟨j.ext, fun g hg => ⟨(j.blk g hg).1, (j.blk g hg).2⟩, fun h => by simp at h, fun _ => j.own (Nat.le_refl _), fun _ => rfl⟩
theorem R8J.s3 {g : Nat} {v : Value} (j : R8J d b drop L rn W [u0, u1, u2] gs w') (hg : gs 11 = some g) : R8J d b drop L rn W ([u0, u1, u2] ++ [v]) gs (putB w' g 27 (ocells d b drop 0 u1 (.slice none 0 0) (.slice none 0 0))) := by
  have hb := (j.blk g hg).2
  refine ⟨j.ext.put (j.blk g hg).1 _ _, fun g' hg' => ?_, fun h => by simp at h, fun _ => own_kb (j.own (by simp)) (KB.put hb (by decide)), fun _ => j.agg (by simp)⟩
  rw [hg] at hg'
  cases hg'
  exact ⟨(j.blk g hg).1, hb.put _⟩
end
end Go.Proofs.YtbfaghgjbipilaaGreatDoor
