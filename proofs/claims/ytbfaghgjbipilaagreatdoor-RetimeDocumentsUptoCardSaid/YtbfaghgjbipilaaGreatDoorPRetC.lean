/- Lemmas for the second loop of Retime. -/
import Derived.Test.YtbfaghgjbipilaaGreatDoorPk13
namespace Go.Proofs.YtbfaghgjbipilaaGreatDoor
set_option linter.unusedVariables false
set_option linter.unusedSimpArgs false
open Go.RowKit Go.Maps

theorem wp_lookup_mapI {o : Oper} {a : Act} {w : World} {K : Act → World → Prop} {Q : Exit → Act → World → Prop} {s s' M j : Nat} {id : Int} {l : List Ev} (ho : o.op = .lookup 138 (.tmp s) (.tmp s') false) (hx : a.eval (.tmp s) = .map (some M)) (hy : a.eval (.tmp s') = .int .i64 id)
    (hm : MapI w 2 M l) (hid : IW id) (hf : findE l id = some j) (h : K (a.put o.dst (.int .i64 ((j : Int) + 1))) w) : o.wp Tryz.prog a w K Q := by
  obtain ⟨n, D, hown, _, hmap, hat⟩ := hm
  obtain ⟨c, hrun, hc, hwf⟩ := hown.lookup_int key64 Tryz.underlying138 Tryz.underlying2 (zero_i64 w) hid.key
  rw [hat id j hid hf] at hc
  obtain rfl : (j : Int) + 1 = c := by simpa using hc
  unfold Oper.wp execOp
  simp [ho, hx, hy, hrun, Result.andThen]
  exact h
def ocells (d : Doc) (b : Int) (drop : Bool) (last : Int) (r e c : Value) : Array Value := #[.string d.title, .string d.lang, .int .u8 b, .bool drop, .int .i64 last, r, e, c]
structure RcRel (d : Doc) (h : DocH) (b m : Int) (drop : Bool) (B M : Nat) (hh : DocH) (w : World) (vd : Value) (k : Nat) (v : Value) (wr : World) : Prop where
  ext : Ext w wr
  doc : Blk wr w.heap.size 27 (d.cells h)
  zero : Blk wr (w.heap.size + 1) 27 docZero
  out : Blk wr B 27 (ocells d b drop ((d.evs.length : Int) + liveN (d.coms.take k)) (.slice hh.ra hh.rn hh.rc) (.slice hh.ea hh.en hh.ec) v)
  regs : wr.ownsRow w.heap.size 95 7 (.slice hh.ra hh.rn hh.rc) hh.rn (d.regs.flatMap Reg.vals)
  evs : EvsOwn wr w.heap.size (.slice hh.ea hh.en hh.ec) hh.en (retEvs d.rate b m d.evs)
  map : MapI wr 2 M d.evs
  dris : wr.ownsRow w.heap.size 135 3 vd d.evs.length ((retDris d.rate b m d.evs).flatMap Dri.vals)
  coms : wr.ownsRow w.heap.size 72 8 v (liveN (d.coms.take k)) ((retComs d.evs d.evs.length (d.coms.take k)).flatMap Com.vals)
def RcLoop (d : Doc) (h : DocH) (b m : Int) (drop : Bool) (B M : Nat) (hh : DocH) (w : World) (vd : Value) (n : Nat) (i : Value) (wr : World) : Prop :=
  ∃ (k : Nat) (v : Value), k ≤ n ∧ i = .int .i64 k ∧ (∃ A N c, v = .slice A N c) ∧ RcRel d h b m drop B M hh w vd k v wr
theorem own_shape {w : World} {L : Nat} {e : TypeId} {size : Nat} {v : Value} {n : Nat} {xs : List Value} (h : w.ownsRow L e size v n xs) : ∃ A c, v = .slice A n c := by
  rcases h.2 with ⟨rfl, rfl⟩ | ⟨g, cap, cur, rfl, _⟩
  · exact ⟨none, 0, rfl⟩
  · exact ⟨_, _, rfl⟩
/-- two cells of a comment are stored, one after the other, in a drawn region -/
structure CsJ (C : Nat) (cs1 cs2 : Array Value) (W : World) (us : List Value) (w' : World) : Prop where
  only : Only 72 W w'
  nil : us = [] → Ext W w'
  one : ∀ u, us = [u] → ∃ w5, Ext W w5 ∧ w' = putB w5 C 72 cs1
  two : ∀ u u1, us = [u, u1] → ∃ w5, Ext W w5 ∧ w' = putB w5 C 72 cs2
section
variable {C : Nat} {cs0 cs1 cs2 : Array Value} {W w' : World} {u0 u1 : Value}
theorem CsJ.start (W : World) : CsJ C cs1 cs2 W [] W.drew := ⟨Only.ext (Ext.refl W).drew, fun _ => (Ext.refl W).drew, fun u h => by simp at h, fun u u1 h => by simp at h⟩
theorem CsJ.first (h : CsJ C cs1 cs2 W [] w') (hB : Blk W C 72 cs0) : CsJ C cs1 cs2 W ([] ++ [u0]) (putB w' C 72 cs1) :=
  ⟨(Only.ext (h.nil rfl)).trans (Only.put (hB.ext (h.nil rfl))), fun h => by simp at h, fun u hu => ⟨w', h.nil rfl, rfl⟩, fun u u1 h => by simp at h⟩
theorem CsJ.second (h : CsJ C cs1 cs2 W [u0] w') (hB : Blk W C 72 cs0) : CsJ C cs1 cs2 W ([u0] ++ [u1]) (putB w' C 72 cs2) := by
  obtain ⟨w5, hx, rfl⟩ := h.one u0 rfl
  refine ⟨h.only.trans (Only.put ((hB.ext hx).put cs1)), fun h => by simp at h, fun u h => by simp at h, fun u v e => ⟨w5, hx, by rw [putB_putB]⟩⟩
end
section
variable {d : Doc} {h hh : DocH} {b m : Int} {drop : Bool} {B M k C : Nat} {w wr w28 w5 w33 : World} {vd v v' : Value} {c : Com} {oc : Array Value} {cs0 cs2 : Array Value}
theorem RcRel.grow {w1 : World} (r : RcRel d h b m drop B M hh w vd k v wr) (hx : Ext wr w1) : RcRel d h b m drop B M hh w vd k v w1 :=
  ⟨r.ext.trans hx, r.doc.ext hx, r.zero.ext hx, r.out.ext hx, own_ext r.regs hx, r.evs.ext hx, r.map.ext hx, own_ext r.dris hx, own_ext r.coms hx⟩
theorem RcRel.skip {w1 : World} (r : RcRel d h b m drop B M hh w vd k v wr) (hc : d.coms[k]? = some c) (hl : c.lost = true) (hx : Ext wr w1) : RcRel d h b m drop B M hh w vd (k + 1) v w1 := by
  have g := r.grow hx
  have e1 : liveN (d.coms.take (k + 1)) = liveN (d.coms.take k) := by rw [liveN_take hc, if_pos hl]; rfl
  have e2 : retComs d.evs d.evs.length (d.coms.take (k + 1)) = retComs d.evs d.evs.length (d.coms.take k) := by rw [retComs_take d.evs hc, if_pos hl, List.append_nil]
  exact ⟨g.ext, g.doc, g.zero, by rw [e1]; exact g.out, g.regs, g.evs, g.map, g.dris, by rw [e1, e2]; exact g.coms⟩
/-- the row of comments behind the stores into the copy -/
theorem RcRel.row (r : RcRel d h b m drop B M hh w vd k v wr) (h28 : Ext wr w28) (h5 : Ext (putB w28 B 27 oc) w5) (hC : wr.heap.size ≤ C) :
    (putB w5 C 72 cs2).ownsRow w.heap.size 72 8 v (liveN (d.coms.take k)) ((retComs d.evs d.evs.length (d.coms.take k)).flatMap Com.vals) := by
  have h1 := own_ext (own_kb (own_ext r.coms h28) (KB.put (r.out.ext h28) (cs' := oc) (by decide))) h5
  refine h1.kept (putB_grown _ _ _ _) ?_
  cases hv : v.ownBlock with
  | none => exact .inl rfl
  | some q =>
    refine .inr fun e => ?_
    have := (r.coms.lt q hv).2
    have := Option.some.inj e
    omega
theorem RcRel.step (r : RcRel d h b m drop B M hh w vd k v wr) (hc : d.coms[k]? = some c) (hl : c.lost = false) (h28 : Ext wr w28) (h5 : Ext (putB w28 B 27 oc) w5) (hC : wr.heap.size ≤ C) (hBC : Blk w5 C 72 cs0) (hBw : w.heap.size + 2 ≤ B)
    (hgr : ((putB w5 C 72 cs2).alloc (.cells cs2 72)).grownBy w33 v.ownBlock)
    (ho : w33.ownsRow w.heap.size 72 8 v' (liveN (d.coms.take k) + 1) ((retComs d.evs d.evs.length (d.coms.take k)).flatMap Com.vals ++ (Com.mk ((d.evs.length : Int) + liveN (d.coms.take k) + 1) (newId d.evs c.ev) c.fr c.til c.author c.text c.done c.lost).vals)) :
    Blk w33 B 27 oc ∧ RcRel d h b m drop B M hh w vd (k + 1) v' (putB w33 B 27 (ocells d b drop ((d.evs.length : Int) + liveN (d.coms.take k) + 1) (.slice hh.ra hh.rn hh.rc) (.slice hh.ea hh.en hh.ec) v')) := by
  have hrow := (r.row h28 h5 hC (cs2 := cs2)).alloc (.cells cs2 72)
  have hty := own_typed hrow
  have hB28 := r.out.ext h28
  -- every other type
  have k1 : ∀ {T : TypeId}, T ≠ 27 → T ≠ 72 → KB T wr w33 := fun h1 h2 =>
    (KB.ext h28).trans ((KB.put hB28 h1).trans ((KB.ext h5).trans ((KB.put hBC h2).trans ((KB.ext ((Ext.refl _).alloc _)).trans (KB.grown hgr hty h2)))))
  have km : KM wr w33 := KM.trans (Only.ext (T := 0) h28).km (KM.trans (Only.put hB28).km (KM.trans (Only.ext (T := 0) h5).km (KM.trans (Only.put hBC).km (KM.trans (Only.ext (T := 0) ((Ext.refl _).alloc _)).km (Only.grown hgr hty).km))))
  have kd : ∀ {g : Nat} {cs : Array Value}, Blk (putB w28 B 27 oc) g 27 cs → Blk w33 g 27 cs := fun hb =>
    (((hb.ext h5).kb (KB.put hBC (by decide))).alloc _).kb (KB.grown hgr hty (by decide))
  have hout : Blk w33 B 27 oc := kd (hB28.put oc)
  have k2 : ∀ {T : TypeId}, T ≠ 27 → T ≠ 72 → KB T wr (putB w33 B 27 (ocells d b drop ((d.evs.length : Int) + liveN (d.coms.take k) + 1) (.slice hh.ra hh.rn hh.rc) (.slice hh.ea hh.en hh.ec) v')) := fun h1 h2 => (k1 h1 h2).trans (KB.put hout h1)
  have e1 : liveN (d.coms.take (k + 1)) = liveN (d.coms.take k) + 1 := by rw [liveN_take hc, hl]; rfl
  have e2 : retComs d.evs d.evs.length (d.coms.take (k + 1)) = retComs d.evs d.evs.length (d.coms.take k) ++ [⟨(d.evs.length : Int) + liveN (d.coms.take k) + 1, newId d.evs c.ev, c.fr, c.til, c.author, c.text, c.done, c.lost⟩] := by rw [retComs_take d.evs hc, hl]; rfl
  have hx33 : Ext w w33 := by
    have a1 : Ext w (putB w28 B 27 oc) := (r.ext.trans h28).put (by omega) _ _
    have a2 : Ext w (putB w5 C 72 cs2) := (a1.trans h5).put (by have := r.ext.size; omega) _ _
    exact (a2.alloc _).grown hgr (fun q hq => own_lt hrow q hq)
  refine ⟨hout, hx33.put (by omega) _ _, ?_, ?_, ?_, own_kb r.regs (k2 (by decide) (by decide)), r.evs.kb (k2 (by decide) (by decide)) (k2 (by decide) (by decide)) (k2 (by decide) (by decide)), (r.map.km km).km (Only.put hout).km, own_kb r.dris (k2 (by decide) (by decide)), ?_⟩
  · exact (kd ((r.doc.ext h28).put_other (by omega) _)).put_other (by omega) _
  · exact (kd ((r.zero.ext h28).put_other (by omega) _)).put_other (by omega) _
  · rw [e1]
    have := hout.put (ocells d b drop ((d.evs.length : Int) + liveN (d.coms.take k) + 1) (.slice hh.ra hh.rn hh.rc) (.slice hh.ea hh.en hh.ec) v')
    rw [show ((d.evs.length : Int) + ((liveN (d.coms.take k) + 1 : Nat) : Int)) = (d.evs.length : Int) + liveN (d.coms.take k) + 1 by omega]
    exact this
  · rw [e1, e2, List.flatMap_append]
    exact own_kb (by simpa using ho) (KB.put hout (by decide))
end
end Go.Proofs.YtbfaghgjbipilaaGreatDoor
