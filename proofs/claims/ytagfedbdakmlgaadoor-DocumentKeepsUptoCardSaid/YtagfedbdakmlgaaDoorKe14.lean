/- Laid together: The walk of the reference's copy of a document. Documents with a comment more, plainly; the drawn region at the end of such functions. A document with an event more, plainly. The walk of document.taken. The walk of document.Sort. -/
import Derived.Test.YtagfedbdakmlgaaDoorKe13
import Derived.Test.YtagfedbdakmlgaaDoorKe12
import Derived.Test.YtagfedbdakmlgaaDoorKe09
import Derived.Test.YtagfedbdakmlgaaDoorKe04

/-! DClR -/
namespace Go.Proofs.YtagfedbdakmlgaaDoor
set_option linter.unusedVariables false
set_option linter.unusedSimpArgs false
open Go.RowKit
theorem own_uniq {w : World} {L : Nat} {e : TypeId} {size : Nat} {v : Value} {n : Nat} {xs ys : List Value} (h : w.ownsRow L e size v n xs) (k : w.ownsRow L e size v n ys) : ys = xs := by
  rcases h.2 with ⟨rfl, rfl⟩ | ⟨g, cap, cur, rfl, _, hb, _, _, _, hx⟩
  · have h1 := h.1
    have h2 := k.1
    rw [Nat.zero_mul] at h1 h2
    rw [List.eq_nil_of_length_eq_zero h1, List.eq_nil_of_length_eq_zero h2]
  · rcases k.2 with ⟨e1, _⟩ | ⟨g', cap', cur', e1, _, hb', _, _, _, hx'⟩
    · cases e1
    · cases e1
      rw [hb] at hb'
      cases hb'
      rw [← hx, ← hx']
theorem own_isSlice {w : World} {L : Nat} {e : TypeId} {size : Nat} {v : Value} {n : Nat} {xs : List Value} (h : w.ownsRow L e size v n xs) : ∃ A c, v = .slice A n c := by
  rcases h.2 with ⟨rfl, rfl⟩ | ⟨g, cap, cur, rfl, _⟩
  · exact ⟨none, 0, rfl⟩
  · exact ⟨_, _, rfl⟩
/-- an event is appended to events of one's own -/
theorem EvsOwn.push {w w1 : World} {L k : Nat} {v v' : Value} {l : List Ev} {e : Ev} {hs : List EH} {A' : Option Addr} {n' c' : Nat} (h1 : w.ownsRow L 45 7 v k (hs.flatMap EH.vals)) (h : EvsOwn w L v k l) (hg : EGood w L (EH.of e A' n' c') e) (hgr : w.grownBy w1 v.ownBlock)
    (hO : w1.ownsRow L 45 7 v' (k + 1) (hs.flatMap EH.vals ++ (e.cells A' n' c').toList)) : EvsOwn w1 L v' (k + 1) (l ++ [e]) :=
  h.snoc hg hgr fun xs hx => by rw [own_uniq h1 hx]; exact hO
theorem EvsOwn.heads {w : World} {L n : Nat} {v : Value} {l : List Ev} (h : EvsOwn w L v n l) : ∃ hs : List EH, w.ownsRow L 45 7 v n (hs.flatMap EH.vals) := h.elim fun hs h => ⟨hs, h.1⟩
structure R12ClRel (d : Doc) (cs : Array Value) (rn cn : Nat) (w : World) (v1 v2 : Value) (k : Nat) (v : Value) (wr : World) : Prop where
  ext : Ext w wr
  doc : Blk wr w.heap.size 39 cs
  zero : Blk wr (w.heap.size + 1) 39 docZero
  regs : wr.ownsRow w.heap.size 58 7 v1 rn (d.regs.flatMap Reg.vals)
  coms : wr.ownsRow w.heap.size 31 8 v2 cn (d.coms.flatMap Com.vals)
  evs : EvsOwn wr w.heap.size v k (d.evs.take k)
def R12ClLoop (d : Doc) (cs : Array Value) (rn cn n : Nat) (w : World) (v1 v2 v i : Value) (wr : World) : Prop := ∃ k : Nat, k ≤ n ∧ i = .int .i64 k ∧ R12ClRel d cs rn cn w v1 v2 k v wr
section
variable {d : Doc} {cs : Array Value} {rn cn k : Nat} {w wr w1 w2 : World} {v1 v2 v v' : Value}
theorem R12ClRel.grow (r : R12ClRel d cs rn cn w v1 v2 k v wr) (hx : Ext wr w1) : R12ClRel d cs rn cn w v1 v2 k v w1 :=
  ⟨r.ext.trans hx, r.doc.ext hx, r.zero.ext hx, own_ext r.regs hx, own_ext r.coms hx, r.evs.ext hx⟩
theorem R12ClRel.step {e : Ev} {hs : List EH} {A' : Option Addr} {n' c' : Nat} (r : R12ClRel d cs rn cn w v1 v2 k v wr) (he : d.evs[k]? = some e) (h1 : wr.ownsRow w.heap.size 45 7 v k (hs.flatMap EH.vals)) (hg : EGood wr w.heap.size (EH.of e A' n' c') e) (hgr : wr.grownBy w2 v.ownBlock)
    (hO : w2.ownsRow w.heap.size 45 7 v' (k + 1) (hs.flatMap EH.vals ++ (e.cells A' n' c').toList)) : R12ClRel d cs rn cn w v1 v2 (k + 1) v' w2 := by
  have hty := own_typed h1
  refine ⟨r.ext.grown hgr (fun q hq => own_lt h1 q hq), r.doc.kb (KB.grown hgr hty (by decide)), r.zero.kb (KB.grown hgr hty (by decide)), own_kb r.regs (KB.grown hgr hty (by decide)), own_kb r.coms (KB.grown hgr hty (by decide)), ?_⟩
  rw [take_snoc' d.evs k e he]
  exact r.evs.push h1 hg hgr hO
end
set_option maxRecDepth 100000 in
set_option maxHeartbeats 4000000 in
theorem R12Clone_any (d : Doc) (h : DocH) (w : World) (hat : DocAt w d h) (hr : h.rn * 56 ≤ 140737488355328) (hen : h.en * 88 ≤ 140737488355328) (hcn : h.cn * 72 ≤ 140737488355328) :
    Calls Tryd.prog 13 #[.agg (d.cells h)] w (DClPost d w) := by
  have HR := Lib.hid hat.regs.vals
  have HC := Lib.hid hat.coms
  have HE := Lib.hid hat.evs
  have HEl := Lib.hid hat.evs.len
  have HRl := Lib.hid hat.regs.len
  have HCl := Lib.hid hat.coms.len
  clear hat
  obtain ⟨hra, rn, hrc, hea, n, hec, hca, cn, hcc⟩ := h
  dsimp only at *
  have HX0 : Hid (Ext w ((w.alloc (.cells (d.cells3 (.slice hra rn hrc) (.slice hea n hec) (.slice hca cn hcc)) 39)).alloc (.cells docZero 39))) := ((Ext.refl w).alloc _).alloc _
  have HB0 : Hid (Blk ((w.alloc (.cells (d.cells3 (.slice hra rn hrc) (.slice hea n hec) (.slice hca cn hcc)) 39)).alloc (.cells docZero 39)) w.heap.size 39 (d.cells3 (.slice hra rn hrc) (.slice hea n hec) (.slice hca cn hcc))) := (Blk.new w _ _).alloc _
  have HZ0 : Hid (Blk ((w.alloc (.cells (d.cells3 (.slice hra rn hrc) (.slice hea n hec) (.slice hca cn hcc)) 39)).alloc (.cells docZero 39)) (w.heap.size + 1) 39 docZero) := Blk.new' (by simp)
  unfold Doc.cells
  unfold Doc.cells3 docZero at *
  dsimp only
  go_enter Tryd.func13, Tryd.ntmps13
  go_upto_region 1 with (fail)
  generalize hWg : ((w.alloc (.cells #[.string d.title, .string d.lang, .int .u8 d.rate, .bool d.drop, .int .i64 d.last, .slice hra rn hrc, .slice hea n hec, .slice hca cn hcc] 39)).alloc (.cells #[.string ⟨#[]⟩, .string ⟨#[]⟩, .int .u8 0, .bool false, .int .i64 0, .slice none 0 0, .slice none 0 0, .slice none 0 0] 39)) = W0 at *
  clear hWg
  have HN0 := Lib.hid (own_nil0' (w := W0) (e := 58) (size := 7) (base := w.heap.size) (g := W0.heap.size) rfl HX0.out.size)
  have hc0 := fun obj o => (HB0.out.alloc obj).cell o
  go_upto_region 2 with (at_builtin; refine wpList_appendS rfl (.tmp 6) (.tmp 8) 35 rfl info_regI Tryd.underlying35 rfl (by decide) (by exact HN0.out) (by exact rfl) (by exact rfl) (by exact Sl.ext (Cells.stays _) HR.out (HX0.out.alloc _)) (fun _ => rfl) reg_ones (by omega) (by simp [maxLen]; omega) (by have := HX0.out.size; simp; omega) ?_; intro v1 w1 hown hgr _; simp only [Nat.zero_add, List.nil_append] at hown; have hty := own_typed HN0.out; have hlt := own_lt HN0.out; have HB1 := Lib.hid ((HB0.out.alloc (.cells #[] 58)).kb (KB.grown hgr hty (by decide))); have HZ1 := Lib.hid ((HZ0.out.alloc (.cells #[] 58)).kb (KB.grown hgr hty (by decide))); have HX1 := Lib.hid ((HX0.out.alloc (.cells #[] 58)).grown hgr hlt); have HO1 := Lib.hid hown;  obtain ⟨A1, c1, rfl⟩ := own_isSlice hown; have hs := fun u => setCell_put HB1.out 5 u; have hc := HB1.out.cell 5; have hf := HB1.out.frozen 5; simp at hs hc; clear hown hgr hty hlt)
  clear hc hs hf
  obtain ⟨W2, hW2⟩ : ∃ W2, W2 = putB w1 w.heap.size 39 #[.string d.title, .string d.lang, .int .u8 d.rate, .bool d.drop, .int .i64 d.last, .slice A1 rn c1, .slice hea n hec, .slice hca cn hcc] := ⟨_, rfl⟩
  rw [← hW2]
  have HB2 : Hid (Blk W2 w.heap.size 39 #[.string d.title, .string d.lang, .int .u8 d.rate, .bool d.drop, .int .i64 d.last, .slice A1 rn c1, .slice hea n hec, .slice hca cn hcc]) := by show Blk _ _ _ _; rw [hW2]; exact HB1.out.put _
  have HZ2 : Hid (Blk W2 (w.heap.size + 1) 39 #[.string ⟨#[]⟩, .string ⟨#[]⟩, .int .u8 0, .bool false, .int .i64 0, .slice none 0 0, .slice none 0 0, .slice none 0 0]) := by show Blk _ _ _ _; rw [hW2]; exact HZ1.out.put_other (by omega) _
  have HX2 : Hid (Ext w W2) := by show Ext _ _; rw [hW2]; exact HX1.out.put (Nat.le_refl _) _ _
  have HO2 : Hid (W2.ownsRow w.heap.size 58 7 (.slice A1 rn c1) rn (d.regs.flatMap Reg.vals)) := by show World.ownsRow _ _ _ _ _ _ _; rw [hW2]; exact own_kb HO1.out (KB.put HB1.out (by decide))
  have HN2 := Lib.hid (own_nil0' (w := W2) (e := 31) (size := 8) (base := w.heap.size) (g := W2.heap.size) rfl HX2.out.size)
  clear hW2 HB1 HZ1 HX1 HO1 HN0 hc0
  have hc2 := fun obj o => (HB2.out.alloc obj).cell o
  go_upto_region 3 with (at_builtin; refine wpList_appendS rfl (.tmp 11) (.tmp 13) 37 rfl info_comI Tryd.underlying37 rfl (by decide) (by exact HN2.out) (by exact rfl) (by exact rfl) (by exact Sl.ext (Cells.stays _) HC.out (HX2.out.alloc _)) (fun _ => rfl) com_ones (by omega) (by simp [maxLen]; omega) (by have := HX2.out.size; simp; omega) ?_; intro v3 w3 hown hgr _; simp only [Nat.zero_add, List.nil_append] at hown; have hty := own_typed HN2.out; have hlt := own_lt HN2.out; have HB3 := Lib.hid ((HB2.out.alloc (.cells #[] 31)).kb (KB.grown hgr hty (by decide))); have HZ3 := Lib.hid ((HZ2.out.alloc (.cells #[] 31)).kb (KB.grown hgr hty (by decide))); have HX3 := Lib.hid ((HX2.out.alloc (.cells #[] 31)).grown hgr hlt); have HO3 := Lib.hid hown; have HR3 := Lib.hid (own_kb (own_ext HO2.out ((Ext.refl W2).alloc (.cells #[] 31))) (KB.grown hgr hty (by decide))); obtain ⟨A3, c3, rfl⟩ := own_isSlice hown; have hs := fun u => setCell_put HB3.out 7 u; have hc := HB3.out.cell 7; have hf := HB3.out.frozen 7; simp at hs hc; clear hown hgr hty hlt)
  clear hc hs hf
  obtain ⟨W4, hW4⟩ : ∃ W4, W4 = putB w3 w.heap.size 39 #[.string d.title, .string d.lang, .int .u8 d.rate, .bool d.drop, .int .i64 d.last, .slice A1 rn c1, .slice hea n hec, .slice A3 cn c3] := ⟨_, rfl⟩
  rw [← hW4]
  have HB4 : Hid (Blk W4 w.heap.size 39 #[.string d.title, .string d.lang, .int .u8 d.rate, .bool d.drop, .int .i64 d.last, .slice A1 rn c1, .slice hea n hec, .slice A3 cn c3]) := by show Blk _ _ _ _; rw [hW4]; exact HB3.out.put _
  have HZ4 : Hid (Blk W4 (w.heap.size + 1) 39 #[.string ⟨#[]⟩, .string ⟨#[]⟩, .int .u8 0, .bool false, .int .i64 0, .slice none 0 0, .slice none 0 0, .slice none 0 0]) := by show Blk _ _ _ _; rw [hW4]; exact HZ3.out.put_other (by omega) _
  have HX4 : Hid (Ext w W4) := by show Ext _ _; rw [hW4]; exact HX3.out.put (Nat.le_refl _) _ _
  have HR4 : Hid (W4.ownsRow w.heap.size 58 7 (.slice A1 rn c1) rn (d.regs.flatMap Reg.vals)) := by show World.ownsRow _ _ _ _ _ _ _; rw [hW4]; exact own_kb HR3.out (KB.put HB3.out (by decide))
  have HC4 : Hid (W4.ownsRow w.heap.size 31 8 (.slice A3 cn c3) cn (d.coms.flatMap Com.vals)) := by show World.ownsRow _ _ _ _ _ _ _; rw [hW4]; exact own_kb HO3.out (KB.put HB3.out (by decide))
  clear hW4 HB3 HZ3 HX3 HO3 HN2 hc2 HR3 HO2 HB2 HZ2
  have hc4 := fun o => HB4.out.cell o
  go_wp2_with fail
  clear hc4
  go_loopw [3, 19] (fun v i wr => R12ClLoop d #[.string d.title, .string d.lang, .int .u8 d.rate, .bool d.drop, .int .i64 d.last, .slice A1 rn c1, .slice hea n hec, .slice A3 cn c3] rn cn n w (.slice A1 rn c1) (.slice A3 cn c3) v i wr) (fun _ i _ => n - (intOf i).toNat)
  case atStart => exact ⟨0, Nat.zero_le _, rfl, HX4.out, HB4.out, HZ4.out, HR4.out, HC4.out, EvsOwn.nil _ _⟩
  case round =>
    obtain ⟨k, hk, rfl, hrr⟩ := hrel
    have HRr := Lib.hid hrr
    clear hrr
    by_cases hlt : k < n
    · obtain ⟨b, off, x, A', n', c', rfl, hxx, hxat, e0, e1, e2, e3, e4, e5, e6⟩ := (HE.out.ext HRr.out.ext).at_ev hlt
      have HXx := Lib.hid hxx
      have HCn := Lib.hid (fun w' (hx : Ext wr w') => REClone_any x A' n' c' w' (hxat.ext hx))
      have hn24 := hxat.2.2
      clear hxx hxat
      unfold EClPost Ev.cells at HCn
      have HBx := Lib.hid (Blk.new wr 45 #[.int .i64 x.id, .int .i64 x.inn, .int .i64 x.out, .string x.region, .int .u8 x.kind, .string x.speaker, .slice A' n' c'])
      go_wp2_with (refine wpList_loadB rfl 45 (.tmp 5) rfl wr.heap.size 45 _ _ (by exact rfl) (by exact HBx.out) Tryd.underlying45 rfl (by exact size_event) ?_)
      clear e0 e1 e2 e3 e4 e5 e6
      refine (HCn.out _ ((Ext.refl wr).alloc _)).mono ?_
      rintro en w5 ⟨A5, c5, rfl, hnc5, hrf5, hx5⟩
      have HX5 := Lib.hid (((Ext.refl wr).alloc (.cells #[.int .i64 x.id, .int .i64 x.inn, .int .i64 x.out, .string x.region, .int .u8 x.kind, .string x.speaker, .slice A' n' c'] 45)).trans hx5)
      have HRf := Lib.hid hrf5
      have hsz := HRr.out.ext.size
      have hsz5 := HX5.out.size
      obtain ⟨hs, hown⟩ := (HRr.out.evs.ext HX5.out).heads
      have HOw := Lib.hid hown
      clear hrf5 hx5 hown
      go_wp2_with (at_builtin; refine wpList_append1 rfl (.tmp 23) (.tmp 26) 36 rfl info_evtI Tryd.underlying36 rfl (by decide) (HOw.out.alloc _) (by exact rfl) w5.heap.size _ (by exact rfl) (by exact Blk.new' (by simp)) (by exact rfl) (by simp [Value.oneCell']) (by omega) (by simp [maxLen]; omega) (by simp; omega) ?_; intro v' w6 hown' hgr)
      have hg : EGood (w5.alloc (.cells #[.int .i64 x.id, .int .i64 x.inn, .int .i64 x.out, .string x.region, .int .u8 x.kind, .string x.speaker, .slice A5 n' c5] 45)) w.heap.size (EH.of x A5 n' c5) x := ⟨rfl, hnc5, hn24, (HRf.out.ext ((Ext.refl w5).alloc _)).le (by simp; omega)⟩
      exact ⟨⟨k + 1, by omega, by go_num, ((HRr.out.grow HX5.out).grow ((Ext.refl w5).alloc (.cells #[.int .i64 x.id, .int .i64 x.inn, .int .i64 x.out, .string x.region, .int .u8 x.kind, .string x.speaker, .slice A5 n' c5] 45))).step HXx.out (HOw.out.alloc _) hg hgr hown'⟩, by simp [intOf]; omega⟩
    · have hkn : k = n := by omega
      subst hkn
      have htk : d.evs.take k = d.evs := List.take_of_length_le (by rw [HEl.out]; omega)
      have hev := HRr.out.evs
      rw [htk] at hev
      obtain ⟨A6, c6, hv, hc6, -, -⟩ := hev.at_
      subst hv
      have HEv := Lib.hid hev
      have HB := Lib.hid HRr.out.doc
      have HZ := Lib.hid HRr.out.zero
      have hs6 := fun u => setCell_put HB.out 6 u
      have hc6' := HB.out.cell 6
      have hf6 := HB.out.frozen 6
      simp at hs6 hc6'
      clear hev htk
      go_wp2_with (first | (refine wpList_loadB rfl 39 (.tmp 1) rfl w.heap.size 39 _ _ (by exact rfl) (by exact HB.out.put _) Tryd.underlying39 rfl (by exact size_docI) ?_) | (refine wpList_storeB rfl 39 (.tmp 2) (.tmp 31) rfl (w.heap.size + 1) 39 _ _ (by exact rfl) (by exact rfl) (by exact HZ.out.put_other (by omega) _) (by exact rfl) (by exact size_docI) (by simp [Value.oneCell']) ?_))
      refine bodyPost_ret (v := .agg #[.string d.title, .string d.lang, .int .u8 d.rate, .bool d.drop, .int .i64 d.last, .slice A1 rn c1, .slice A6 k c6, .slice A3 cn c3]) ?_ rfl ⟨⟨A1, rn, c1, A6, k, c6, A3, cn, c3⟩, rfl, ?_, ?_⟩
      · exact results_B (P := Tryd.prog) Tryd.results13 (g := w.heap.size + 1) rfl (by exact (HZ.out.put_other (by omega) _).put _) Tryd.underlying39 rfl size_docI
      · have ho : DocOwn wr w.heap.size d ⟨A1, rn, c1, A6, k, c6, A3, cn, c3⟩ := ⟨HRr.out.regs, HRl.out, HEv.out, HRr.out.coms, HCl.out⟩
        exact (ho.put HB.out _).put (HZ.out.put_other (by omega) _) _
      · exact (HRr.out.ext.put (Nat.le_refl _) _ _).put (by omega) _ _
end Go.Proofs.YtagfedbdakmlgaaDoor

/-! AddP -/
namespace Go.Proofs.YtagfedbdakmlgaaDoor
set_option linter.unusedVariables false
set_option linter.unusedSimpArgs false
open Go.RowKit
def Doc.addErr (d : Doc) (id fr til : Int) (au tx : ByteArray) : Int :=
  if d.err ≠ 0 then d.err else match findE d.evs id with
    | none => 6
    | some k => if fr < 0 ∨ til ≤ fr ∨ (d.evs[k]?.map fun e => decide (e.len < til)) = some true then 2 else if nameB au = false then 5 else if vld tx = false then 10 else if tx.toList.isEmpty = true then 4 else
      if 400 < tx.size ∨ 64 ≤ d.coms.length ∨ 1099511627776 ≤ d.last then 9 else 0
def Doc.addD (d : Doc) (id fr til : Int) (au tx : ByteArray) : Doc := ⟨d.title, d.lang, d.rate, d.drop, d.last + 1, d.regs, d.evs, d.coms ++ [⟨d.last + 1, id, fr, til, au, tx, false, false⟩]⟩
def Doc.added (d : Doc) (id fr til : Int) (au tx : ByteArray) : Doc := if d.addErr id fr til au tx = 0 then d.addD id fr til au tx else Doc.zero
def Doc.addId (d : Doc) (id fr til : Int) (au tx : ByteArray) : Int := if d.addErr id fr til au tx = 0 then d.last + 1 else 0
def AddPost (d : Doc) (id fr til : Int) (au tx : ByteArray) (w : World) (en : Ending) (w' : World) : Prop :=
  ∃ h', en = .returned (.tuple #[.agg ((d.added id fr til au tx).cells h'), .int .i64 (d.addId id fr til au tx), .int .i64 (d.addErr id fr til au tx)]) ∧ DocOwn w' w.heap.size (d.added id fr til au tx) h' ∧ Ext w w'
theorem docZero_own (w : World) (L : Nat) : DocOwn w L Doc.zero docH0 := ⟨⟨rfl, .inl ⟨rfl, rfl⟩⟩, rfl, EvsOwn.nil _ _, ⟨rfl, .inl ⟨rfl, rfl⟩⟩, rfl⟩
section
variable {d : Doc} {id fr til : Int} {au tx : ByteArray} {k : Nat} {x : Ev}
end
/-- a document is loaded and stored as a result, at whatever time -/
structure RdJ (g : Nat) (cs : Array Value) (W : World) (us : List Value) (w' : World) : Prop where
  any : (us = [] ∧ Ext W w') ∨ (us ≠ [] ∧ ∃ w5, Ext W w5 ∧ w' = putB w5 g 39 cs)
theorem RdJ.start (g : Nat) (cs : Array Value) (W : World) : RdJ g cs W [] W.drew := ⟨.inl ⟨rfl, (Ext.refl W).drew⟩⟩
theorem RdJ.nil {g : Nat} {cs : Array Value} {W w' : World} (h : RdJ g cs W [] w') : Ext W w' := by
  rcases h.any with ⟨_, h⟩ | ⟨h, _⟩
  · exact h
  · exact absurd rfl h
theorem RdJ.one {g : Nat} {cs : Array Value} {W w' : World} {u : Value} (h : RdJ g cs W [u] w') : ∃ w5, Ext W w5 ∧ w' = putB w5 g 39 cs := by
  rcases h.any with ⟨h, _⟩ | ⟨_, h⟩
  · cases h
  · exact h
theorem RdJ.blk {g b : Nat} {T : TypeId} {cs cs' : Array Value} {W w' : World} {us : List Value} (h : RdJ g cs W us w') (hB : Blk W b T cs') (hne : b ≠ g) : Blk w' b T cs' := by
  rcases h.any with ⟨_, hx⟩ | ⟨_, w5, hx, rfl⟩
  · exact hB.ext hx
  · exact (hB.ext hx).put_other (Ne.symm hne) _
theorem RdJ.blk_nil {g b : Nat} {T : TypeId} {cs cs' : Array Value} {W w' : World} (h : RdJ g cs W [] w') (hB : Blk W b T cs') : Blk w' b T cs' := hB.ext h.nil
theorem RdJ.store {g : Nat} {cs : Array Value} {W w' : World} {u : Value} (h : RdJ g cs W [] w') : RdJ g cs W ([] ++ [u]) (putB w' g 39 cs) := ⟨.inr ⟨by simp, w', h.nil, rfl⟩⟩
end Go.Proofs.YtagfedbdakmlgaaDoor

/-! InsP -/
namespace Go.Proofs.YtagfedbdakmlgaaDoor
set_option linter.unusedVariables false
set_option linter.unusedSimpArgs false
open Go.RowKit
def Ev.setId (e : Ev) (i : Int) : Ev := ⟨i, e.inn, e.out, e.region, e.kind, e.speaker, e.rows⟩
def Doc.takenB (d : Doc) (id : Int) : Bool := decide (0 ≤ findI d.evs id) || decide (0 ≤ findCI d.coms id)
def Doc.insId (d : Doc) (e : Ev) : Int := if e.id = 0 then d.last + 1 else e.id
def Doc.insLast (d : Doc) (e : Ev) : Int := if e.id = 0 then d.last + 1 else d.last
/-- the error of the new event's number -/
def Doc.insE1 (d : Doc) (e : Ev) : Int := if e.id = 0 then (if 1099511627776 ≤ d.last then 9 else 0) else if e.id < 1 ∨ d.last < e.id then 2 else if d.takenB e.id = true then 7 else 0
def Doc.insErr (d : Doc) (e : Ev) : Int := if d.err ≠ 0 then d.err else if d.insE1 e ≠ 0 then d.insE1 e else if (e.setId (d.insId e)).err d.regs ≠ 0 then (e.setId (d.insId e)).err d.regs else if 400 ≤ d.evs.length then 9 else 0
def Doc.insD (d : Doc) (e : Ev) : Doc := ⟨d.title, d.lang, d.rate, d.drop, d.insLast e, d.regs, srtE (d.evs ++ [e.setId (d.insId e)]), d.coms⟩
/-- what Insert comes to -/
abbrev DIE : Type := Doc × Int × Int
def Doc.insX (d : Doc) (e : Ev) : DIE := if d.insErr e = 0 then (d.insD e, d.insId e, 0) else (Doc.zero, 0, d.insErr e)
def DIEPost (X : DIE) (w : World) (en : Ending) (w' : World) : Prop :=
  ∃ h', en = .returned (.tuple #[.agg (X.1.cells h'), .int .i64 X.2.1, .int .i64 X.2.2]) ∧ DocOwn w' w.heap.size X.1 h' ∧ Ext w w'
theorem diePost_err {X : DIE} {e : Int} {w w' : World} (he : X = (Doc.zero, 0, e)) (hx : Ext w w') : DIEPost X w (.returned (.tuple #[.agg docZero, .int .i64 0, .int .i64 e])) w' := by
  subst he
  exact ⟨docH0, by rw [docZero_cells], docZero_own _ _, hx⟩
section
variable {d : Doc} {e : Ev}
theorem ins_1 (h : d.err ≠ 0) : d.insX e = (Doc.zero, 0, d.err) := by
  have : d.insErr e = d.err := by unfold Doc.insErr; rw [if_pos h]
  unfold Doc.insX; rw [if_neg (by rw [this]; exact h), this]
theorem ins_2 {k : Int} (h : d.err = 0) (h1 : d.insE1 e = k) (hk : k ≠ 0) : d.insX e = (Doc.zero, 0, k) := by
  have : d.insErr e = k := by unfold Doc.insErr; rw [if_neg (by simpa using h), if_pos (by rw [h1]; exact hk), h1]
  unfold Doc.insX; rw [if_neg (by rw [this]; exact hk), this]
theorem ins_3 {k : Int} (h : d.err = 0) (h1 : d.insE1 e = 0) (h2 : (e.setId (d.insId e)).err d.regs = k) (hk : k ≠ 0) : d.insX e = (Doc.zero, 0, k) := by
  have : d.insErr e = k := by unfold Doc.insErr; rw [if_neg (by simpa using h), if_neg (by simpa using h1), if_pos (by rw [h2]; exact hk), h2]
  unfold Doc.insX; rw [if_neg (by rw [this]; exact hk), this]
theorem ins_4 (h : d.err = 0) (h1 : d.insE1 e = 0) (h2 : (e.setId (d.insId e)).err d.regs = 0) (h3 : 400 ≤ d.evs.length) : d.insX e = (Doc.zero, 0, 9) := by
  have : d.insErr e = 9 := by unfold Doc.insErr; rw [if_neg (by simpa using h), if_neg (by simpa using h1), if_neg (by simpa using h2), if_pos h3]
  unfold Doc.insX; rw [if_neg (by rw [this]; decide), this]
theorem ins_5 (h : d.err = 0) (h1 : d.insE1 e = 0) (h2 : (e.setId (d.insId e)).err d.regs = 0) (h3 : ¬ 400 ≤ d.evs.length) : d.insX e = (d.insD e, d.insId e, 0) := by
  have : d.insErr e = 0 := by unfold Doc.insErr; rw [if_neg (by simpa using h), if_neg (by simpa using h1), if_neg (by simpa using h2), if_neg h3]
  unfold Doc.insX; rw [if_pos this]
theorem e1_9 (h : e.id = 0) (h1 : 1099511627776 ≤ d.last) : d.insE1 e = 9 := by unfold Doc.insE1; rw [if_pos h, if_pos h1]
theorem e1_a (h : e.id = 0) (h1 : ¬ 1099511627776 ≤ d.last) : d.insE1 e = 0 := by unfold Doc.insE1; rw [if_pos h, if_neg h1]
theorem e1_2 (h : ¬ e.id = 0) (h1 : e.id < 1 ∨ d.last < e.id) : d.insE1 e = 2 := by unfold Doc.insE1; rw [if_neg h, if_pos h1]
theorem e1_7 (h : ¬ e.id = 0) (h1 : ¬ (e.id < 1 ∨ d.last < e.id)) (h2 : d.takenB e.id = true) : d.insE1 e = 7 := by unfold Doc.insE1; rw [if_neg h, if_neg h1, if_pos h2]
theorem e1_b (h : ¬ e.id = 0) (h1 : ¬ (e.id < 1 ∨ d.last < e.id)) (h2 : d.takenB e.id = false) : d.insE1 e = 0 := by unfold Doc.insE1; rw [if_neg h, if_neg h1, if_neg (by rw [h2]; decide)]
end
/-- heads whose rows lie somewhere: events -/
theorem evsAt_heads {w : World} {A : Option Addr} {n : Nat} {hs : List EH} {l : List Ev} (h : Sl w 7 (Cells EH.vals) A n hs) (hl : l.length = n) (hg : ∀ (i : Nat) (h : EH) (e : Ev), hs[i]? = some h → l[i]? = some e → h = EH.of e h.A h.n h.c ∧ EvAt w e h.A h.n h.c) : EvsAt w A n l := by
  refine ⟨hl, fun hn => ?_⟩
  obtain ⟨b, off, hA, hcs⟩ := h.2 hn
  refine ⟨b, off, hA, fun i e he => ?_⟩
  have hi : i < hs.length := by rw [h.1, ← hl]; exact (List.getElem?_eq_some_iff.1 he).1
  obtain ⟨x, hx⟩ : ∃ x, hs[i]? = some x := ⟨_, List.getElem?_eq_getElem hi⟩
  obtain ⟨hg1, hg2⟩ := hg i x e hx he
  refine ⟨x.A, x.n, x.c, ?_, hg2⟩
  have := hcs i x hx
  rw [hg1] at this
  exact this
theorem EvAt.setId {w : World} {e : Ev} {A : Option Addr} {n c : Nat} (h : EvAt w e A n c) (i : Int) : EvAt w (e.setId i) A n c := h
theorem EvSmall.setId {e : Ev} (h : EvSmall e) (i : Int) : EvSmall (e.setId i) := h
end Go.Proofs.YtagfedbdakmlgaaDoor

/-! TakenD -/
namespace Go.Proofs.YtagfedbdakmlgaaDoor
set_option linter.unusedVariables false
set_option linter.unusedSimpArgs false
open Go.RowKit
set_option maxHeartbeats 400000 in
theorem TFind1_any (x : Com) (g : Nat) (id : Int) (w : World) (hB : Blk w g 2 #[.int .i64 id]) :
    Calls Tryd.prog 63 #[.agg #[.int .i64 x.id, .int .i64 x.ev, .int .i64 x.fr, .int .i64 x.til, .string x.author, .string x.text, .bool x.done, .bool x.lost], .pointer (some ⟨g, 0, none⟩)] w fun e w' => e = .returned (.bool (x.id == id)) ∧ Ext w w' := by
  have HX := Lib.hid ((Ext.refl w).alloc (.cells #[.int .i64 x.id, .int .i64 x.ev, .int .i64 x.fr, .int .i64 x.til, .string x.author, .string x.text, .bool x.done, .bool x.lost] 31))
  have hg : ∀ o, (w.alloc o).cell? ⟨g, 0, none⟩ = some (.int .i64 id) := fun o => (hB.alloc o).cell 0
  have hlt := hB.lt
  clear hB
  go_enter Tryd.func63, Tryd.ntmps63
  go_wp2_with fail
  go_ret
  exact ⟨rfl, HX.out⟩
set_option maxRecDepth 100000 in
set_option maxHeartbeats 1000000 in
theorem TIndex_any (A : Option Addr) (n c : Nat) (l : List Com) (g : Nat) (id : Int) (w : World) (hl : ComsAt w A n l) (hn : n ≤ 4611686018427387904) (hB : Blk w g 2 #[.int .i64 id]) :
    Calls Tryd.prog 87 #[.slice A n c, .func (.func 63) #[] #[.pointer (some ⟨g, 0, none⟩)]] w fun e w' => e = .returned (.int .i64 (findCI l id)) ∧ Ext w w' := by
  have HE := Lib.hid hl
  have HLn := Lib.hid hl.len
  have HBg := Lib.hid hB
  clear hl hB
  go_enter Tryd.func87, Tryd.ntmps87
  go_wp2_with fail
  go_loopw [8] (fun i wr => CIxRel w n id l i wr) (fun i _ => n - (intOf i).toNat)
  case atStart => exact ⟨0, Nat.zero_le _, rfl, rfl, Ext.refl _⟩
  case round =>
    obtain ⟨k, hk, rfl, hF, hx⟩ := hrel
    have HF := Lib.hid hF
    clear hF
    by_cases hlt : k < n
    · obtain ⟨b, off, x, rfl, hxx, c0, c1, c2, c3, c4, c5, c6, c7⟩ := (HE.out.ext hx).at8 hlt
      have HXx := Lib.hid hxx
      have HCl := Lib.hid (TFind1_any x g id wr (HBg.out.ext hx))
      clear hxx
      by_cases he : x.id = id
      · have hb : (x.id == id) = true := by simpa using he
        have HV := Lib.hid (findC_here HF.out HXx.out he)
        rw [hb] at HCl
        clear he hb
        go_wp2_with fail
        refine HCl.out.mono ?_
        rintro en w2 ⟨rfl, hx2⟩
        go_wp2_with fail
        go_ret
        exact ⟨ret_int (by unfold findCI; rw [HV.out]), hx.trans hx2⟩
      · have hb : (x.id == id) = false := by simpa using he
        have HV := Lib.hid (findC_on HF.out HXx.out he)
        rw [hb] at HCl
        clear he hb
        go_wp2_with fail
        refine HCl.out.mono ?_
        rintro en w2 ⟨rfl, hx2⟩
        go_wp2_with fail
        exact ⟨⟨k + 1, by omega, by go_num, HV.out, hx.trans hx2⟩, by simp [intOf]; omega⟩
    · have hkn : k = n := by omega
      have HV : Hid (findC l id = none) := by
        show _ = _
        have h1 := HF.out
        rwa [List.take_of_length_le (by rw [HLn.out]; omega)] at h1
      subst hkn
      go_wp2_with fail
      go_ret
      exact ⟨ret_int (by unfold findCI; rw [HV.out]), hx⟩
set_option maxHeartbeats 400000 in
theorem TContains_any (A : Option Addr) (n c : Nat) (l : List Com) (g : Nat) (id : Int) (w : World) (hl : ComsAt w A n l) (hn : n ≤ 4611686018427387904) (hB : Blk w g 2 #[.int .i64 id]) :
    Calls Tryd.prog 62 #[.slice A n c, .func (.func 63) #[] #[.pointer (some ⟨g, 0, none⟩)]] w fun e w' => e = .returned (.bool (decide (0 ≤ findCI l id))) ∧ Ext w w' := by
  have HI := Lib.hid (TIndex_any A n c l g id w hl hn hB)
  clear hl hB
  go_enter Tryd.func62, Tryd.ntmps62
  go_wp2_with fail
  refine HI.out.mono ?_
  rintro en w2 ⟨rfl, hx2⟩
  go_wp2_with fail
  go_ret
  exact ⟨rfl, hx2⟩
set_option maxRecDepth 100000 in
set_option maxHeartbeats 1000000 in
theorem DTaken_any (d : Doc) (h : DocH) (id : Int) (w : World) (hat : DocAt w d h) (hn : h.en ≤ 1000000) (hcn : h.cn ≤ 1000000) :
    Calls Tryd.prog 36 #[.agg (d.cells h), .int .i64 id] w fun e w' => e = .returned (.bool (d.takenB id)) ∧ Ext w w' := by
  have HX : Hid (Ext w ((w.alloc (.cells (d.cells h) 39)).alloc (.cells #[.int .i64 id] 2))) := ((Ext.refl w).alloc _).alloc _
  have HB : Hid (Blk ((w.alloc (.cells (d.cells h) 39)).alloc (.cells #[.int .i64 id] 2)) w.heap.size 39 (d.cells h)) := (Blk.new w _ _).alloc _
  have HI : Hid (Blk ((w.alloc (.cells (d.cells h) 39)).alloc (.cells #[.int .i64 id] 2)) (w.heap.size + 1) 2 #[.int .i64 id]) := Blk.new' (by simp)
  have HF := Lib.hid (fun w' (hx : Ext w w') => DFind_any d h id w' (hat.evs.ext hx) (by omega))
  have HC := Lib.hid (fun w' (hx : Ext w w') g hB => TContains_any h.ca h.cn h.cc d.coms g id w' (hat.coms.ext hx) (by omega) hB)
  have HT : Hid (d.takenB id = (decide (0 ≤ findI d.evs id) || decide (0 ≤ findCI d.coms id))) := rfl
  clear hat
  obtain ⟨hra, nr, hrc, hea, hen, hec, hca, nc, hcc⟩ := h
  unfold Doc.cells at *
  dsimp only at *
  go_enter Tryd.func36, Tryd.ntmps36
  have hcb := fun o => HB.out.cell o
  have hci := fun o => HI.out.cell o
  go_wp2_with (refine wpList_loadB rfl 39 (.tmp 2) rfl w.heap.size 39 _ _ (by exact rfl) (by exact HB.out) Tryd.underlying39 rfl (by exact size_docI) ?_)
  clear hcb hci
  refine (HF.out _ HX.out).mono ?_
  rintro en w2 ⟨rfl, hx2⟩
  have HX2 := Lib.hid (HX.out.trans hx2)
  have HB2 := Lib.hid (HB.out.ext hx2)
  have HI2 := Lib.hid (HI.out.ext hx2)
  clear HX HB HI hx2
  have hcb := fun o => HB2.out.cell o
  by_cases h1 : 0 ≤ findI d.evs id
  · have HV : Hid (d.takenB id = true) := by show _ = _; rw [HT.out, decide_eq_true h1]; rfl
    go_wp2_with fail
    go_ret
    exact ⟨ret_bool HV.out.symm, HX2.out⟩
  have HV : Hid (d.takenB id = decide (0 ≤ findCI d.coms id)) := by show _ = _; rw [HT.out, decide_eq_false h1]; rfl
  go_wp2_with fail
  refine (HC.out _ HX2.out _ HI2.out).mono ?_
  rintro en w3 ⟨rfl, hx3⟩
  go_wp2_with fail
  go_ret
  exact ⟨ret_bool HT.out.symm, HX2.out.trans hx3⟩
end Go.Proofs.YtagfedbdakmlgaaDoor

/-! SortD -/
namespace Go.Proofs.YtagfedbdakmlgaaDoor
set_option linter.unusedVariables false
set_option linter.unusedSimpArgs false
open Go.RowKit
set_option maxRecDepth 100000 in
set_option maxHeartbeats 2000000 in
theorem sortF_d (x y : EH) (w : World) :
    Calls Tryd.prog 70 #[.agg x.vals.toArray, .agg y.vals.toArray] w fun e w' => e = .returned (.int .i64 (cmpH x y)) ∧ Extd w w' := by
  have HX := Lib.hid (((Extd.refl w).alloc (.cells x.vals.toArray 45)).alloc (.cells y.vals.toArray 45))
  have HV : Hid (orI (cmpI x.inn y.inn) (cmpI x.id y.id) = cmpH x y) := rfl
  unfold EH.vals at HX ⊢
  go_enter Tryd.func70, Tryd.ntmps70
  go_wp2_with fail
  go_region_held3 (fun w' => w'.cell? ⟨w.heap.size, 0, none⟩ = some (.int .i64 x.id) ∧ w'.cell? ⟨w.heap.size, 1, none⟩ = some (.int .i64 x.inn) ∧ w'.cell? ⟨w.heap.size + 1, 0, none⟩ = some (.int .i64 y.id) ∧ w'.cell? ⟨w.heap.size + 1, 1, none⟩ = some (.int .i64 y.inn)) (go_keep) (first | (go_at_call 72; refine (Compare_any _ _ _).mono ?_; rintro e w1 ⟨rfl, rfl⟩) | (go_at_call 71; refine (Or_any (cmpI x.inn y.inn) (cmpI x.id y.id) _ _ _ (by exact (Blk.drew (Blk.new' (by simp))).cell 0) (by exact (Blk.drew (Blk.new' (by simp))).cell 1)).mono ?_; rintro e w1 ⟨rfl, rfl⟩))
  go_wp2_with fail
  go_ret
  exact ⟨ret_int HV.out, (HX.out.drew).alloc _⟩
theorem sortF_lays (g off n : Nat) (w : World) : Go.Proofs.CmpLays Tryd.prog 70 #[] EH.vals 7 cmpH g off n w :=
  fun _ _ _ _ x y => (sortF_d x y _).mono fun _ _ ⟨he, hx⟩ => ⟨he, hx.grow⟩
theorem sortF_enter : ∀ args w, (callFunc 70 args).run Tryd.prog w = .ok (.enter 70 args) w := Go.Proofs.enters_of Tryd.func70 (by kernel_rfl) rfl
theorem EH.ones (x : EH) : ∀ v ∈ x.vals, v.oneCell' = true := by
  intro v hv
  simp only [EH.vals, List.mem_cons, List.not_mem_nil, or_false] at hv
  rcases hv with rfl | rfl | rfl | rfl | rfl | rfl | rfl <;> rfl
/-- events are sorted into memory of one's own -/
def SortPost (l : List Ev) (n : Nat) (w : World) (en : Ending) (w' : World) : Prop := ∃ v, en = .returned v ∧ EvsOwn w' w.heap.size v n (srtE l) ∧ Ext w w'
def SortLoop (l : List Ev) (n : Nat) (w : World) (v i : Value) (wr : World) : Prop := ∃ k : Nat, k ≤ n ∧ i = .int .i64 k ∧ Ext w wr ∧ EvsOwn wr w.heap.size v k (l.take k)
theorem SortLoop.step {w wr w2 : World} {k : Nat} {l : List Ev} {v v' : Value} {e : Ev} {hs : List EH} {A' : Option Addr} {n' c' : Nat} (hx : Ext w wr) (r : EvsOwn wr w.heap.size v k (l.take k)) (he : l[k]? = some e) (h1 : wr.ownsRow w.heap.size 45 7 v k (hs.flatMap EH.vals))
    (hg : EGood wr w.heap.size (EH.of e A' n' c') e) (hgr : wr.grownBy w2 v.ownBlock) (hO : w2.ownsRow w.heap.size 45 7 v' (k + 1) (hs.flatMap EH.vals ++ (e.cells A' n' c').toList)) : Ext w w2 ∧ EvsOwn w2 w.heap.size v' (k + 1) (l.take (k + 1)) := by
  refine ⟨hx.grown hgr (fun q hq => own_lt h1 q hq), ?_⟩
  rw [take_snoc' l k e he]
  exact r.push h1 hg hgr hO
/-- SortStableFunc at a row of events of one's own -/
theorem stable_own {w w0 : World} {L n : Nat} {v : Value} {l : List Ev} (h : EvsOwn w L v n l) (hn : n < 1152921504606846976) (hx : Ext w0 w) (hL : w0.heap.size ≤ L) :
    Calls Tryd.prog 69 #[v, .func (.func 70) #[] #[]] w fun e w' => e = .returned (.tuple #[]) ∧ EvsOwn w' L v n (srtE l) ∧ Ext w0 w' := by
  obtain ⟨hs, h1, h2, h3, h4⟩ := h
  rcases h1.2 with ⟨hv, hn0⟩ | ⟨g, c, cur, rfl, hg, hb, -⟩
  · subst hv
    refine (sortStable_nil stL _ w).mono ?_
    rintro e w' ⟨rfl, rfl⟩
    have hl : l = [] := List.length_eq_zero_iff.1 (by omega)
    subst hl
    exact ⟨rfl, ⟨hs, h1, h2, h3, fun i h e a b => by simp [srtE, Stb.sortS] at b⟩, hx⟩
  · have hg' : g < w.heap.size := (Array.getElem?_eq_some_iff.1 hb).1
    have hz : hs.toArray.size = n := by simp [h2]
    have hH := own_holds EH.len h1 h2
    have hcon := sortStable_st stL EH.vals cmpH 70 #[] g 0 c hs.toArray hs.toArray w w sortF_enter (sortF_lays g 0 _ w) ⟨EH.len, EH.ones, hH, hg'⟩ rfl (Go.Proofs.SWK.start hH) (by rw [hz]; exact hn) (by rw [ltOf_H]; exact ltH_sw)
    rw [hz] at hcon
    refine hcon.mono ?_
    rintro e w' ⟨rfl, d', hd', hS, hl⟩
    obtain ⟨hs', rfl⟩ : ∃ hs' : List EH, d' = hs'.toArray := ⟨d'.toList, by simp⟩
    refine ⟨rfl, EvsOwn.sorted h1 h2 h3 h4 hS (by rw [ltOf_H] at hl; simpa using hl), hx.grown (swk_grown hS) (fun q hq => by cases hq; omega)⟩
set_option maxRecDepth 100000 in
set_option maxHeartbeats 4000000 in
theorem DSort_any (l : List Ev) (A : Option Addr) (n c : Nat) (w : World) (hat : EvsAt w A n l) (hn : n * 88 ≤ 140737488355328) :
    Calls Tryd.prog 38 #[.slice A n c] w (SortPost l n w) := by
  have HE := Lib.hid hat
  have HEl := Lib.hid hat.len
  clear hat
  go_enter Tryd.func38, Tryd.ntmps38
  go_wp2_with fail
  go_loopw [3, 8] (fun v i wr => SortLoop l n w v i wr) (fun _ i _ => n - (intOf i).toNat)
  case atStart => exact ⟨0, Nat.zero_le _, rfl, Ext.refl w, EvsOwn.nil _ _⟩
  case round =>
    obtain ⟨k, hk, rfl, hx, hev⟩ := hrel
    have HXr := Lib.hid hx
    have HEv := Lib.hid hev
    clear hx hev
    by_cases hlt : k < n
    · obtain ⟨b, off, x, A', n', c', rfl, hxx, hxat, e0, e1, e2, e3, e4, e5, e6⟩ := (HE.out.ext HXr.out).at_ev hlt
      have HXx := Lib.hid hxx
      have HCn := Lib.hid (fun w' (hx : Ext wr w') => EClone_any x A' n' c' w' (hxat.ext hx))
      have hn24 := hxat.2.2
      clear hxx hxat
      unfold EClPost Ev.cells at HCn
      have HBx := Lib.hid (Blk.new wr 45 #[.int .i64 x.id, .int .i64 x.inn, .int .i64 x.out, .string x.region, .int .u8 x.kind, .string x.speaker, .slice A' n' c'])
      go_wp2_with (refine wpList_loadB rfl 45 (.tmp 5) rfl wr.heap.size 45 _ _ (by exact rfl) (by exact HBx.out) Tryd.underlying45 rfl (by exact size_event) ?_)
      clear e0 e1 e2 e3 e4 e5 e6
      refine (HCn.out _ ((Ext.refl wr).alloc _)).mono ?_
      rintro en w5 ⟨A5, c5, rfl, hnc5, hrf5, hx5⟩
      have HX5 := Lib.hid (((Ext.refl wr).alloc (.cells #[.int .i64 x.id, .int .i64 x.inn, .int .i64 x.out, .string x.region, .int .u8 x.kind, .string x.speaker, .slice A' n' c'] 45)).trans hx5)
      have HRf := Lib.hid hrf5
      have hsz := HXr.out.size
      have hsz5 := HX5.out.size
      obtain ⟨hs, hown⟩ := (HEv.out.ext HX5.out).heads
      have HOw := Lib.hid hown
      clear hrf5 hx5 hown
      go_wp2_with (at_builtin; refine wpList_append1 rfl (.tmp 12) (.tmp 15) 36 rfl info_evtI Tryd.underlying36 rfl (by decide) (HOw.out.alloc _) (by exact rfl) w5.heap.size _ (by exact rfl) (by exact Blk.new' (by simp)) (by exact rfl) (by simp [Value.oneCell']) (by omega) (by simp [maxLen]; omega) (by simp; omega) ?_; intro v' w6 hown' hgr)
      have hg : EGood (w5.alloc (.cells #[.int .i64 x.id, .int .i64 x.inn, .int .i64 x.out, .string x.region, .int .u8 x.kind, .string x.speaker, .slice A5 n' c5] 45)) w.heap.size (EH.of x A5 n' c5) x := ⟨rfl, hnc5, hn24, (HRf.out.ext ((Ext.refl w5).alloc _)).le (by simp; omega)⟩
      have hst := SortLoop.step (HXr.out.trans (HX5.out.trans ((Ext.refl w5).alloc (.cells #[.int .i64 x.id, .int .i64 x.inn, .int .i64 x.out, .string x.region, .int .u8 x.kind, .string x.speaker, .slice A5 n' c5] 45)))) ((HEv.out.ext HX5.out).ext ((Ext.refl w5).alloc (.cells #[.int .i64 x.id, .int .i64 x.inn, .int .i64 x.out, .string x.region, .int .u8 x.kind, .string x.speaker, .slice A5 n' c5] 45))) HXx.out (HOw.out.alloc _) hg hgr hown'
      exact ⟨⟨k + 1, by omega, by go_num, hst.1, hst.2⟩, by simp [intOf]; omega⟩
    · have hkn : k = n := by omega
      subst hkn
      have htk : l.take k = l := List.take_of_length_le (by rw [HEl.out]; omega)
      have hev := HEv.out
      rw [htk] at hev
      obtain ⟨A6, c6, hv, hc6, -, -⟩ := hev.at_
      subst hv
      have HS := Lib.hid (stable_own hev (by omega) HXr.out (Nat.le_refl _))
      clear hev htk HEv
      go_wp2_with fail
      refine HS.out.mono ?_
      rintro en w9 ⟨rfl, ho9, hx9⟩
      go_wp2_with fail
      go_ret
      exact ⟨_, rfl, ho9, hx9⟩
end Go.Proofs.YtagfedbdakmlgaaDoor
