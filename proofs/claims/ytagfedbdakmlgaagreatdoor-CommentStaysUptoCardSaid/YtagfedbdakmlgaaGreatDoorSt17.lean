/- Laid together: The walk of document.Remove. The walk of the reference's lose. The walk of the reference's Name. The walks of the reference's regions: Default, Check. The walks of the reference's regions: usable, Find, CheckList. The walk of the reference's Place. The walk of the reference's neat. The walks of the reference's rows: Valid, Len, Plain. The walk of the reference's check of a row. The walk of the reference's check of an event. The walk of the reference's checkHead. The walk of the reference's Len of an event. The walk of the reference's checkComment. The walk of the reference's check of a document. The walk of the reference's Remove. The walk of the reference's Sort. The walk of the reference's Shift. The walk of document.Put. -/
import Derived.Test.YtagfedbdakmlgaaGreatDoorSt15
import Derived.Test.YtagfedbdakmlgaaGreatDoorSt16
import Derived.Test.YtagfedbdakmlgaaGreatDoorSt08
import Derived.Test.YtagfedbdakmlgaaGreatDoorSt02
import Derived.Test.YtagfedbdakmlgaaGreatDoorSt07
import Derived.Test.YtagfedbdakmlgaaGreatDoorSt05
import Derived.Test.YtagfedbdakmlgaaGreatDoorSt03
import Derived.Test.YtagfedbdakmlgaaGreatDoorSt11
import Derived.Test.YtagfedbdakmlgaaGreatDoorSt04
import Derived.Test.YtagfedbdakmlgaaGreatDoorSt10
import Derived.Test.YtagfedbdakmlgaaGreatDoorSt12

/-! RemvD -/
namespace Go.Proofs.YtagfedbdakmlgaaGreatDoor
set_option linter.unusedVariables false
set_option linter.unusedSimpArgs false
open Go.RowKit
def RemLoop (d : Doc) (k : Nat) (id : Int) (w : World) (h : DocH) (L : Nat) (cs : Array Value) (v : Value) (wr : World) : Prop :=
  ∃ i : Nat, i ≤ h.cn ∧ v = .int .i64 i ∧ Ext w wr ∧ Blk wr w.heap.size 27 cs ∧ Blk wr (w.heap.size + 1) 27 docZero ∧ DocOwn wr L ((d.cutE k).withComs ((d.coms.take i).map (Com.lose id) ++ d.coms.drop i)) h
theorem blk_away {w w1 : World} {g : Nat} {t : TypeId} {cs : Array Value} {row : Option Nat} (h : Blk w g t cs) (hg : w.grownBy w1 row) (hne : some g ≠ row) : Blk w1 g t cs := (hg.block g h.lt hne).trans h
set_option maxRecDepth 100000 in
set_option maxHeartbeats 4000000 in
theorem DRemove_any (d : Doc) (h : DocH) (id : Int) (w : World) (hE : Env w) (hat : DocAt w d h) (hf : DocFit d) (hrn : h.rn ≤ 9223372036854775807) (hr : h.rn * 56 ≤ 140737488355328) (hn : h.en ≤ 1000000) (hcn : h.cn ≤ 1000000) :
    Calls Tryz.prog 30 #[.agg (d.cells h), .int .i64 id] w (DEPost (d.remX id) w) := by
  have HX : Hid (Ext w ((w.alloc (.cells (d.cells h) 27)).alloc (.cells docZero 27))) := ((Ext.refl w).alloc _).alloc _
  have HB : Hid (Blk ((w.alloc (.cells (d.cells h) 27)).alloc (.cells docZero 27)) w.heap.size 27 (d.cells h)) := (Blk.new w _ _).alloc _
  have HZ : Hid (Blk ((w.alloc (.cells (d.cells h) 27)).alloc (.cells docZero 27)) (w.heap.size + 1) 27 docZero) := Blk.new' (by simp)
  have HCk := Lib.hid (fun w' (hx : Ext w w') => DCheck_any d h w' (hE.ext hx) (hat.ext hx) hf hrn hn (by omega))
  have HFd := Lib.hid (fun w' (hx : Ext w w') => DFind_any d h id w' (hat.evs.ext hx) (by omega))
  have HCl := Lib.hid (fun w' (hx : Ext w w') => DClone_any d h w' (hat.ext hx) hr (by omega) (by omega))
  have HEln := Lib.hid hat.evs.len
  have HAt := Lib.hid hat.coms
  have HCln := Lib.hid hat.coms.len
  have END : ∀ (w9 : World) (e : Int), Ext w w9 → Blk w9 (w.heap.size + 1) 27 docZero → d.remX id = (Doc.zero, e) → ∀ (tmps : Array Value), tmps.getD 4 undef = .pointer (some ⟨w.heap.size + 1, 0, none⟩) → tmps.getD 5 undef = .int .i64 e →
      (results Tryz.f30 tmps).run Tryz.prog (putB w9 (w.heap.size + 1) 27 docZero) = .ok (.tuple #[.agg docZero, .int .i64 e]) (putB w9 (w.heap.size + 1) 27 docZero) ∧
        DEPost (d.remX id) w (.returned (.tuple #[.agg docZero, .int .i64 e])) (putB w9 (w.heap.size + 1) 27 docZero) := fun w9 e hx hz he tmps h8 h9 => by
    refine ⟨?_, dePost_err he (hx.put (by omega) _ _)⟩
    have := results_B_tmp (P := Tryz.prog) Tryz.results30 (tmps := tmps) (w := putB w9 (w.heap.size + 1) 27 docZero) (g := w.heap.size + 1) h8 (hz.put _) Tryz.underlying27 rfl size_docI
    rw [this, h9]
  have HEnd := Lib.hid END
  clear END hat hE hf hrn hr
  obtain ⟨hra, nr, hrc, hea, hen, hec, hca, nc, hcc⟩ := h
  unfold DClPost at HCl
  unfold Doc.cells docZero at *
  dsimp only at *
  go_enter Tryz.func30, Tryz.ntmps30
  go_wp2_with (refine wpList_loadB rfl 27 (.tmp 2) rfl (w.heap.size) 27 _ _ (by exact rfl) (by exact HB.out) Tryz.underlying27 rfl (by exact size_docI) ?_)
  refine (HCk.out _ HX.out).mono ?_
  rintro en w0 ⟨rfl, hx0⟩
  have HX0 := Lib.hid (HX.out.trans hx0)
  have HB0 := Lib.hid (HB.out.ext hx0)
  have HZ0 := Lib.hid (HZ.out.ext hx0)
  clear hx0 HX HB HZ HCk
  by_cases h0 : d.err = 0
  case neg =>
    have hne2 : (d.err != 0) = true := by simpa using h0
    have HR1 : Hid (d.remX id = (Doc.zero, d.err)) := rem_1 h0
    clear h0
    go_wp2_with (refine wpList_storeB rfl 27 (.tmp 4) _ rfl (w.heap.size + 1) 27 _ _ (by exact rfl) (by exact rfl) (by exact HZ0.out) (by exact rfl) (by exact size_docI) (by simp [Value.oneCell']) ?_)
    exact (fun q => bodyPost_ret q.1 rfl q.2) (HEnd.out _ _ HX0.out HZ0.out (HR1.out) _ (by exact rfl) (by exact rfl))
  have HC := Lib.hid h0
  rw [h0]
  clear h0
  go_wp2_with (refine wpList_loadB rfl 27 (.tmp 2) rfl (w.heap.size) 27 _ _ (by exact rfl) (by exact HB0.out) Tryz.underlying27 rfl (by exact size_docI) ?_)
  refine (HFd.out _ HX0.out).mono ?_
  rintro en w1 ⟨rfl, hx1⟩
  have HX1 := Lib.hid (HX0.out.trans hx1)
  have HB1 := Lib.hid (HB0.out.ext hx1)
  have HZ1 := Lib.hid (HZ0.out.ext hx1)
  clear hx1 HX0 HB0 HZ0 HFd
  cases hfc : findE d.evs id with
  | none =>
    have hfi : findI d.evs id = -1 := by unfold findI; rw [hfc]
    have HR1 : Hid (d.remX id = (Doc.zero, 6)) := rem_2 HC.out hfc
    rw [hfi]
    clear hfc hfi
    go_wp2_with (refine wpList_storeB rfl 27 (.tmp 4) _ rfl (w.heap.size + 1) 27 _ _ (by exact rfl) (by exact rfl) (by exact HZ1.out) (by exact rfl) (by exact size_docI) (by simp [Value.oneCell']) ?_)
    exact (fun q => bodyPost_ret q.1 rfl q.2) (HEnd.out _ _ HX1.out HZ1.out (HR1.out) _ (by exact rfl) (by exact rfl))
  | some k =>
  have hfi : findI d.evs id = (k : Int) := by unfold findI; rw [hfc]
  have hkl : k < hen := by have h1 := findE_lt hfc; have h2 := HEln.out; omega
  have HF := Lib.hid hfc
  rw [hfi]
  clear hfc hfi
  have HR1 : Hid (d.remX id = ((d.cutE k).withComs (d.coms.map (Com.lose id)), 0)) := rem_3 HC.out HF.out
  go_wp2_with (refine wpList_loadB rfl 27 (.tmp 2) rfl (w.heap.size) 27 _ _ (by exact rfl) (by exact HB1.out) Tryz.underlying27 rfl (by exact size_docI) ?_)
  refine (HCl.out _ HX1.out).mono ?_
  rintro en w5 ⟨⟨ra, rn, rc, ea, en5, ec, ca, cn, cc⟩, rfl, ho5, hx5⟩
  dsimp only
  have hsz := HX1.out.size
  have hszz := HZ1.out.lt
  have hen5 : k < en5 := by have := ho5.evs.len; have := HEln.out; dsimp only at *; omega
  have hen6 : en5 ≤ 1000000 := by have := ho5.evs.len; have := HEln.out; dsimp only at *; omega
  have hcn6 : cn ≤ 1000000 := by have := ho5.clen; have := HCln.out; dsimp only at *; omega
  obtain ⟨g, hea5, hLg⟩ := ho5.ev_at hen5
  dsimp only at hea5
  subst hea5
  have HX5 := Lib.hid (HX1.out.trans hx5)
  have HB5 := Lib.hid (HB1.out.ext hx5)
  have HZ5 := Lib.hid (HZ1.out.ext hx5)
  have HO5 := Lib.hid (DocOwn.put ho5 HB5.out #[.string d.title, .string d.lang, .int .u8 d.rate, .bool d.drop, .int .i64 d.last, .slice ra rn rc, .slice (some ⟨g, 0, none⟩) en5 ec, .slice ca cn cc])
  have HP5 := Lib.hid (HB5.out.put #[.string d.title, .string d.lang, .int .u8 d.rate, .bool d.drop, .int .i64 d.last, .slice ra rn rc, .slice (some ⟨g, 0, none⟩) en5 ec, .slice ca cn cc])
  have HZ5' := Lib.hid (HZ5.out.put_other (g' := w.heap.size) (t' := 27) (by omega) #[.string d.title, .string d.lang, .int .u8 d.rate, .bool d.drop, .int .i64 d.last, .slice ra rn rc, .slice (some ⟨g, 0, none⟩) en5 ec, .slice ca cn cc])
  have HX5' := Lib.hid (HX5.out.put (g := w.heap.size) (Nat.le_refl _) 27 #[.string d.title, .string d.lang, .int .u8 d.rate, .bool d.drop, .int .i64 d.last, .slice ra rn rc, .slice (some ⟨g, 0, none⟩) en5 ec, .slice ca cn cc])
  have hcp := fun o => HP5.out.cell o
  clear ho5 hx5 HX5 HZ5
  go_wp2_with (refine wpList_storeB rfl 27 (.tmp 2) _ rfl (w.heap.size) 27 _ _ (by exact rfl) (by exact rfl) (by exact HB5.out) (by exact rfl) (by exact size_docI) (by simp [Value.oneCell']) ?_)
  clear hcp
  obtain ⟨hs, hown, hh, hel, hgd⟩ := HO5.out.evs
  dsimp only at hown hh hel hgd
  have HGd := Lib.hid hgd
  have HHh := Lib.hid hh
  have HHe := Lib.hid hel
  clear hgd hel
  refine (EDel_any hown hh hen5).mono ?_
  rintro en w6 ⟨rfl, hrow, cur, w7, cur', hBc, hx7, rfl⟩
  have hBc7 := hBc.ext hx7
  have HX6 := Lib.hid ((HX5'.out.trans hx7).put (g := g) (by omega) 66 cur')
  have HP6 := Lib.hid ((HP5.out.ext hx7).kb (KB.put (cs' := cur') hBc7 (by decide)))
  have HZ6 := Lib.hid ((HZ5'.out.ext hx7).kb (KB.put (cs' := cur') hBc7 (by decide)))
  have HO6 : Hid (DocOwn (putB w7 g 66 cur') w1.heap.size (d.cutE k) ⟨ra, rn, rc, some ⟨g, 0, none⟩, en5 - 1, ec, ca, cn, cc⟩) :=
    ⟨own_kb (own_ext HO5.out.regs hx7) (KB.put hBc7 (by decide)), HO5.out.rlen, EvsOwn.cut HHh.out HHe.out HGd.out hen5 ((KB.ext hx7).trans (KB.put hBc7 (by decide))) ((KB.ext hx7).trans (KB.put hBc7 (by decide))) hrow, own_kb (own_ext HO5.out.coms hx7) (KB.put hBc7 (by decide)), HO5.out.clen⟩
  have hs6 := setCell_put HP6.out 6 (.slice (some ⟨g, 0, none⟩) (en5 - 1) ec)
  have hc6 := HP6.out.cell 6
  have hf6 := HP6.out.frozen 6
  simp at hs6 hc6
  have HP7 := Lib.hid (HP6.out.put #[.string d.title, .string d.lang, .int .u8 d.rate, .bool d.drop, .int .i64 d.last, .slice ra rn rc, .slice (some ⟨g, 0, none⟩) (en5 - 1) ec, .slice ca cn cc])
  have HZ7 := Lib.hid (HZ6.out.put_other (g' := w.heap.size) (t' := 27) (by omega) #[.string d.title, .string d.lang, .int .u8 d.rate, .bool d.drop, .int .i64 d.last, .slice ra rn rc, .slice (some ⟨g, 0, none⟩) (en5 - 1) ec, .slice ca cn cc])
  have HX7 := Lib.hid (HX6.out.put (g := w.heap.size) (Nat.le_refl _) 27 #[.string d.title, .string d.lang, .int .u8 d.rate, .bool d.drop, .int .i64 d.last, .slice ra rn rc, .slice (some ⟨g, 0, none⟩) (en5 - 1) ec, .slice ca cn cc])
  have HO7 := Lib.hid (HO6.out.put HP6.out #[.string d.title, .string d.lang, .int .u8 d.rate, .bool d.drop, .int .i64 d.last, .slice ra rn rc, .slice (some ⟨g, 0, none⟩) (en5 - 1) ec, .slice ca cn cc])
  clear hrow hBc hx7 hBc7 HX5' HZ5' HP5 HB5 HO5 HGd hown hh HHh HHe
  go_upto_region 9 with fail
  clear hs6 hc6 hf6
  obtain ⟨W, hW⟩ : ∃ W, W = putB (putB w7 g 66 cur') w.heap.size 27 #[.string d.title, .string d.lang, .int .u8 d.rate, .bool d.drop, .int .i64 d.last, .slice ra rn rc, .slice (some ⟨g, 0, none⟩) (en5 - 1) ec, .slice ca cn cc] := ⟨_, rfl⟩
  rw [← hW] at HP7 HZ7 HX7 HO7 ⊢
  clear hW HP6 HZ6 HX6 HO6
  have hcp := fun o => HP7.out.cell o
  have hcl7 := HO7.out.clen
  dsimp only at hcl7
  go_wp2_with fail
  clear hcp
  go_loopw [34] (fun i wr => RemLoop d k id w ⟨ra, rn, rc, some ⟨g, 0, none⟩, en5 - 1, ec, ca, cn, cc⟩ w1.heap.size #[.string d.title, .string d.lang, .int .u8 d.rate, .bool d.drop, .int .i64 d.last, .slice ra rn rc, .slice (some ⟨g, 0, none⟩) (en5 - 1) ec, .slice ca cn cc] i wr) (fun i _ => cn - (intOf i).toNat)
  case atStart => exact ⟨0, Nat.zero_le _, rfl, HX7.out, HP7.out, HZ7.out, HO7.out⟩
  case round =>
    obtain ⟨i, hi, rfl, hx8, hp8, hz8, ho8⟩ := hrel
    dsimp only at hi
    have HX8 := Lib.hid hx8
    have HP8 := Lib.hid hp8
    have HZ8 := Lib.hid hz8
    have HO8 := Lib.hid ho8
    clear hx8 hp8 hz8 ho8 HX7 HP7 HZ7 HO7
    by_cases hlt : i < cn
    · obtain ⟨gc, hgc, hLc⟩ := HO8.out.com_at hlt
      dsimp only at hgc
      have hgcs := hgc
      subst hgc
      obtain ⟨c, hc0⟩ : ∃ c, d.coms[i]? = some c := ⟨_, List.getElem?_eq_getElem (by have : d.coms.length = cn := hcl7; omega)⟩
      have hls := lose_step id d.coms i c hc0
      have HNx := Lib.hid (lose_next id d.coms i c hc0)
      have HLs := Lib.hid hls.2
      have e1 := HO8.out.com_cell (j := 1) hgcs hls.1 rfl
      have e2 := HO8.out.com_cell (j := 2) hgcs hls.1 rfl
      have e3 := HO8.out.com_cell (j := 3) hgcs hls.1 rfl
      have e7 := HO8.out.com_cell (j := 7) hgcs hls.1 rfl
      obtain ⟨e1, -⟩ := e1
      obtain ⟨e2, f2⟩ := e2
      obtain ⟨e3, f3⟩ := e3
      obtain ⟨e7, f7⟩ := e7
      have hcp := fun o => HP8.out.cell o
      have HL1 := Lib.hid hls.1
      have HGc := Lib.hid hgcs
      have HC0 := Lib.hid hc0
      clear hls hc0
      by_cases hev : c.ev = id
      · have heb : (c.ev == id) = true := by simpa using hev
        have HLc : Hid (c.lose id = ⟨c.id, c.ev, 0, 0, c.author, c.text, c.done, true⟩) := by show _ = _; unfold Com.lose; rw [if_pos hev]
        clear hev
        have s1 := HO8.out.com_set (c' := ⟨c.id, c.ev, 0, c.til, c.author, c.text, c.done, c.lost⟩) (j := 2) (u := .int .i64 0) hgcs HL1.out rfl (by decide)
        obtain ⟨o1, g1⟩ := s1
        have hil : i < ((d.coms.take i).map (Com.lose id) ++ d.coms.drop i).length := (List.getElem?_eq_some_iff.1 HL1.out).1
        have q1 := List.getElem?_set_self (a := (⟨c.id, c.ev, 0, c.til, c.author, c.text, c.done, c.lost⟩ : Com)) hil
        have q2 := List.getElem?_set_self (a := (⟨c.id, c.ev, 0, 0, c.author, c.text, c.done, c.lost⟩ : Com)) (i := i) (l := ((d.coms.take i).map (Com.lose id) ++ d.coms.drop i).set i ⟨c.id, c.ev, 0, c.til, c.author, c.text, c.done, c.lost⟩) (by rw [List.length_set]; exact hil)
        have t1 := o1.com_cell (j := 3) hgcs q1 rfl
        have s2 := o1.com_set (c' := ⟨c.id, c.ev, 0, 0, c.author, c.text, c.done, c.lost⟩) (j := 3) (u := .int .i64 0) hgcs q1 rfl (by decide)
        obtain ⟨o2, g2⟩ := s2
        have t2 := o2.com_cell (j := 7) hgcs q2 rfl
        have s3 := o2.com_set (c' := ⟨c.id, c.ev, 0, 0, c.author, c.text, c.done, true⟩) (j := 7) (u := .bool true) hgcs q2 rfl (by decide)
        obtain ⟨o3, g3⟩ := s3
        obtain ⟨t1, u1⟩ := t1
        obtain ⟨t2, u2⟩ := t2
        have hLg2 : w.heap.size + 1 < gc := by omega
        have HX9 := Lib.hid (((HX8.out.setCell (p := ⟨gc, i * 8 + 2, none⟩) (Nat.le_of_lt (Nat.lt_of_succ_lt hLg2)) (.int .i64 0)).setCell (p := ⟨gc, i * 8 + 3, none⟩) (Nat.le_of_lt (Nat.lt_of_succ_lt hLg2)) (.int .i64 0)).setCell (p := ⟨gc, i * 8 + 7, none⟩) (Nat.le_of_lt (Nat.lt_of_succ_lt hLg2)) (.bool true))
        have n1 : some w.heap.size ≠ some gc := by intro h; injection h; omega
        have n2 : some (w.heap.size + 1) ≠ some gc := by intro h; injection h; omega
        have HP9 := Lib.hid (blk_away (blk_away (blk_away HP8.out g1 n1) g2 n1) g3 n1)
        have HZ9 := Lib.hid (blk_away (blk_away (blk_away HZ8.out g1 n2) g2 n2) g3 n2)
        have HO9 : Hid (DocOwn (((wr.setCell ⟨gc, i * 8 + 2, none⟩ (.int .i64 0)).setCell ⟨gc, i * 8 + 3, none⟩ (.int .i64 0)).setCell ⟨gc, i * 8 + 7, none⟩ (.bool true)) w1.heap.size ((d.cutE k).withComs ((d.coms.take (i + 1)).map (Com.lose id) ++ d.coms.drop (i + 1))) ⟨ra, rn, rc, some ⟨g, 0, none⟩, en5 - 1, ec, some ⟨gc, 0, none⟩, cn, cc⟩) := by
          rw [HNx.out, HLc.out, ← HLs.out]
          have h9 : DocOwn _ _ ((d.cutE k).withComs ((((((d.coms.take i).map (Com.lose id) ++ d.coms.drop i).set i ⟨c.id, c.ev, 0, c.til, c.author, c.text, c.done, c.lost⟩).set i ⟨c.id, c.ev, 0, 0, c.author, c.text, c.done, c.lost⟩)).set i ⟨c.id, c.ev, 0, 0, c.author, c.text, c.done, true⟩)) _ := o3
          rw [List.set_set, List.set_set] at h9
          exact h9
        clear o1 o2 o3 g1 g2 g3 q1 q2 hil HL1 HLs HNx HLc n1 n2 HX8 HP8 HZ8 HO8 hLg2
        go_wp2_with fail
        clear hcp t1 t2 u1 u2 e1 e2 e3 e7 f2 f3 f7
        refine ⟨⟨i + 1, by dsimp only; omega, by go_num, HX9.out, HP9.out, HZ9.out, HO9.out⟩, by simp [intOf]; omega⟩
      · have heb : (c.ev == id) = false := by simpa using hev
        have HLc : Hid (c.lose id = c) := by show _ = _; unfold Com.lose; rw [if_neg hev]
        clear hev
        go_wp2_with fail
        clear hcp
        refine ⟨⟨i + 1, by dsimp only; omega, by go_num, HX8.out, HP8.out, HZ8.out, ?_⟩, by simp [intOf]; omega⟩
        rw [HNx.out, HLc.out, ← drop_at d.coms i c HC0.out]
        exact HO8.out
    · have hin : i = cn := by omega
      subst hin
      have HO9 : Hid (DocOwn wr w1.heap.size ((d.cutE k).withComs (d.coms.map (Com.lose id))) ⟨ra, rn, rc, some ⟨g, 0, none⟩, en5 - 1, ec, ca, i, cc⟩) := by
        have h9 := HO8.out
        rw [List.take_of_length_le (by have : d.coms.length = i := hcl7; omega), List.drop_eq_nil_of_le (by have : d.coms.length = i := hcl7; omega), List.append_nil] at h9
        exact h9
      clear HO8
      go_wp2_with (first | (refine wpList_loadB rfl 27 (.tmp 2) rfl (w.heap.size) 27 _ _ (by exact rfl) (by exact HP8.out) Tryz.underlying27 rfl (by exact size_docI) ?_) | (refine wpList_storeB rfl 27 (.tmp 4) _ rfl (w.heap.size + 1) 27 _ _ (by exact rfl) (by exact rfl) (by exact HZ8.out) (by exact rfl) (by exact size_docI) (by simp [Value.oneCell']) ?_))
      refine bodyPost_ret (v := .tuple #[.agg ((d.remX id).1.cells ⟨ra, rn, rc, some ⟨g, 0, none⟩, en5 - 1, ec, ca, i, cc⟩), .int .i64 (d.remX id).2]) ?_ rfl ⟨⟨ra, rn, rc, some ⟨g, 0, none⟩, en5 - 1, ec, ca, i, cc⟩, rfl, ?_, ?_⟩
      · rw [HR1.out]
        exact results_B_tmp (P := Tryz.prog) Tryz.results30 (g := w.heap.size + 1) rfl (by exact HZ8.out.put _) Tryz.underlying27 rfl size_docI
      · rw [HR1.out]
        exact (HO9.out.le hsz).put HZ8.out _
      · exact HX8.out.put (by omega) _ _
end Go.Proofs.YtagfedbdakmlgaaGreatDoor

/-! LoseR -/
namespace Go.Proofs.YtagfedbdakmlgaaGreatDoor
set_option linter.unusedVariables false
set_option linter.unusedSimpArgs false
open Go.RowKit
def Com.loseR (id : Int) (c : Com) : Com := if c.ev = id ∧ c.lost = false then ⟨c.id, c.ev, 0, 0, c.author, c.text, c.done, true⟩ else c
def LsRel (l : List Com) (id : Int) (n : Nat) (w : World) (v i : Value) (wr : World) : Prop :=
  ∃ k : Nat, k ≤ n ∧ i = .int .i64 k ∧ Ext w wr ∧ wr.ownsRow w.heap.size 78 8 v k (((l.take k).map (Com.loseR id)).flatMap Com.vals)
end Go.Proofs.YtagfedbdakmlgaaGreatDoor

/-! NameR -/
namespace Go.Proofs.YtagfedbdakmlgaaGreatDoor
set_option linter.unusedVariables false
set_option linter.unusedSimpArgs false
open Go.RowKit
def NameRelR (s : ByteArray) (i : Value) (w wr : World) : Prop := ∃ k : Nat, k ≤ s.size ∧ i = .int .i64 k ∧ (s.data.toList.take k).all (fun c => nbI c.toNat) = true ∧ (0 < k → ∀ h : 0 < s.size, (65 : Int) ≤ (s[0].toNat : Int) ∧ (s[0].toNat : Int) ≤ 90) ∧ w = wr
end Go.Proofs.YtagfedbdakmlgaaGreatDoor

/-! RegR -/
namespace Go.Proofs.YtagfedbdakmlgaaGreatDoor
set_option linter.unusedVariables false
set_option linter.unusedSimpArgs false
open Go.RowKit
end Go.Proofs.YtagfedbdakmlgaaGreatDoor

/-! RegS -/
namespace Go.Proofs.YtagfedbdakmlgaaGreatDoor
set_option linter.unusedVariables false
set_option linter.unusedSimpArgs false
open Go.RowKit
end Go.Proofs.YtagfedbdakmlgaaGreatDoor

/-! PlaceR -/
namespace Go.Proofs.YtagfedbdakmlgaaGreatDoor
set_option linter.unusedVariables false
set_option linter.unusedSimpArgs false
open Go.RowKit
end Go.Proofs.YtagfedbdakmlgaaGreatDoor

/-! NeatR -/
namespace Go.Proofs.YtagfedbdakmlgaaGreatDoor
set_option linter.unusedVariables false
set_option linter.unusedSimpArgs false
open Go.RowKit
def NeatRel (s : ByteArray) (w : World) (i : Value) (wr : World) : Prop := ∃ k : Nat, 1 ≤ k ∧ k ≤ s.size ∧ i = .int .i64 k ∧ wr = w ∧ ∀ j, j + 1 < k → s.data.toList[j]? = some 32 → s.data.toList[j + 1]? = some 32 → False
end Go.Proofs.YtagfedbdakmlgaaGreatDoor

/-! RowR -/
namespace Go.Proofs.YtagfedbdakmlgaaGreatDoor
set_option linter.unusedVariables false
set_option linter.unusedSimpArgs false
open Go.RowKit
def RPlainRel (w : World) (n : Nat) (l : Row) (v i : Value) (wr : World) : Prop := ∃ k : Nat, k ≤ n ∧ i = .int .i64 k ∧ v = .string ⟨(rowText (l.take k)).toArray⟩ ∧ Ext w wr
end Go.Proofs.YtagfedbdakmlgaaGreatDoor

/-! RowRC -/
namespace Go.Proofs.YtagfedbdakmlgaaGreatDoor
set_option linter.unusedVariables false
set_option linter.unusedSimpArgs false
open Go.RowKit
end Go.Proofs.YtagfedbdakmlgaaGreatDoor

/-! ECheckR -/
namespace Go.Proofs.YtagfedbdakmlgaaGreatDoor
set_option linter.unusedVariables false
set_option linter.unusedSimpArgs false
open Go.RowKit
def ChkRR (w : World) (n : Nat) (rows : List Row) (i v : Value) (wr : World) : Prop :=
  ∃ k : Nat, k ≤ n ∧ i = .int .i64 k ∧ Ext w wr ∧ rowsErr rows = rowsErr (rows.drop k) ∧ wr.ownsRow w.heap.size 3 1 v k (((rows.take k).map rowLen).flatMap fun x => [.int .i64 x])
end Go.Proofs.YtagfedbdakmlgaaGreatDoor

/-! HeadR -/
namespace Go.Proofs.YtagfedbdakmlgaaGreatDoor
set_option linter.unusedVariables false
set_option linter.unusedSimpArgs false
open Go.RowKit
end Go.Proofs.YtagfedbdakmlgaaGreatDoor

/-! ELenR -/
namespace Go.Proofs.YtagfedbdakmlgaaGreatDoor
set_option linter.unusedVariables false
set_option linter.unusedSimpArgs false
open Go.RowKit
def RELenRel (w1 : World) (n : Nat) (e : Ev) (v i : Value) (wr : World) : Prop := ∃ (k : Nat) (s : Int), k ≤ n ∧ i = .int .i64 k ∧ v = .int .i64 s ∧ 0 ≤ s ∧ s ≤ k + ((e.rows.take k).map rowBytes).sum ∧ Ext w1 wr ∧
  e.len = lenSum (s + (max ((n : Int) - 1) 0 - max ((k : Int) - 1) 0)) ((e.rows.map rowLen).drop k)
end Go.Proofs.YtagfedbdakmlgaaGreatDoor

/-! ComR -/
namespace Go.Proofs.YtagfedbdakmlgaaGreatDoor
set_option linter.unusedVariables false
set_option linter.unusedSimpArgs false
open Go.RowKit
end Go.Proofs.YtagfedbdakmlgaaGreatDoor

/-! DCheckR -/
namespace Go.Proofs.YtagfedbdakmlgaaGreatDoor
set_option linter.unusedVariables false
set_option linter.unusedSimpArgs false
open Go.RowKit
def R12EvRel (w1 : World) (n : Nat) (regs : List Reg) (last : Int) (l : List Ev) (i : Value) (wr : World) : Prop :=
  ∃ k : Nat, k ≤ n ∧ i = .int .i64 k ∧ Ext w1 wr ∧ evsLoop regs last [] l = evsLoop regs last (l.take k) (l.drop k)
end Go.Proofs.YtagfedbdakmlgaaGreatDoor

/-! RemvR -/
namespace Go.Proofs.YtagfedbdakmlgaaGreatDoor
set_option linter.unusedVariables false
set_option linter.unusedSimpArgs false
open Go.RowKit
def Doc.remRX (d : Doc) (id : Int) : DE :=
  if d.err ≠ 0 then (Doc.zero, d.err) else match findE d.evs id with
    | none => (Doc.zero, 6)
    | some k => ((d.cutE k).withComs (d.coms.map (Com.loseR id)), 0)
section
variable {d : Doc} {id : Int} {k : Nat}
end
/-- an append in place, then the store of the new slice into a document, in a drawn region -/
structure RemJE (g : Nat) (cur2 : Array Value) (v : Value) (G8 : Nat) (cs8 : Array Value) (W : World) (us : List Value) (w' : World) : Prop where
  nil : us = [] → Ext W w'
  one : ∀ u, us = [u] → u = v ∧ ∃ w5, Ext W w5 ∧ w' = putB w5 g 66 cur2
  two : ∀ u u1, us = [u, u1] → u = v ∧ ∃ w5, Ext W w5 ∧ w' = putB (putB w5 g 66 cur2) G8 27 cs8
section
variable {g G8 : Nat} {cur2 cs8 cs : Array Value} {v : Value} {W w' : World} {us : List Value}
theorem RemJE.start (W : World) : RemJE g cur2 v G8 cs8 W [] W.drew := ⟨fun _ => (Ext.refl W).drew, fun u h => by simp at h, fun u u1 h => by simp at h⟩
theorem RemJE.app (h : RemJE g cur2 v G8 cs8 W [] w') : RemJE g cur2 v G8 cs8 W ([] ++ [v]) (putB w' g 66 cur2) := ⟨fun h => by simp at h, fun u hu => ⟨by simpa using hu.symm, w', h.nil rfl, rfl⟩, fun u u1 h => by simp at h⟩
theorem RemJE.sto {w5 : World} {u1 : Value} (_ : RemJE g cur2 v G8 cs8 W [v] (putB w5 g 66 cur2)) (hx : Ext W w5) : RemJE g cur2 v G8 cs8 W ([v] ++ [u1]) (putB (putB w5 g 66 cur2) G8 27 cs8) := ⟨fun h => by simp at h, fun u hu => by simp at hu, fun u u1 hu => by simp at hu; exact ⟨hu.1.symm, w5, hx, rfl⟩⟩
end
end Go.Proofs.YtagfedbdakmlgaaGreatDoor

/-! SortR -/
namespace Go.Proofs.YtagfedbdakmlgaaGreatDoor
set_option linter.unusedVariables false
set_option linter.unusedSimpArgs false
open Go.RowKit
/-- the three appends around the copy of an event, in a drawn region -/
def InsJ (W : World) (hs : List EH) (j m : Nat) (x : Ev) (n' : Nat) (us : List Value) (w' : World) : Prop := Ext W w' ∧ match us with
  | [] => True
  | [u0] => w'.ownsRow W.heap.size 66 7 u0 j ((hs.take j).flatMap EH.vals)
  | [u0, u1] => w'.ownsRow W.heap.size 66 7 u0 j ((hs.take j).flatMap EH.vals) ∧ ∃ A5 c5, u1 = .agg (x.cells A5 n' c5) ∧ n' ≤ c5 ∧ RowsFresh w' W.heap.size A5 n' x.rows
  | [u0, _, u2] => w'.ownsRow W.heap.size 66 7 u0 j ((hs.take j).flatMap EH.vals) ∧ ∃ A5 c5 g5, n' ≤ c5 ∧ RowsFresh w' W.heap.size A5 n' x.rows ∧ u2 = .slice (some ⟨g5, 0, none⟩) 1 1 ∧ Blk w' g5 66 (x.cells A5 n' c5)
  | [_, _, _, u3] => ∃ A5 c5, n' ≤ c5 ∧ RowsFresh w' W.heap.size A5 n' x.rows ∧ w'.ownsRow W.heap.size 66 7 u3 (j + 1) ((hs.take j).flatMap EH.vals ++ (x.cells A5 n' c5).toList)
  | [_, _, _, _, u4] => ∃ A5 c5, n' ≤ c5 ∧ RowsFresh w' W.heap.size A5 n' x.rows ∧ w'.ownsRow W.heap.size 66 7 u4 (j + 1 + m) ((hs.take j).flatMap EH.vals ++ (x.cells A5 n' c5).toList ++ (hs.drop j).flatMap EH.vals)
  | [_, _, _, _, u4, u5] => u5 = u4 ∧ ∃ A5 c5, n' ≤ c5 ∧ RowsFresh w' W.heap.size A5 n' x.rows ∧ w'.ownsRow W.heap.size 66 7 u4 (j + 1 + m) ((hs.take j).flatMap EH.vals ++ (x.cells A5 n' c5).toList ++ (hs.drop j).flatMap EH.vals)
  | _ => False
/-- the search for an event's place -/
def InsRel (M : List Ev) (x : Ev) (k : Nat) (W : World) (s6 : Value) (wr : World) : Prop := ∃ j : Nat, s6 = .int .i64 j ∧ j ≤ k ∧ Ext W wr ∧ (∀ (p : Nat) (y : Ev), j ≤ p → M[p]? = some y → lessB x y = true)
def RSortLoop (l : List Ev) (n : Nat) (w : World) (v i : Value) (wr : World) : Prop := ∃ k : Nat, k ≤ n ∧ i = .int .i64 k ∧ Ext w wr ∧ EvsOwn wr w.heap.size v k (srtE (l.take k))
end Go.Proofs.YtagfedbdakmlgaaGreatDoor

/-! ShiftR -/
namespace Go.Proofs.YtagfedbdakmlgaaGreatDoor
set_option linter.unusedVariables false
set_option linter.unusedSimpArgs false
open Go.RowKit
theorem DocOwn.ev_row {w : World} {L k g : Nat} {d : Doc} {h : DocH} {e : Ev} (o : DocOwn w L d h) (hea : h.ea = some ⟨g, 0, none⟩) (he : d.evs[k]? = some e) : ∃ A n c, EGood w L (EH.of e A n c) e ∧ Typed w 66 g ∧ ∀ j u, (e.cells A n c).toList[j]? = some u → w.cell? ⟨g, k * 7 + j, none⟩ = some u := by
  obtain ⟨hs, h1, h2, h3, h4⟩ := o.evs
  rw [hea] at h1
  have hty : Typed w 66 g := own_typed h1 g rfl
  have hk := (List.getElem?_eq_some_iff.1 he).1
  obtain ⟨x, hx⟩ : ∃ x, hs[k]? = some x := ⟨_, List.getElem?_eq_getElem (by omega)⟩
  have hg := h4 k x e hx he
  refine ⟨x.A, x.n, x.c, ⟨rfl, hg.2.1, hg.2.2.1, hg.2.2.2⟩, hty, fun j u hu => ?_⟩
  have hj : j < 7 := (List.getElem?_eq_some_iff.1 hu).1
  rw [h1.cellAt (k * 7 + j) (by omega), flatMap_at EH.vals 7 EH.len hs k x j hx hj, hg.1, EH.of_vals]
  exact hu
def ShLoopR (d : Doc) (fr sh : Int) (w w0 : World) (h : DocH) (G9 : Nat) (cs : Array Value) (v : Value) (wr : World) : Prop :=
  ∃ i : Nat, i ≤ h.en ∧ v = .int .i64 i ∧ (d.evs.take i).any (Ev.mvBad fr sh) = false ∧ Ext w0 wr ∧ Blk wr G9 27 cs ∧ Blk wr (w.heap.size + 1) 27 docZero ∧ DocOwn wr w0.heap.size (d.withEvs ((d.evs.take i).map (Ev.mv fr sh) ++ d.evs.drop i)) h
end Go.Proofs.YtagfedbdakmlgaaGreatDoor

/-! PutD -/
namespace Go.Proofs.YtagfedbdakmlgaaGreatDoor
set_option linter.unusedVariables false
set_option linter.unusedSimpArgs false
open Go.RowKit
def PtLoop (f : Com → Com) (d : Doc) (w : World) (h : DocH) (L G : Nat) (cs EE : Array Value) (v : Value) (wr : World) : Prop :=
  ∃ i : Nat, i ≤ h.cn ∧ v = .int .i64 i ∧ Ext w wr ∧ Blk wr G 27 cs ∧ Blk wr (w.heap.size + 1) 66 EE ∧ Blk wr (w.heap.size + 2) 27 docZero ∧ DocOwn wr L (d.withComs ((d.coms.take i).map f ++ d.coms.drop i)) h ∧ L ≤ wr.heap.size
set_option maxRecDepth 100000 in
set_option maxHeartbeats 8000000 in
theorem DPut_any (d : Doc) (h : DocH) (e : Ev) (A : Option Addr) (n c : Nat) (w : World) (hE : Env w) (hat : DocAt w d h) (hf : DocFit d) (hrn : h.rn ≤ 9223372036854775807) (hr : h.rn * 56 ≤ 140737488355328) (hn : h.en ≤ 1000000) (hcn : h.cn ≤ 1000000) (he : EvAt w e A n c) (hes : EvSmall e) (hby : e.bytes ≤ 1099511627776) :
    Calls Tryz.prog 51 #[.agg (d.cells h), .agg (e.cells A n c)] w (DEPost (d.putX e) w) := by
  have HX : Hid (Ext w (((w.alloc (.cells (d.cells h) 27)).alloc (.cells (e.cells A n c) 66)).alloc (.cells docZero 27))) := (((Ext.refl w).alloc _).alloc _).alloc _
  have HB : Hid (Blk (((w.alloc (.cells (d.cells h) 27)).alloc (.cells (e.cells A n c) 66)).alloc (.cells docZero 27)) w.heap.size 27 (d.cells h)) := ((Blk.new w _ _).alloc _).alloc _
  have HV : Hid (Blk (((w.alloc (.cells (d.cells h) 27)).alloc (.cells (e.cells A n c) 66)).alloc (.cells docZero 27)) (w.heap.size + 1) 66 (e.cells A n c)) := (Blk.new' (by simp)).alloc _
  have HZ : Hid (Blk (((w.alloc (.cells (d.cells h) 27)).alloc (.cells (e.cells A n c) 66)).alloc (.cells docZero 27)) (w.heap.size + 2) 27 docZero) := Blk.new' (by simp)
  have HCk := Lib.hid (fun w' (hx : Ext w w') => DCheck_any d h w' (hE.ext hx) (hat.ext hx) hf hrn hn (by omega))
  have HFd := Lib.hid (fun w' (hx : Ext w w') => DFind_any d h e.id w' (hat.evs.ext hx) (by omega))
  have HEc := Lib.hid (fun w' (hx : Ext w w') => ECheck_any e A n c h.ra h.rn h.rc d.regs w' (hE.ext hx) (he.ext hx) hes (hat.regs.ext hx) hrn hf.regs)
  have HCl := Lib.hid (fun w' (hx : Ext w w') => DClone_any d h w' (hat.ext hx) hr (by omega) (by omega))
  have HPe := Lib.hid (fun w' (hx : Ext w w') => EPlain_any e A n c w' (he.ext hx) hby)
  have HEln := Lib.hid hat.evs.len
  have HCln := Lib.hid hat.coms.len
  have HEv := Lib.hid hat.evs
  have HEa := Lib.hid he
  have HFx := Lib.hid hf.evs
  have hse : (⟨e.text.toArray⟩ : ByteArray).size ≤ 35184372088831 := text_size e hby he.2.2 he.len
  have END : ∀ (w9 : World) (er : Int), Ext w w9 → Blk w9 (w.heap.size + 2) 27 docZero → d.putX e = (Doc.zero, er) → ∀ (tmps : Array Value), tmps.getD 4 undef = .pointer (some ⟨w.heap.size + 2, 0, none⟩) → tmps.getD 5 undef = .int .i64 er →
      (results Tryz.f51 tmps).run Tryz.prog (putB w9 (w.heap.size + 2) 27 docZero) = .ok (.tuple #[.agg docZero, .int .i64 er]) (putB w9 (w.heap.size + 2) 27 docZero) ∧
        DEPost (d.putX e) w (.returned (.tuple #[.agg docZero, .int .i64 er])) (putB w9 (w.heap.size + 2) 27 docZero) := fun w9 er hx hz hq tmps h8 h9 => by
    refine ⟨?_, dePost_err hq (hx.put (by omega) _ _)⟩
    have := results_B_tmp (P := Tryz.prog) Tryz.results51 (tmps := tmps) (w := putB w9 (w.heap.size + 2) 27 docZero) (g := w.heap.size + 2) h8 (hz.put _) Tryz.underlying27 rfl size_docI
    rw [this, h9]
  have HEnd := Lib.hid END
  clear END hat hE hf hrn hr he hes hby
  obtain ⟨hra, nr, hrc, hea, hen, hec, hca, nc, hcc⟩ := h
  unfold DClPost at HCl
  unfold Doc.cells docZero at *
  unfold Ev.cells at HX HB HV HZ HEc HPe ⊢
  dsimp only at *
  go_enter Tryz.func51, Tryz.ntmps51
  go_wp2_with (refine wpList_loadB rfl 27 (.tmp 2) rfl (w.heap.size) 27 _ _ (by exact rfl) (by exact HB.out) Tryz.underlying27 rfl (by exact size_docI) ?_)
  refine (HCk.out _ HX.out).mono ?_
  rintro en w0 ⟨rfl, hx0⟩
  have HX0 := Lib.hid (HX.out.trans hx0)
  have HB0 := Lib.hid (HB.out.ext hx0)
  have HZ0 := Lib.hid (HZ.out.ext hx0)
  have HV0 := Lib.hid (HV.out.ext hx0)
  clear hx0 HX HB HZ HV HCk
  by_cases h0 : d.err = 0
  case neg =>
    have hne2 : (d.err != 0) = true := by simpa using h0
    have HR1 : Hid (d.putX e = (Doc.zero, d.err)) := put_1 h0
    clear h0
    go_wp2_with (refine wpList_storeB rfl 27 (.tmp 4) _ rfl (w.heap.size + 2) 27 _ _ (by exact rfl) (by exact rfl) (by exact HZ0.out) (by exact rfl) (by exact size_docI) (by simp [Value.oneCell']) ?_)
    exact (fun q => bodyPost_ret q.1 rfl q.2) (HEnd.out _ _ HX0.out HZ0.out HR1.out _ (by exact rfl) (by exact rfl))
  have HC := Lib.hid h0
  rw [h0]
  clear h0
  have hce := fun o => HV0.out.cell o
  go_wp2_with (refine wpList_loadB rfl 27 (.tmp 2) rfl (w.heap.size) 27 _ _ (by exact rfl) (by exact HB0.out) Tryz.underlying27 rfl (by exact size_docI) ?_)
  clear hce
  refine (HFd.out _ HX0.out).mono ?_
  rintro en w1 ⟨rfl, hx1⟩
  have HX1 := Lib.hid (HX0.out.trans hx1)
  have HB1 := Lib.hid (HB0.out.ext hx1)
  have HZ1 := Lib.hid (HZ0.out.ext hx1)
  have HV1 := Lib.hid (HV0.out.ext hx1)
  clear hx1 HX0 HB0 HZ0 HV0 HFd
  cases hfc : findE d.evs e.id with
  | none =>
    have hfi : findI d.evs e.id = -1 := by unfold findI; rw [hfc]
    have HR1 : Hid (d.putX e = (Doc.zero, 6)) := put_2 HC.out hfc
    rw [hfi]
    clear hfc hfi
    go_wp2_with (refine wpList_storeB rfl 27 (.tmp 4) _ rfl (w.heap.size + 2) 27 _ _ (by exact rfl) (by exact rfl) (by exact HZ1.out) (by exact rfl) (by exact size_docI) (by simp [Value.oneCell']) ?_)
    exact (fun q => bodyPost_ret q.1 rfl q.2) (HEnd.out _ _ HX1.out HZ1.out HR1.out _ (by exact rfl) (by exact rfl))
  | some k =>
  have hfi : findI d.evs e.id = (k : Int) := by unfold findI; rw [hfc]
  have hkl : k < hen := by have h1 := findE_lt hfc; have h2 := HEln.out; omega
  have HF := Lib.hid hfc
  rw [hfi]
  clear hfc hfi
  have hcd := fun o => HB1.out.cell o
  go_wp2_with (refine wpList_loadB rfl 66 (.tmp 3) rfl (w.heap.size + 1) 66 _ _ (by exact rfl) (by exact HV1.out) Tryz.underlying66 rfl (by exact size_event) ?_)
  clear hcd
  refine (HEc.out _ HX1.out).mono ?_
  rintro en w2 ⟨rfl, hx2⟩
  have HX2 := Lib.hid (HX1.out.trans hx2)
  have HB2 := Lib.hid (HB1.out.ext hx2)
  have HZ2 := Lib.hid (HZ1.out.ext hx2)
  have HV2 := Lib.hid (HV1.out.ext hx2)
  clear hx2 HX1 HB1 HZ1 HV1 HEc
  by_cases hee : e.err d.regs = 0
  case neg =>
    have hne2 : (e.err d.regs != 0) = true := by simpa using hee
    have HR1 : Hid (d.putX e = (Doc.zero, e.err d.regs)) := put_3 HC.out HF.out hee
    clear hee
    go_wp2_with (refine wpList_storeB rfl 27 (.tmp 4) _ rfl (w.heap.size + 2) 27 _ _ (by exact rfl) (by exact rfl) (by exact HZ2.out) (by exact rfl) (by exact size_docI) (by simp [Value.oneCell']) ?_)
    exact (fun q => bodyPost_ret q.1 rfl q.2) (HEnd.out _ _ HX2.out HZ2.out HR1.out _ (by exact rfl) (by exact rfl))
  have HEe := Lib.hid hee
  rw [hee]
  clear hee
  obtain ⟨x, hxk⟩ : ∃ x, d.evs[k]? = some x := ⟨_, List.getElem?_eq_getElem (by have := HEln.out; omega)⟩
  have HXk := Lib.hid hxk
  have HXs := Lib.hid (HFx.out x (List.mem_of_getElem? hxk))
  have HR1 : Hid (d.putX e = (d.putD e x k, 0)) := put_4 HC.out HF.out HEe.out hxk
  clear hxk HFx
  go_wp2_with (refine wpList_loadB rfl 27 (.tmp 2) rfl (w.heap.size) 27 _ _ (by exact rfl) (by exact HB2.out) Tryz.underlying27 rfl (by exact size_docI) ?_)
  refine (HCl.out _ HX2.out).mono ?_
  rintro en w5 ⟨⟨ra, rn, rc, ea, en5, ec, ca, cn, cc⟩, rfl, ho5, hx5⟩
  dsimp only
  have hsz := HX2.out.size
  have hszz := HZ2.out.lt
  have hen7 : en5 = hen := by have h1 := ho5.evs.len; have h2 := HEln.out; dsimp only at h1; omega
  subst hen7
  have hcn7 : cn = nc := by have h1 := ho5.clen; have h2 := HCln.out; dsimp only at h1; omega
  subst hcn7
  have hcl : d.coms.length = cn := HCln.out
  obtain ⟨g, hea5, hLg⟩ := ho5.ev_at hkl
  dsimp only at hea5
  subst hea5
  have HX5 := Lib.hid (HX2.out.trans hx5)
  have HB5 := Lib.hid (HB2.out.ext hx5)
  have HZ5 := Lib.hid (HZ2.out.ext hx5)
  have HV5 := Lib.hid (HV2.out.ext hx5)
  have HO6 := Lib.hid (DocOwn.put ho5 HB5.out #[.string d.title, .string d.lang, .int .u8 d.rate, .bool d.drop, .int .i64 d.last, .slice ra rn rc, .slice (some ⟨g, 0, none⟩) en5 ec, .slice ca cn cc])
  have HP6 := Lib.hid (HB5.out.put #[.string d.title, .string d.lang, .int .u8 d.rate, .bool d.drop, .int .i64 d.last, .slice ra rn rc, .slice (some ⟨g, 0, none⟩) en5 ec, .slice ca cn cc])
  have HZ6 := Lib.hid (HZ5.out.put_other (g' := w.heap.size) (t' := 27) (by omega) #[.string d.title, .string d.lang, .int .u8 d.rate, .bool d.drop, .int .i64 d.last, .slice ra rn rc, .slice (some ⟨g, 0, none⟩) en5 ec, .slice ca cn cc])
  have HV6 := Lib.hid (HV5.out.put_other (g' := w.heap.size) (t' := 27) (by omega) #[.string d.title, .string d.lang, .int .u8 d.rate, .bool d.drop, .int .i64 d.last, .slice ra rn rc, .slice (some ⟨g, 0, none⟩) en5 ec, .slice ca cn cc])
  have HX6 := Lib.hid (HX5.out.put (g := w.heap.size) (Nat.le_refl _) 27 #[.string d.title, .string d.lang, .int .u8 d.rate, .bool d.drop, .int .i64 d.last, .slice ra rn rc, .slice (some ⟨g, 0, none⟩) en5 ec, .slice ca cn cc])
  have hx5s := hx5.size
  clear ho5 hx5 HX5 HZ5 HV5
  go_upto_region 11 with (refine wpList_storeB rfl 27 (.tmp 2) _ rfl (w.heap.size) 27 _ _ (by exact rfl) (by exact rfl) (by exact HB5.out) (by exact rfl) (by exact size_docI) (by simp [Value.oneCell']) ?_)
  obtain ⟨W, hW⟩ : ∃ W, W = putB w5 w.heap.size 27 #[.string d.title, .string d.lang, .int .u8 d.rate, .bool d.drop, .int .i64 d.last, .slice ra rn rc, .slice (some ⟨g, 0, none⟩) en5 ec, .slice ca cn cc] := ⟨_, rfl⟩
  rw [← hW] at HO6 HP6 HZ6 HV6 HX6 ⊢
  have hWs : w2.heap.size ≤ W.heap.size := by rw [hW, putB_size]; exact hx5s
  clear hW HB5 hx5s HX2 HB2 HZ2 HV2 HCl
  have hcp := fun o => HP6.out.cell o
  have hsg : True := trivial
  go_wp2_with fail
  clear hcp
  go_loopw [37] (fun i wr => PtLoop (Com.onto e.id x.chars e.chars) d w ⟨ra, rn, rc, some ⟨g, 0, none⟩, en5, ec, ca, cn, cc⟩ w2.heap.size (w.heap.size) #[.string d.title, .string d.lang, .int .u8 d.rate, .bool d.drop, .int .i64 d.last, .slice ra rn rc, .slice (some ⟨g, 0, none⟩) en5 ec, .slice ca cn cc] #[.int .i64 e.id, .int .i64 e.inn, .int .i64 e.out, .string e.region, .int .u8 e.kind, .string e.speaker, .slice A n c] i wr) (fun i _ => cn - (intOf i).toNat)
  case atStart => exact ⟨0, Nat.zero_le _, rfl, HX6.out, HP6.out, HV6.out, HZ6.out, HO6.out, hWs⟩
  case round =>
    obtain ⟨ki, hi, rfl, hx8, hp8, hv8, hz8, ho8, hls⟩ := hrel
    dsimp only at hi
    have HX8 := Lib.hid hx8
    have HP8 := Lib.hid hp8
    have HV8 := Lib.hid hv8
    have HZ8 := Lib.hid hz8
    have HO8 := Lib.hid ho8
    clear hx8 hp8 hv8 hz8 ho8 HX6 HP6 HV6 HZ6 HO6
    by_cases hlt : ki < cn
    · obtain ⟨gc, hgc, hLc⟩ := HO8.out.com_at hlt
      dsimp only at hgc
      have hgcs := hgc
      subst hgc
      obtain ⟨cm, hc0⟩ : ∃ cm, d.coms[ki]? = some cm := ⟨_, List.getElem?_eq_getElem (by omega)⟩
      have hus := upd_step (Com.onto e.id x.chars e.chars) d.coms ki cm hc0
      have HNx := Lib.hid (upd_next (Com.onto e.id x.chars e.chars) d.coms ki cm hc0)
      have HUs := Lib.hid hus.2
      have HU1 := Lib.hid hus.1
      have HC0 := Lib.hid hc0
      have e0 : wr.cell? ⟨gc, ki * 8, none⟩ = some (.int .i64 cm.id) := (HO8.out.com_cell (j := 0) hgcs hus.1 rfl).1
      obtain ⟨e1, -⟩ := HO8.out.com_cell (j := 1) hgcs hus.1 rfl
      obtain ⟨e2, -⟩ := HO8.out.com_cell (j := 2) hgcs hus.1 rfl
      obtain ⟨e3, -⟩ := HO8.out.com_cell (j := 3) hgcs hus.1 rfl
      obtain ⟨e4, -⟩ := HO8.out.com_cell (j := 4) hgcs hus.1 rfl
      obtain ⟨e5, -⟩ := HO8.out.com_cell (j := 5) hgcs hus.1 rfl
      obtain ⟨e6, -⟩ := HO8.out.com_cell (j := 6) hgcs hus.1 rfl
      obtain ⟨e7, -⟩ := HO8.out.com_cell (j := 7) hgcs hus.1 rfl
      have HBc := Lib.hid (Blk.new wr 78 #[.int .i64 cm.id, .int .i64 cm.ev, .int .i64 cm.fr, .int .i64 cm.til, .string cm.author, .string cm.text, .bool cm.done, .bool cm.lost])
      have hxa := (Ext.refl wr).alloc (.cells #[.int .i64 cm.id, .int .i64 cm.ev, .int .i64 cm.fr, .int .i64 cm.til, .string cm.author, .string cm.text, .bool cm.done, .bool cm.lost] 78)
      have HX9 := Lib.hid (HX8.out.trans hxa)
      have HP9 := Lib.hid (HP8.out.ext hxa)
      have HV9 := Lib.hid (HV8.out.ext hxa)
      have HZ9 := Lib.hid (HZ8.out.ext hxa)
      have HO9 := Lib.hid (HO8.out.ext hxa)
      have hls9 := Nat.le_trans hls hxa.size
      have hce := fun o => HV9.out.cell o
      clear hus hc0 hgcs hxa
      by_cases hev : cm.ev = e.id
      case neg =>
        have heb : (cm.ev == e.id) = false := by simpa using hev
        have HMv : Hid (Com.onto e.id x.chars e.chars cm = cm) := by show _ = _; unfold Com.onto; rw [if_neg hev]
        clear hev
        go_wp2_with fail
        clear hce e0 e1 e2 e3 e4 e5 e6 e7
        refine ⟨⟨ki + 1, by dsimp only; omega, by go_num, HX9.out, HP9.out, HV9.out, HZ9.out, ?_, hls9⟩, by simp [intOf]; omega⟩
        rw [HNx.out, HMv.out, ← drop_at d.coms ki cm HC0.out]
        exact HO9.out
      have heb : (cm.ev == e.id) = true := by simpa using hev
      obtain ⟨cx, hcx⟩ : ∃ cx, cx = cm.fol x.chars e.chars := ⟨_, rfl⟩
      have HMv : Hid (Com.onto e.id x.chars e.chars cm = cx) := by show _ = _; unfold Com.onto; rw [if_pos hev, hcx]
      obtain ⟨A1, n1, c1, hgd, hty, hxc⟩ := HO9.out.ev_row (k := k) rfl HXk.out
      have hsx : (⟨x.text.toArray⟩ : ByteArray).size ≤ 35184372088831 := text_size x HXs.out.2 hgd.at_.2.2 hgd.at_.len
      have HFo : Hid (∀ w', Calls Tryz.prog 91 #[.agg #[.int .i64 cm.id, .int .i64 cm.ev, .int .i64 cm.fr, .int .i64 cm.til, .string cm.author, .string cm.text, .bool cm.done, .bool cm.lost], .string ⟨x.text.toArray⟩, .string ⟨e.text.toArray⟩] w' fun en w'' => en = .returned (.agg cx.vals.toArray) ∧ Ext w' w'') := fun w' => by rw [hcx]; exact DFollow_any cm ⟨x.text.toArray⟩ ⟨e.text.toArray⟩ w' hsx hse
      have HXc := Lib.hid hxc
      have HGd := Lib.hid hgd
      clear hev hcx hgd hty hsx hxc
      go_upto_region 15 with fail
      clear hce e0 e1 e2 e3 e4 e5 e6 e7
      obtain ⟨W9, hW9⟩ : ∃ W9, W9 = wr.alloc (.cells #[.int .i64 cm.id, .int .i64 cm.ev, .int .i64 cm.fr, .int .i64 cm.til, .string cm.author, .string cm.text, .bool cm.done, .bool cm.lost] 78) := ⟨_, rfl⟩
      rw [← hW9] at HBc HX9 HP9 HV9 HZ9 HO9 HXc HGd hls9 ⊢
      clear hW9 HX8 HP8 HV8 HZ8 HO8
      have HPx := Lib.hid (fun w' (hx : Ext W9 w') => EPlain_any x A1 n1 c1 w' (HGd.out.at_.ext hx) HXs.out.2)
      have HPe9 := Lib.hid (fun w' (hx : Ext W9 w') => HPe.out w' (HX9.out.trans hx))
      have HTh := Lib.hid (fun w' (hx : Ext W9 w') => ((HO9.out.ext hx).com_sets (c' := cx) rfl HU1.out).2.1)
      unfold Ev.cells at HPx
      refine wp_region_links [some 47, some 48, some 49, some 50, some 51, some 52, some 53, some 54, some 55, some 56, some 57, some 58, some 59, some 60, none] [[], [0], [], [], [], [4], [], [5, 6], [7], [8], [], [10, 9], [3, 9, 11, 11], [1, 2, 0, 1, 2, 3, 4, 5, 6, 7, 8, 9, 10, 11, 12], [13, 12, 12, 0, 1, 2, 3, 4, 5, 6, 7, 8, 9, 10, 11, 12]] [9, 11, 12, 14] [.pointer (some ⟨w.heap.size, 7, none⟩), .slice (some ⟨gc, 0, none⟩) cn cc, .int .i64 (ki : Int), .agg #[.int .i64 cm.id, .int .i64 cm.ev, .int .i64 cm.fr, .int .i64 cm.til, .string cm.author, .string cm.text, .bool cm.done, .bool cm.lost], .pointer (some ⟨w.heap.size, 6, none⟩), .slice (some ⟨g, 0, none⟩) en5 ec, .int .i64 (k : Int), .pointer (some ⟨g, k * 7, none⟩), .agg #[.int .i64 x.id, .int .i64 x.inn, .int .i64 x.out, .string x.region, .int .u8 x.kind, .string x.speaker, .slice A1 n1 c1], undef, .agg #[.int .i64 e.id, .int .i64 e.inn, .int .i64 e.out, .string e.region, .int .u8 e.kind, .string e.speaker, .slice A n c], undef, undef, .pointer (some ⟨gc, ki * 8, none⟩), undef] (PutJ [.string ⟨x.text.toArray⟩, .string ⟨e.text.toArray⟩, .agg cx.vals.toArray] gc (ki * 8) cx.vals W9) (by kernel_rfl) (by kernel_rfl) (by kernel_rfl) (by kernel_rfl) (by kernel_rfl) (by kernel_rfl) (by kernel_rfl) (by decide) ?_ ?_ ?_ ?_
      · exact PutJ.start W9
      · intro i o ho hc a w' us K' hJ hF hlim hk
        match i, ho with
        | 0, ho =>
          simp only [List.getElem?_toArray, List.getElem?_cons_zero, List.getElem?_cons_succ, Option.some.injEq] at ho
          subst ho
          have e2 := hF.old 2 (.pointer (some ⟨w.heap.size, 0, none⟩)) rfl rfl
          simp only [Act.eval] at e2
          clear hF hlim hJ
          go_simp
          exact hk
        | 1, ho =>
          simp only [List.getElem?_toArray, List.getElem?_cons_zero, List.getElem?_cons_succ, Option.some.injEq] at ho
          subst ho
          have e47 := hF.pure 0 47 (.pointer (some ⟨w.heap.size, 7, none⟩)) rfl rfl rfl rfl
          have hcl2 := (HP9.out.ext (hJ.ext (by have := hlim 3 14 rfl rfl; simp only [List.length_cons, List.length_nil]; omega))).cell 7
          simp only [Act.eval] at e47
          clear hF hlim hJ
          go_simp
          exact hk
        | 2, ho =>
          simp only [List.getElem?_toArray, List.getElem?_cons_zero, List.getElem?_cons_succ, Option.some.injEq] at ho
          subst ho
          have e9 := hF.old 9 (.int .i64 (ki : Int)) rfl rfl
          simp only [Act.eval] at e9
          clear hF hlim hJ
          go_simp
          exact hk
        | 3, ho =>
          simp only [List.getElem?_toArray, List.getElem?_cons_zero, List.getElem?_cons_succ, Option.some.injEq] at ho
          subst ho
          have e10 := hF.old 10 (.pointer (some ⟨wr.heap.size, 0, none⟩)) rfl rfl
          exact wp_loadBk 78 (.tmp 10) rfl _ 78 _ _ e10 (HBc.out.ext (hJ.ext (by have := hlim 3 14 rfl rfl; simp only [List.length_cons, List.length_nil]; omega))) Tryz.underlying78 rfl (by exact size_comI) hk
        | 4, ho =>
          simp only [List.getElem?_toArray, List.getElem?_cons_zero, List.getElem?_cons_succ, Option.some.injEq] at ho
          subst ho
          have e2 := hF.old 2 (.pointer (some ⟨w.heap.size, 0, none⟩)) rfl rfl
          simp only [Act.eval] at e2
          clear hF hlim hJ
          go_simp
          exact hk
        | 5, ho =>
          simp only [List.getElem?_toArray, List.getElem?_cons_zero, List.getElem?_cons_succ, Option.some.injEq] at ho
          subst ho
          have e51 := hF.pure 4 51 (.pointer (some ⟨w.heap.size, 6, none⟩)) rfl rfl rfl rfl
          have hcl2 := (HP9.out.ext (hJ.ext (by have := hlim 3 14 rfl rfl; simp only [List.length_cons, List.length_nil]; omega))).cell 6
          simp only [Act.eval] at e51
          clear hF hlim hJ
          go_simp
          exact hk
        | 6, ho =>
          simp only [List.getElem?_toArray, List.getElem?_cons_zero, List.getElem?_cons_succ, Option.some.injEq] at ho
          subst ho
          have e7 := hF.old 7 (.int .i64 (k : Int)) rfl rfl
          simp only [Act.eval] at e7
          clear hF hlim hJ
          go_simp
          exact hk
        | 7, ho =>
          simp only [List.getElem?_toArray, List.getElem?_cons_zero, List.getElem?_cons_succ, Option.some.injEq] at ho
          subst ho
          have e52 := hF.pure 5 52 (.slice (some ⟨g, 0, none⟩) en5 ec) rfl rfl rfl rfl
          have e53 := hF.pure 6 53 (.int .i64 (k : Int)) rfl rfl rfl rfl
          exact wp_ix_ev rfl e52 e53 hkl (by rw [Nat.zero_add]; exact hk)
        | 8, ho =>
          simp only [List.getElem?_toArray, List.getElem?_cons_zero, List.getElem?_cons_succ, Option.some.injEq] at ho
          subst ho
          have e54 := hF.pure 7 54 (.pointer (some ⟨g, k * 7, none⟩)) rfl rfl rfl rfl
          exact wp_load_mid 66 (.tmp 54) rfl g (k * 7) e54 (x.cells A1 n1 c1).toList _ (fun j v hv => (hJ.ext (by have := hlim 3 14 rfl rfl; simp only [List.length_cons, List.length_nil]; omega)).cell (HXc.out j v hv)) Tryz.underlying66 rfl size_event hk
        | 9, ho => simp at hc
        | 10, ho =>
          simp only [List.getElem?_toArray, List.getElem?_cons_zero, List.getElem?_cons_succ, Option.some.injEq] at ho
          subst ho
          have e3 := hF.old 3 (.pointer (some ⟨w.heap.size + 1, 0, none⟩)) rfl rfl
          exact wp_loadBk 66 (.tmp 3) rfl _ 66 _ _ e3 (HV9.out.ext (hJ.ext (by have := hlim 3 14 rfl rfl; simp only [List.length_cons, List.length_nil]; omega))) Tryz.underlying66 rfl (by exact size_event) hk
        | 11, ho => simp at hc
        | 12, ho => simp at hc
        | 13, ho =>
          simp only [List.getElem?_toArray, List.getElem?_cons_zero, List.getElem?_cons_succ, Option.some.injEq] at ho
          subst ho
          have e48 := hF.pure 1 48 (.slice (some ⟨gc, 0, none⟩) cn cc) rfl rfl rfl rfl
          have e49 := hF.pure 2 49 (.int .i64 (ki : Int)) rfl rfl rfl rfl
          simp only [Act.eval] at e48 e49
          clear hF hlim hJ
          go_simp
          exact hk
        | 14, ho => simp at hc
        | i + 15, ho => simp at ho
      · intro p c' o hp ho a w' us K' hl hJ hF hk
        match p, hp with
        | 0, hp =>
          obtain rfl : 9 = c' := by simpa using hp
          simp only [List.getElem?_toArray, List.getElem?_cons_zero, List.getElem?_cons_succ, Option.some.injEq] at ho
          subst ho
          obtain rfl : us = [] := List.eq_nil_of_length_eq_zero hl
          have e55 := hF.pure 8 55 (.agg #[.int .i64 x.id, .int .i64 x.inn, .int .i64 x.out, .string x.region, .int .u8 x.kind, .string x.speaker, .slice A1 n1 c1]) rfl rfl rfl rfl
          refine wp_call1 rfl e55 Tryz.call86 (HPx.out w' (hJ.ext (by simp))) ?_
          rintro en w8 ⟨rfl, hx8⟩
          exact ⟨_, rfl, hk _ _ (hJ.call rfl hx8)⟩
        | 1, hp =>
          obtain rfl : 11 = c' := by simpa using hp
          simp only [List.getElem?_toArray, List.getElem?_cons_zero, List.getElem?_cons_succ, Option.some.injEq] at ho
          subst ho
          obtain ⟨u0, rfl⟩ := list_1 hl
          have e57 := hF.pure 10 57 (.agg #[.int .i64 e.id, .int .i64 e.inn, .int .i64 e.out, .string e.region, .int .u8 e.kind, .string e.speaker, .slice A n c]) rfl rfl rfl rfl
          refine wp_call1 rfl e57 Tryz.call86 (HPe9.out w' (hJ.ext (by simp))) ?_
          rintro en w8 ⟨rfl, hx8⟩
          exact ⟨_, rfl, hk _ _ (hJ.call rfl hx8)⟩
        | 2, hp =>
          obtain rfl : 12 = c' := by simpa using hp
          simp only [List.getElem?_toArray, List.getElem?_cons_zero, List.getElem?_cons_succ, Option.some.injEq] at ho
          subst ho
          obtain ⟨u0, u1, rfl⟩ := list_2 hl
          have hv := hJ.val (by simp)
          simp at hv
          obtain ⟨rfl, rfl⟩ := hv
          have e50 := hF.pure 3 50 (.agg #[.int .i64 cm.id, .int .i64 cm.ev, .int .i64 cm.fr, .int .i64 cm.til, .string cm.author, .string cm.text, .bool cm.done, .bool cm.lost]) rfl rfl rfl rfl
          have e56 := hF.link 0 9 56 _ rfl rfl rfl rfl
          have e58 := hF.link 1 11 58 _ rfl rfl rfl rfl
          exact wp_call3v rfl e50 e56 e58 Tryz.call91 (HFo.out w') (fun w8 hx8 => hk _ _ (hJ.call rfl hx8))
        | 3, hp =>
          obtain rfl : 14 = c' := by simpa using hp
          simp only [List.getElem?_toArray, List.getElem?_cons_zero, List.getElem?_cons_succ, Option.some.injEq] at ho
          subst ho
          obtain ⟨u0, u1, u2, rfl⟩ := list_3 hl
          have hv := hJ.val (by simp)
          simp at hv
          obtain ⟨rfl, rfl, rfl⟩ := hv
          have e60 := hF.pure 13 60 (.pointer (some ⟨gc, ki * 8, none⟩)) rfl rfl rfl rfl
          have e59 := hF.link 2 12 59 _ rfl rfl rfl rfl
          exact wp_store_mid 78 (.tmp 60) (.tmp 59) rfl gc (ki * 8) cx.vals.toArray e60 e59 (HTh.out w' (hJ.ext (by simp))) (by exact size_comI) (all_oneCell_toArray (com_ones cx)) (hk undef _ (hJ.sto rfl))
        | p + 4, hp => simp at hp
      intro us w9 hl hJ
      obtain ⟨u0, u1, u2, u3, rfl⟩ := list_4 hl
      first | (rename_i hK; refine hK _ _ ?_; clear hK) | (rename_i hK hK_1; refine hK _ _ ?_; clear hK) | (rename_i hK hK_1 hK_2; refine hK _ _ ?_; clear hK) | (rename_i hK hK_1 hK_2 hK_3; refine hK _ _ ?_; clear hK)
      generalize hL : frameL _ _ _ _ = L
      obtain rfl : L = [(47, .pointer (some ⟨w.heap.size, 7, none⟩)), (48, .slice (some ⟨gc, 0, none⟩) cn cc), (49, .int .i64 (ki : Int)), (50, .agg #[.int .i64 cm.id, .int .i64 cm.ev, .int .i64 cm.fr, .int .i64 cm.til, .string cm.author, .string cm.text, .bool cm.done, .bool cm.lost]), (51, .pointer (some ⟨w.heap.size, 6, none⟩)), (52, .slice (some ⟨g, 0, none⟩) en5 ec), (53, .int .i64 (k : Int)), (54, .pointer (some ⟨g, k * 7, none⟩)), (55, .agg #[.int .i64 x.id, .int .i64 x.inn, .int .i64 x.out, .string x.region, .int .u8 x.kind, .string x.speaker, .slice A1 n1 c1]), (56, u0), (57, .agg #[.int .i64 e.id, .int .i64 e.inn, .int .i64 e.out, .string e.region, .int .u8 e.kind, .string e.speaker, .slice A n c]), (58, u1), (59, u2), (60, .pointer (some ⟨gc, ki * 8, none⟩))] := hL.symm.trans (by kernel_rfl)
      clear hL hl
      simp only [Act.put, List.foldl_cons, List.foldl_nil, List.setIfInBounds_toArray, List.set_cons_zero, List.set_cons_succ]
      obtain ⟨w5', hx5, rfl⟩ := hJ.all rfl
      clear hJ
      go_wp2_with fail
      have hq := (HO9.out.ext hx5).com_sets (c' := cx) rfl HU1.out
      refine ⟨⟨ki + 1, by dsimp only; omega, by go_num, ext_sets (by omega) _ _ _ (HX9.out.trans hx5), hq.2.2.1 _ _ (by decide) (HP9.out.ext hx5), hq.2.2.1 _ _ (by decide) (HV9.out.ext hx5), hq.2.2.1 _ _ (by decide) (HZ9.out.ext hx5), ?_, Nat.le_trans (Nat.le_trans hls9 hx5.size) hq.2.2.2⟩, by simp [intOf]; omega⟩
      rw [HNx.out, HMv.out, ← HUs.out]
      exact hq.1
    · have hin : ki = cn := by omega
      have HO9 : Hid (DocOwn wr w2.heap.size (d.withComs (d.coms.map (Com.onto e.id x.chars e.chars))) ⟨ra, rn, rc, some ⟨g, 0, none⟩, en5, ec, ca, cn, cc⟩) := by
        have h9 := HO8.out
        rw [List.take_of_length_le (by omega), List.drop_eq_nil_of_le (by omega), List.append_nil] at h9
        exact h9
      clear HO8
      have hlt2 : ¬ (ki : Int) < (cn : Int) := by omega
      have hcp := fun o => HP8.out.cell o
      have hce := fun o => HV8.out.cell o
      have HX10 : Hid (Ext w (wr.setCells g (k * 7) (e.cells A n c).toList)) := ext_sets (by omega) _ _ _ HX8.out
      have hq := HO9.out.ev_put (k := k) (x := x) rfl HXk.out (HEa.out.ext HX10.out)
      have HTh := Lib.hid hq.2.1
      have HEs := Lib.hid hq.1
      have HP10 : Hid (Blk (wr.setCells g (k * 7) (e.cells A n c).toList) (w.heap.size) 27 #[.string d.title, .string d.lang, .int .u8 d.rate, .bool d.drop, .int .i64 d.last, .slice ra rn rc, .slice (some ⟨g, 0, none⟩) en5 ec, .slice ca cn cc]) := hq.2.2 (T := 27) (by decide) _ _ HP8.out
      have HZ10 : Hid (Blk (wr.setCells g (k * 7) (e.cells A n c).toList) (w.heap.size + 2) 27 docZero) := hq.2.2 (T := 27) (by decide) _ _ HZ8.out
      have HRg10 := Lib.hid (own_kb HO9.out.regs (hq.2.2 (by decide)))
      have HCm10 := Lib.hid (own_kb HO9.out.coms (hq.2.2 (by decide)))
      have HRl10 := Lib.hid HO9.out.rlen
      have HCl10 := Lib.hid HO9.out.clen
      have hls10 : w2.heap.size ≤ (wr.setCells g (k * 7) (e.cells A n c).toList).heap.size := by
        obtain ⟨hs, h1, -⟩ := HO9.out.evs
        exact Nat.le_trans hls (own_sets_size _ _ _ _ h1)
      clear hq
      unfold Ev.cells at HX10 HEs HP10 HZ10 HRg10 HCm10 hls10
      go_upto_region 18 with (first | (refine wpList_loadB rfl 66 (.tmp 3) rfl (w.heap.size + 1) 66 _ _ (by exact rfl) (by exact HV8.out) Tryz.underlying66 rfl (by exact size_event) ?_) | (refine wpList_store_mid rfl 66 (.tmp 66) (.tmp 65) rfl g (k * 7) (#[.int .i64 e.id, .int .i64 e.inn, .int .i64 e.out, .string e.region, .int .u8 e.kind, .string e.speaker, .slice A n c]) (by exact rfl) (by exact rfl) (by exact HTh.out) (by exact size_event) (by simp [Value.oneCell']) ?_; generalize hW8 : World.setCells _ _ _ _ = W8; have HW8 := Lib.hid hW8; clear hW8))
      rw [HW8.out] at HX10 HEs HP10 HZ10 HRg10 HCm10 hls10
      clear hcp hce HW8 HTh HX8 HP8 HV8 HZ8 HO9
      have hcp := fun o => HP10.out.cell o
      have hfp := fun o => HP10.out.frozen o
      go_wp2_with fail
      refine (DSort_any _ _ _ _ _ HEs.out (show en5 * 88 ≤ _ by omega)).mono ?_
      rintro en w7 ⟨v7, rfl, hev7, hx7⟩
      obtain ⟨A7, c7, hv7, -, -, -⟩ := hev7.at_
      subst hv7
      have HX7 := Lib.hid (HX10.out.trans hx7)
      have HP7 := Lib.hid (HP10.out.ext hx7)
      have HZ7 := Lib.hid (HZ10.out.ext hx7)
      have HO7 : Hid (DocOwn w7 w2.heap.size (d.putD e x k) ⟨ra, rn, rc, A7, en5, c7, ca, cn, cc⟩) := ⟨own_ext HRg10.out hx7, HRl10.out, hev7.le hls10, own_ext HCm10.out hx7, HCl10.out⟩
      clear hcp hfp hev7 hx7 HX10 HP10 HZ10 HRg10 HCm10 HEs
      have hs7 := setCell_put HP7.out 6 (.slice A7 en5 c7)
      have hc7 := HP7.out.cell 6
      have hf7 := HP7.out.frozen 6
      simp at hs7 hc7
      have HP9 := Lib.hid (HP7.out.put #[.string d.title, .string d.lang, .int .u8 d.rate, .bool d.drop, .int .i64 d.last, .slice ra rn rc, .slice A7 en5 c7, .slice ca cn cc])
      have HZ9 := Lib.hid (HZ7.out.put_other (g' := w.heap.size) (t' := 27) (by omega) #[.string d.title, .string d.lang, .int .u8 d.rate, .bool d.drop, .int .i64 d.last, .slice ra rn rc, .slice A7 en5 c7, .slice ca cn cc])
      have HX9 := Lib.hid (HX7.out.put (g := w.heap.size) (by omega) 27 #[.string d.title, .string d.lang, .int .u8 d.rate, .bool d.drop, .int .i64 d.last, .slice ra rn rc, .slice A7 en5 c7, .slice ca cn cc])
      have HO9 := Lib.hid (HO7.out.put HP7.out #[.string d.title, .string d.lang, .int .u8 d.rate, .bool d.drop, .int .i64 d.last, .slice ra rn rc, .slice A7 en5 c7, .slice ca cn cc])
      go_wp2_with (first | (refine wpList_loadB rfl 27 (.tmp 2) rfl (w.heap.size) 27 _ _ (by exact rfl) (by exact HP9.out) Tryz.underlying27 rfl (by exact size_docI) ?_) | (refine wpList_storeB rfl 27 (.tmp 4) _ rfl (w.heap.size + 2) 27 _ _ (by exact rfl) (by exact rfl) (by exact HZ9.out) (by exact rfl) (by exact size_docI) (by simp [Value.oneCell']) ?_))
      refine bodyPost_ret (v := .tuple #[.agg ((d.putX e).1.cells ⟨ra, rn, rc, A7, en5, c7, ca, cn, cc⟩), .int .i64 (d.putX e).2]) ?_ rfl ⟨⟨ra, rn, rc, A7, en5, c7, ca, cn, cc⟩, rfl, ?_, ?_⟩
      · rw [HR1.out]
        exact results_B_tmp (P := Tryz.prog) Tryz.results51 (g := w.heap.size + 2) rfl (by exact HZ9.out.put _) Tryz.underlying27 rfl size_docI
      · rw [HR1.out]
        exact (HO9.out.le hsz).put HZ9.out _
      · exact HX9.out.put (by omega) _ _
end Go.Proofs.YtagfedbdakmlgaaGreatDoor
