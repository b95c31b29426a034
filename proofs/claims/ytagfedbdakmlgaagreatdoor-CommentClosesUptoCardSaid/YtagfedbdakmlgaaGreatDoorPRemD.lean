/- The walk of comment.Remove. -/
import Derived.Test.YtagfedbdakmlgaaGreatDoorPDelC
import Derived.Test.YtagfedbdakmlgaaGreatDoorPk15
namespace Go.Proofs.YtagfedbdakmlgaaGreatDoor
set_option linter.unusedVariables false
set_option linter.unusedSimpArgs false
open Go.RowKit
theorem DocOwn.com_at {w : World} {L k : Nat} {d : Doc} {h : DocH} (o : DocOwn w L d h) (hk : k < h.cn) : ∃ g, h.ca = some ⟨g, 0, none⟩ ∧ L ≤ g := by
  rcases o.coms.2 with ⟨hv, hn⟩ | ⟨g, cap, cur, hv, hg, hb, hnc, hcm, hcs, ht⟩
  · omega
  · exact ⟨g, by injection hv, hg⟩
set_option maxRecDepth 100000 in
set_option maxHeartbeats 4000000 in
theorem CRemove_any (d : Doc) (h : DocH) (id : Int) (w : World) (hE : Env w) (hat : DocAt w d h) (hf : DocFit d) (hrn : h.rn ≤ 9223372036854775807) (hr : h.rn * 56 ≤ 140737488355328) (hn : h.en ≤ 1000000) (hcn : h.cn ≤ 1000000) :
    Calls Tryz.prog 23 #[.agg (d.cells h), .int .i64 id] w (DEPost (d.rmX id) w) := by
  have HX : Hid (Ext w ((w.alloc (.cells (d.cells h) 27)).alloc (.cells docZero 27))) := ((Ext.refl w).alloc _).alloc _
  have HB : Hid (Blk ((w.alloc (.cells (d.cells h) 27)).alloc (.cells docZero 27)) w.heap.size 27 (d.cells h)) := (Blk.new w _ _).alloc _
  have HZ : Hid (Blk ((w.alloc (.cells (d.cells h) 27)).alloc (.cells docZero 27)) (w.heap.size + 1) 27 docZero) := Blk.new' (by simp)
  have HCf := Lib.hid (fun w' (hx : Ext w w') => cfind_any d h id w' (hE.ext hx) (hat.ext hx) hf hrn hn hcn)
  have HCl := Lib.hid (fun w' (hx : Ext w w') => DClone_any d h w' (hat.ext hx) hr (by omega) (by omega))
  have HAt := Lib.hid hat.coms
  have HCln := Lib.hid hat.coms.len
  have END : ∀ (w9 : World) (e : Int), Ext w w9 → Blk w9 (w.heap.size + 1) 27 docZero → d.rmX id = (Doc.zero, e) → ∀ (tmps : Array Value), tmps.getD 4 undef = .pointer (some ⟨w.heap.size + 1, 0, none⟩) → tmps.getD 5 undef = .int .i64 e →
      (results Tryz.f23 tmps).run Tryz.prog (putB w9 (w.heap.size + 1) 27 docZero) = .ok (.tuple #[.agg docZero, .int .i64 e]) (putB w9 (w.heap.size + 1) 27 docZero) ∧
        DEPost (d.rmX id) w (.returned (.tuple #[.agg docZero, .int .i64 e])) (putB w9 (w.heap.size + 1) 27 docZero) := fun w9 e hx hz he tmps h8 h9 => by
    refine ⟨?_, dePost_err he (hx.put (by omega) _ _)⟩
    have := results_B_tmp (P := Tryz.prog) Tryz.results23 (tmps := tmps) (w := putB w9 (w.heap.size + 1) 27 docZero) (g := w.heap.size + 1) h8 (hz.put _) Tryz.underlying27 rfl size_docI
    rw [this, h9]
  have HEnd := Lib.hid END
  clear END hat hE hf hrn hr
  obtain ⟨hra, nr, hrc, hea, hen, hec, hca, nc, hcc⟩ := h
  unfold DClPost at HCl
  unfold Doc.cells docZero at *
  dsimp only at *
  go_enter Tryz.func23, Tryz.ntmps23
  go_wp2_with (refine wpList_loadB rfl 27 (.tmp 2) rfl (w.heap.size) 27 _ _ (by exact rfl) (by exact HB.out) Tryz.underlying27 rfl (by exact size_docI) ?_)
  refine (HCf.out _ HX.out).mono ?_
  rintro en w1 ⟨rfl, hx1⟩
  have HX1 := Lib.hid (HX.out.trans hx1)
  have HB1 := Lib.hid (HB.out.ext hx1)
  have HZ1 := Lib.hid (HZ.out.ext hx1)
  clear hx1 HX HB HZ HCf
  by_cases h0 : d.err = 0
  case neg =>
    have hcf : d.cfErr id = d.err := by unfold Doc.cfErr; rw [if_pos h0]
    have hne : (d.err == 0) = false := by simpa using h0
    have hne2 : (d.err != 0) = true := by simpa using h0
    have HR1 : Hid (d.rmX id = (Doc.zero, d.err)) := rmX_1 h0
    rw [hcf]
    clear h0 hcf
    go_wp2_with (refine wpList_storeB rfl 27 (.tmp 4) _ rfl (w.heap.size + 1) 27 _ _ (by exact rfl) (by exact rfl) (by exact HZ1.out) (by exact rfl) (by exact size_docI) (by simp [Value.oneCell']) ?_)
    exact (fun q => bodyPost_ret q.1 rfl q.2) (HEnd.out _ _ HX1.out HZ1.out (HR1.out) _ (by exact rfl) (by exact rfl))
  cases hfc : findC d.coms id with
  | none =>
    have hfi : findCI d.coms id = -1 := by unfold findCI; rw [hfc]
    have hcf : d.cfErr id = 6 := by unfold Doc.cfErr; rw [if_neg (by simpa using h0), if_pos (by rw [hfi]; decide)]
    have HR1 : Hid (d.rmX id = (Doc.zero, 6)) := rmX_2 h0 hfc
    rw [hcf]
    clear h0 hfc hfi hcf
    go_wp2_with (refine wpList_storeB rfl 27 (.tmp 4) _ rfl (w.heap.size + 1) 27 _ _ (by exact rfl) (by exact rfl) (by exact HZ1.out) (by exact rfl) (by exact size_docI) (by simp [Value.oneCell']) ?_)
    exact (fun q => bodyPost_ret q.1 rfl q.2) (HEnd.out _ _ HX1.out HZ1.out (HR1.out) _ (by exact rfl) (by exact rfl))
  | some k =>
  have hfi : findCI d.coms id = (k : Int) := by unfold findCI; rw [hfc]
  have hcf : d.cfErr id = 0 := by unfold Doc.cfErr; rw [if_neg (by simpa using h0), if_neg (by rw [hfi]; omega)]
  have hci : d.cfIdx id = (k : Int) := by unfold Doc.cfIdx; rw [if_pos hcf, hfi]
  have hkl : k < nc := by have h1 := findC_lt hfc; have h2 := HCln.out; omega
  have HC := Lib.hid h0
  have HF := Lib.hid hfc
  rw [hcf, hci]
  clear h0 hfc hfi hcf hci
  have HR1 : Hid (d.rmX id = (d.withComs (d.coms.take k ++ d.coms.drop (k + 1)), 0)) := rmX_3 HC.out HF.out
  go_wp2_with (refine wpList_loadB rfl 27 (.tmp 2) rfl (w.heap.size) 27 _ _ (by exact rfl) (by exact HB1.out) Tryz.underlying27 rfl (by exact size_docI) ?_)
  refine (HCl.out _ HX1.out).mono ?_
  rintro en w5 ⟨⟨ra, rn, rc, ea, en5, ec, ca, cn, cc⟩, rfl, ho5, hx5⟩
  dsimp only
  have hsz := HX1.out.size
  have hcn5 : k < cn := by have := ho5.clen; have := HCln.out; dsimp only at *; omega
  obtain ⟨g, hca, hLg⟩ := ho5.com_at hcn5
  dsimp only at hca
  subst hca
  have HX5 := Lib.hid (HX1.out.trans hx5)
  have HB5 := Lib.hid (HB1.out.ext hx5)
  have HZ5 := Lib.hid (HZ1.out.ext hx5)
  have HO5 := Lib.hid (DocOwn.put ho5 HB5.out #[.string d.title, .string d.lang, .int .u8 d.rate, .bool d.drop, .int .i64 d.last, .slice ra rn rc, .slice ea en5 ec, .slice (some ⟨g, 0, none⟩) cn cc])
  have HP5 := Lib.hid (HB5.out.put #[.string d.title, .string d.lang, .int .u8 d.rate, .bool d.drop, .int .i64 d.last, .slice ra rn rc, .slice ea en5 ec, .slice (some ⟨g, 0, none⟩) cn cc])
  have HZ5' := Lib.hid (HZ5.out.put_other (g' := w.heap.size) (t' := 27) (by omega) #[.string d.title, .string d.lang, .int .u8 d.rate, .bool d.drop, .int .i64 d.last, .slice ra rn rc, .slice ea en5 ec, .slice (some ⟨g, 0, none⟩) cn cc])
  have HX5' := Lib.hid (HX5.out.put (g := w.heap.size) (Nat.le_refl _) 27 #[.string d.title, .string d.lang, .int .u8 d.rate, .bool d.drop, .int .i64 d.last, .slice ra rn rc, .slice ea en5 ec, .slice (some ⟨g, 0, none⟩) cn cc])
  have hcp := fun o => HP5.out.cell o
  clear ho5 hx5 HX5 HZ5
  go_wp2_with (refine wpList_storeB rfl 27 (.tmp 2) _ rfl (w.heap.size) 27 _ _ (by exact rfl) (by exact rfl) (by exact HB5.out) (by exact rfl) (by exact size_docI) (by simp [Value.oneCell']) ?_)
  clear hcp
  refine (CDel_any HO5.out.coms HO5.out.clen hcn5).mono ?_
  rintro en w6 ⟨rfl, hrow, cur, w7, cur', hBc, hx7, rfl⟩
  have hBc7 := hBc.ext hx7
  have HX6 := Lib.hid ((HX5'.out.trans hx7).put (g := g) (by omega) 78 cur')
  have HP6 := Lib.hid ((HP5.out.ext hx7).kb (KB.put (cs' := cur') hBc7 (by decide)))
  have HZ6 := Lib.hid ((HZ5'.out.ext hx7).kb (KB.put (cs' := cur') hBc7 (by decide)))
  have HO6 : Hid (DocOwn (putB w7 g 78 cur') w1.heap.size (d.withComs (d.coms.take k ++ d.coms.drop (k + 1))) ⟨ra, rn, rc, ea, en5, ec, some ⟨g, 0, none⟩, cn - 1, cc⟩) :=
    ⟨own_kb (own_ext HO5.out.regs hx7) (KB.put hBc7 (by decide)), HO5.out.rlen, (HO5.out.evs.ext hx7).kb (KB.put hBc7 (by decide)) (KB.put hBc7 (by decide)) (KB.put hBc7 (by decide)), hrow, by
      have := HO5.out.clen
      show (d.coms.take k ++ d.coms.drop (k + 1)).length = _
      dsimp only at *
      simp
      omega⟩
  have hs6 := setCell_put HP6.out 7 (.slice (some ⟨g, 0, none⟩) (cn - 1) cc)
  have hc6 := HP6.out.cell 7
  have hf6 := HP6.out.frozen 7
  simp at hs6 hc6
  have HP7 := Lib.hid (HP6.out.put #[.string d.title, .string d.lang, .int .u8 d.rate, .bool d.drop, .int .i64 d.last, .slice ra rn rc, .slice ea en5 ec, .slice (some ⟨g, 0, none⟩) (cn - 1) cc])
  have HZ7 := Lib.hid (HZ6.out.put_other (g' := w.heap.size) (t' := 27) (by omega) #[.string d.title, .string d.lang, .int .u8 d.rate, .bool d.drop, .int .i64 d.last, .slice ra rn rc, .slice ea en5 ec, .slice (some ⟨g, 0, none⟩) (cn - 1) cc])
  clear hrow hBc hx7 hBc7 HX5' HZ5' HP5 HB5
  go_wp2_with (first | (refine wpList_loadB rfl 27 (.tmp 2) rfl (w.heap.size) 27 _ _ (by exact rfl) (by exact HP7.out) Tryz.underlying27 rfl (by exact size_docI) ?_) | (refine wpList_storeB rfl 27 (.tmp 4) _ rfl (w.heap.size + 1) 27 _ _ (by exact rfl) (by exact rfl) (by exact HZ7.out) (by exact rfl) (by exact size_docI) (by simp [Value.oneCell']) ?_))
  refine bodyPost_ret (v := .tuple #[.agg ((d.rmX id).1.cells ⟨ra, rn, rc, ea, en5, ec, some ⟨g, 0, none⟩, cn - 1, cc⟩), .int .i64 (d.rmX id).2]) ?_ rfl ⟨⟨ra, rn, rc, ea, en5, ec, some ⟨g, 0, none⟩, cn - 1, cc⟩, rfl, ?_, ?_⟩
  · rw [HR1.out]
    exact results_B_tmp (P := Tryz.prog) Tryz.results23 (g := w.heap.size + 1) rfl (by exact HZ7.out.put _) Tryz.underlying27 rfl size_docI
  · rw [HR1.out]
    exact ((HO6.out.le hsz).put HP6.out _).put HZ7.out _
  · exact (HX6.out.put (Nat.le_refl _) _ _).put (by omega) _ _
end Go.Proofs.YtagfedbdakmlgaaGreatDoor
