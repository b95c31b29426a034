/- The walk of comment.Close. -/
import Derived.Test.YtagfedbdakmlgaaGreatDoorPCloseP
import Derived.Test.YtagfedbdakmlgaaGreatDoorPk15
namespace Go.Proofs.YtagfedbdakmlgaaGreatDoor
set_option linter.unusedVariables false
set_option linter.unusedSimpArgs false
open Go.RowKit
set_option maxRecDepth 100000 in
set_option maxHeartbeats 4000000 in
theorem CClose_any (d : Doc) (h : DocH) (id : Int) (w : World) (hE : Env w) (hat : DocAt w d h) (hf : DocFit d) (hrn : h.rn ≤ 9223372036854775807) (hr : h.rn * 56 ≤ 140737488355328) (hn : h.en ≤ 1000000) (hcn : h.cn ≤ 1000000) :
    Calls Tryz.prog 21 #[.agg (d.cells h), .int .i64 id] w (DEPost (d.clX id) w) := by
  have HX : Hid (Ext w ((w.alloc (.cells (d.cells h) 27)).alloc (.cells docZero 27))) := ((Ext.refl w).alloc _).alloc _
  have HB : Hid (Blk ((w.alloc (.cells (d.cells h) 27)).alloc (.cells docZero 27)) w.heap.size 27 (d.cells h)) := (Blk.new w _ _).alloc _
  have HZ : Hid (Blk ((w.alloc (.cells (d.cells h) 27)).alloc (.cells docZero 27)) (w.heap.size + 1) 27 docZero) := Blk.new' (by simp)
  have HCf := Lib.hid (fun w' (hx : Ext w w') => cfind_any d h id w' (hE.ext hx) (hat.ext hx) hf hrn hn hcn)
  have HCl := Lib.hid (fun w' (hx : Ext w w') => DClone_any d h w' (hat.ext hx) hr (by omega) (by omega))
  have HAt := Lib.hid hat.coms
  have HCln := Lib.hid hat.coms.len
  have END : ∀ (w9 : World) (e : Int), Ext w w9 → Blk w9 (w.heap.size + 1) 27 docZero → d.clX id = (Doc.zero, e) → ∀ (tmps : Array Value), tmps.getD 4 undef = .pointer (some ⟨w.heap.size + 1, 0, none⟩) → tmps.getD 5 undef = .int .i64 e →
      (results Tryz.f21 tmps).run Tryz.prog (putB w9 (w.heap.size + 1) 27 docZero) = .ok (.tuple #[.agg docZero, .int .i64 e]) (putB w9 (w.heap.size + 1) 27 docZero) ∧
        DEPost (d.clX id) w (.returned (.tuple #[.agg docZero, .int .i64 e])) (putB w9 (w.heap.size + 1) 27 docZero) := fun w9 e hx hz he tmps h8 h9 => by
    refine ⟨?_, dePost_err he (hx.put (by omega) _ _)⟩
    have := results_B_tmp (P := Tryz.prog) Tryz.results21 (tmps := tmps) (w := putB w9 (w.heap.size + 1) 27 docZero) (g := w.heap.size + 1) h8 (hz.put _) Tryz.underlying27 rfl size_docI
    rw [this, h9]
  have HEnd := Lib.hid END
  clear END hat hE hf hrn hr
  obtain ⟨hra, nr, hrc, hea, hen, hec, hca, nc, hcc⟩ := h
  unfold DClPost at HCl
  unfold Doc.cells docZero at *
  dsimp only at *
  go_enter Tryz.func21, Tryz.ntmps21
  go_wp2_with (refine wpList_loadB rfl 27 (.tmp 2) rfl (w.heap.size) 27 _ _ (by exact rfl) (by exact HB.out) Tryz.underlying27 rfl (by exact size_docI) ?_)
  refine (HCf.out _ HX.out).mono ?_
  rintro en w1 ⟨rfl, hx1⟩
  have HX1 := Lib.hid (HX.out.trans hx1)
  have HB1 := Lib.hid (HB.out.ext hx1)
  have HZ1 := Lib.hid (HZ.out.ext hx1)
  clear hx1 HX HB HZ HCf
  by_cases h0 : d.err = 0
  case neg =>
    have hcf : d.cfErr id = d.err := by unfold Doc.cfErr; rw [if_pos h0]
    have hne : (d.err == 0) = false := by simpa using h0
    have hne2 : (d.err != 0) = true := by simpa using h0
    have HR1 : Hid (d.clX id = (Doc.zero, d.err)) := clX_1 h0
    rw [hcf]
    clear h0 hcf
    go_wp2_with (refine wpList_storeB rfl 27 (.tmp 4) _ rfl (w.heap.size + 1) 27 _ _ (by exact rfl) (by exact rfl) (by exact HZ1.out) (by exact rfl) (by exact size_docI) (by simp [Value.oneCell']) ?_)
    exact (fun q => bodyPost_ret q.1 rfl q.2) (HEnd.out _ _ HX1.out HZ1.out (HR1.out) _ (by exact rfl) (by exact rfl))
  cases hfc : findC d.coms id with
  | none =>
    have hfi : findCI d.coms id = -1 := by unfold findCI; rw [hfc]
    have hcf : d.cfErr id = 6 := by unfold Doc.cfErr; rw [if_neg (by simpa using h0), if_pos (by rw [hfi]; decide)]
    have HR1 : Hid (d.clX id = (Doc.zero, 6)) := clX_2 h0 hfc
    rw [hcf]
    clear h0 hfc hfi hcf
    go_wp2_with (refine wpList_storeB rfl 27 (.tmp 4) _ rfl (w.heap.size + 1) 27 _ _ (by exact rfl) (by exact rfl) (by exact HZ1.out) (by exact rfl) (by exact size_docI) (by simp [Value.oneCell']) ?_)
    exact (fun q => bodyPost_ret q.1 rfl q.2) (HEnd.out _ _ HX1.out HZ1.out (HR1.out) _ (by exact rfl) (by exact rfl))
  | some k =>
  have hfi : findCI d.coms id = (k : Int) := by unfold findCI; rw [hfc]
  have hcf : d.cfErr id = 0 := by unfold Doc.cfErr; rw [if_neg (by simpa using h0), if_neg (by rw [hfi]; omega)]
  have hci : d.cfIdx id = (k : Int) := by unfold Doc.cfIdx; rw [if_pos hcf, hfi]
  have hkl : k < nc := by have h1 := findC_lt hfc; have h2 := HCln.out; omega
  have HC := Lib.hid h0
  have HF := Lib.hid hfc
  rw [hcf, hci]
  clear h0 hfc hfi hcf hci
  obtain ⟨b, off, c, rfl, hcc', e0, e1, e2, e3, e4, e5, e6, e7⟩ := (HAt.out.ext HX1.out).at8 hkl
  have HCc := Lib.hid hcc'
  have hcd := fun o => HB1.out.cell o
  have hbn := Nat.le_of_lt_succ (Nat.lt_succ_of_lt hkl)
  clear hcc'
  cases hdn : c.done
  case true =>
    have HR1 : Hid (d.clX id = (Doc.zero, 17)) := clX_3 HC.out HF.out HCc.out hdn
    rw [hdn] at e6
    clear hdn
    go_wp2_with (refine wpList_storeB rfl 27 (.tmp 4) _ rfl (w.heap.size + 1) 27 _ _ (by exact rfl) (by exact rfl) (by exact HZ1.out) (by exact rfl) (by exact size_docI) (by simp [Value.oneCell']) ?_)
    exact (fun q => bodyPost_ret q.1 rfl q.2) (HEnd.out _ _ HX1.out HZ1.out (HR1.out) _ (by exact rfl) (by exact rfl))
  case false =>
    have HR1 : Hid (d.clX id = (d.withComs (d.coms.set k c.shut), 0)) := clX_4 HC.out HF.out HCc.out hdn
    rw [hdn] at e6
    clear hdn
    go_wp2_with (refine wpList_loadB rfl 27 (.tmp 2) rfl (w.heap.size) 27 _ _ (by exact rfl) (by exact HB1.out) Tryz.underlying27 rfl (by exact size_docI) ?_)
    clear e0 e1 e2 e3 e4 e5 e6 e7 hcd
    refine (HCl.out _ HX1.out).mono ?_
    rintro en w5 ⟨⟨ra, rn, rc, ea, en5, ec, ca, cn, cc⟩, rfl, ho5, hx5⟩
    dsimp only
    have HX5 := Lib.hid (HX1.out.trans hx5)
    have HB5 := Lib.hid (HB1.out.ext hx5)
    have HZ5 := Lib.hid (HZ1.out.ext hx5)
    have HO5 := Lib.hid (DocOwn.put ho5 HB5.out #[.string d.title, .string d.lang, .int .u8 d.rate, .bool d.drop, .int .i64 d.last, .slice ra rn rc, .slice ea en5 ec, .slice ca cn cc])
    obtain ⟨g, hca, hLg, hT, hcl, hfr, ho6, hgr⟩ := HO5.out.shut HCc.out
    dsimp only at hca
    subst hca
    have hcn5 : k < cn := by have := ho5.clen; have := (List.getElem?_eq_some_iff.1 HCc.out).1; dsimp only at *; omega
    have HP5 := Lib.hid (HB5.out.put #[.string d.title, .string d.lang, .int .u8 d.rate, .bool d.drop, .int .i64 d.last, .slice ra rn rc, .slice ea en5 ec, .slice (some ⟨g, 0, none⟩) cn cc])
    have HZ5' := Lib.hid (HZ5.out.put_other (g' := w.heap.size) (t' := 27) (by omega) #[.string d.title, .string d.lang, .int .u8 d.rate, .bool d.drop, .int .i64 d.last, .slice ra rn rc, .slice ea en5 ec, .slice (some ⟨g, 0, none⟩) cn cc])
    have HX5' := Lib.hid (HX5.out.put (g := w.heap.size) (Nat.le_refl _) 27 #[.string d.title, .string d.lang, .int .u8 d.rate, .bool d.drop, .int .i64 d.last, .slice ra rn rc, .slice ea en5 ec, .slice (some ⟨g, 0, none⟩) cn cc])
    have hsz := HX1.out.size
    have HX6 := Lib.hid (HX5'.out.grown hgr (fun q hq => by cases hq; omega))
    have HP6 := Lib.hid (HP5.out.kb (KB.grown hgr (fun q hq => by cases hq; exact hT) (by decide)))
    have HZ6 := Lib.hid (HZ5'.out.kb (KB.grown hgr (fun q hq => by cases hq; exact hT) (by decide)))
    have HO6 := Lib.hid ho6
    have hcp := fun o => HP5.out.cell o
    have HB5k := HB5
    clear hgr hT ho5 ho6 hx5 HB5 HZ5 HX5 HX5' HZ5' HO5
    go_wp2_with (first | (refine wpList_storeB rfl 27 (.tmp 2) _ rfl (w.heap.size) 27 _ _ (by exact rfl) (by exact rfl) (by exact HB5k.out) (by exact rfl) (by exact size_docI) (by simp [Value.oneCell']) ?_) | (refine wpList_loadB rfl 27 (.tmp 2) rfl (w.heap.size) 27 _ _ (by exact rfl) (by exact HP6.out) Tryz.underlying27 rfl (by exact size_docI) ?_) | (refine wpList_storeB rfl 27 (.tmp 4) _ rfl (w.heap.size + 1) 27 _ _ (by exact rfl) (by exact rfl) (by exact HZ6.out) (by exact rfl) (by exact size_docI) (by simp [Value.oneCell']) ?_))
    refine bodyPost_ret (v := .tuple #[.agg ((d.clX id).1.cells ⟨ra, rn, rc, ea, en5, ec, some ⟨g, 0, none⟩, cn, cc⟩), .int .i64 (d.clX id).2]) ?_ rfl ⟨⟨ra, rn, rc, ea, en5, ec, some ⟨g, 0, none⟩, cn, cc⟩, rfl, ?_, ?_⟩
    · rw [HR1.out]
      exact results_B_tmp (P := Tryz.prog) Tryz.results21 (g := w.heap.size + 1) rfl (by exact HZ6.out.put _) Tryz.underlying27 rfl size_docI
    · rw [HR1.out]
      exact (HO6.out.le hsz).put HZ6.out _
    · exact HX6.out.put (by omega) _ _
end Go.Proofs.YtagfedbdakmlgaaGreatDoor
