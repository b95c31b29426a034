/- Laid together: The walk of comment.Add. The walks of comment.find and comment.Quoted. -/
import Derived.Test.YtagfedbdakmlgaaDoorPk17
import Derived.Test.YtagfedbdakmlgaaDoorPk15
import Derived.Test.YtagfedbdakmlgaaDoorPk09
import Derived.Test.YtagfedbdakmlgaaDoorPk14

/-! AddD -/
namespace Go.Proofs.YtagfedbdakmlgaaDoor
set_option linter.unusedVariables false
set_option linter.unusedSimpArgs false
open Go.RowKit

set_option maxRecDepth 100000 in
set_option maxHeartbeats 8000000 in
theorem DAdd_any (d : Doc) (h : DocH) (id fr til : Int) (au tx : ByteArray) (w : World) (hE : Env w) (hat : DocAt w d h) (hf : DocFit d) (hrn : h.rn ≤ 9223372036854775807) (hr : h.rn * 56 ≤ 140737488355328) (hn : h.en ≤ 1000000) (hcn : h.cn ≤ 1000000) (hau : au.size ≤ 9223372036854775807) (htx : tx.size ≤ 9223372036854775807) :
    Calls Tryd.prog 27 #[.agg (d.cells h), .int .i64 id, .int .i64 fr, .int .i64 til, .string au, .string tx] w (AddPost d id fr til au tx w) := by
  have HX : Hid (Ext w ((w.alloc (.cells (d.cells h) 39)).alloc (.cells docZero 39))) := ((Ext.refl w).alloc _).alloc _
  have HB : Hid (Blk ((w.alloc (.cells (d.cells h) 39)).alloc (.cells docZero 39)) w.heap.size 39 (d.cells h)) := (Blk.new w _ _).alloc _
  have HZ : Hid (Blk ((w.alloc (.cells (d.cells h) 39)).alloc (.cells docZero 39)) (w.heap.size + 1) 39 docZero) := Blk.new' (by simp)
  have HCk := Lib.hid (fun w' (hx : Ext w w') => DCheck_any d h w' (hE.ext hx) (hat.ext hx) hf hrn hn (by omega))
  have HFd := Lib.hid (fun w' (hx : Ext w w') => DFind_any d h id w' (hat.evs.ext hx) (by omega))
  have HCl := Lib.hid (fun w' (hx : Ext w w') => DClone_any d h w' (hat.ext hx) hr (by omega) (by omega))
  have HNm := Lib.hid (fun w' => Name_any au w' hau)
  have HVl := Lib.hid (fun w' (hx : Ext w w') => Valid_any tx w' (hE.ext hx) htx)
  have HEv := Lib.hid hat.evs
  have HE := Lib.hid hE
  have HSm := Lib.hid hf.evs
  have HEl := Lib.hid hat.evs.len
  have HCn := Lib.hid hat.coms.len
  have END : ∀ (w9 : World) (e : Int), Ext w w9 → Blk w9 (w.heap.size + 1) 39 docZero → d.addErr id fr til au tx = e → e ≠ 0 → ∀ (tmps : Array Value), tmps.getD 12 undef = .pointer (some ⟨w.heap.size + 1, 0, none⟩) → tmps.getD 13 undef = .int .i64 0 → tmps.getD 14 undef = .int .i64 e →
      (results Tryd.f27 tmps).run Tryd.prog (putB w9 (w.heap.size + 1) 39 docZero) = .ok (.tuple #[.agg docZero, .int .i64 0, .int .i64 e]) (putB w9 (w.heap.size + 1) 39 docZero) ∧
        AddPost d id fr til au tx w (.returned (.tuple #[.agg docZero, .int .i64 0, .int .i64 e])) (putB w9 (w.heap.size + 1) 39 docZero) := fun w9 e hx hz he h0 tmps h8 h9 h10 => by
    refine ⟨?_, addPost_err he h0 (hx.put (by omega) _ _)⟩
    have := results_B_tmp2 (P := Tryd.prog) Tryd.results27 (tmps := tmps) (w := putB w9 (w.heap.size + 1) 39 docZero) (g := w.heap.size + 1) h8 (hz.put _) Tryd.underlying39 rfl size_docI
    rw [this, h9, h10]
  have HEnd := Lib.hid END
  clear END hat hE hf hrn hr
  obtain ⟨hra, nr, hrc, hea, hen, hec, hca, nc, hcc⟩ := h
  unfold DClPost at HCl
  unfold Doc.cells docZero at *
  dsimp only at *
  go_enter Tryd.func27, Tryd.ntmps27
  go_wp2_with (refine wpList_loadB rfl 39 (.tmp 6) rfl w.heap.size 39 _ _ (by exact rfl) (by exact HB.out) Tryd.underlying39 rfl (by exact size_docI) ?_)
  refine (HCk.out _ HX.out).mono ?_
  rintro en w_1 ⟨rfl, hx_2⟩
  have HX_3 := Lib.hid (HX.out.trans hx_2)
  have HB_4 := Lib.hid (HB.out.ext hx_2)
  have HB_5 := Lib.hid (HZ.out.ext hx_2)
  clear hx_2 HX HB HZ
  by_cases h1 : d.err = 0
  case neg =>
    have hne : (d.err != 0) = true := by simpa using h1
    have HN1 := Lib.hid h1
    clear h1
    have HErr : Hid (d.addErr id fr til au tx = d.err) := add_1 HN1.out
    have hc_6 := fun o => HB_4.out.cell o
    go_wp2_with (refine wpList_storeB rfl 39 (.tmp 12) (.tmp 22) rfl (w.heap.size + 1) 39 _ _ (by exact rfl) (by exact rfl) (by exact HB_5.out) (by exact rfl) (by exact size_docI) (by simp [Value.oneCell']) ?_)
    clear hc_6
    refine bodyPost_ret (v := .tuple #[.agg #[.string ⟨#[]⟩, .string ⟨#[]⟩, .int .u8 0, .bool false, .int .i64 0, .slice none 0 0, .slice none 0 0, .slice none 0 0], .int .i64 0, .int .i64 (d.err)]) ?_ rfl ?_
    · exact (HEnd.out _ _ HX_3.out HB_5.out HErr.out (HN1.out) _ rfl rfl rfl).1
    · exact (HEnd.out _ _ HX_3.out HB_5.out HErr.out (HN1.out) #[undef, undef, undef, undef, undef, undef, undef, undef, undef, undef, undef, undef, .pointer (some ⟨w.heap.size + 1, 0, none⟩), .int .i64 0, .int .i64 (d.err)] rfl rfl rfl).2
  have H1 := Lib.hid h1
  have HB0 := Lib.hid (head_ok' (doc_ok h1).1)
  have hl0 := HB0.out.2.2.2.2.1
  have hl1 := HB0.out.2.2.2.2.2
  rw [h1]
  clear h1
  go_wp2_with (refine wpList_loadB rfl 39 (.tmp 6) rfl w.heap.size 39 _ _ (by exact rfl) (by exact HB_4.out) Tryd.underlying39 rfl (by exact size_docI) ?_)
  refine (HFd.out _ HX_3.out).mono ?_
  rintro en w_7 ⟨rfl, hx_8⟩
  have HX_9 := Lib.hid (HX_3.out.trans hx_8)
  have HB_10 := Lib.hid (HB_4.out.ext hx_8)
  have HB_11 := Lib.hid (HB_5.out.ext hx_8)
  clear hx_8 HX_3 HB_4 HB_5
  cases hfe : findE d.evs id with
  | none =>
    have hfi : findI d.evs id = -1 := by unfold findI; rw [hfe]
    have HN1 := Lib.hid hfe
    rw [hfi]
    clear hfe hfi
    have HErr : Hid (d.addErr id fr til au tx = 6) := add_2 H1.out HN1.out
    have hc_12 := fun o => HB_10.out.cell o
    go_wp2_with (refine wpList_storeB rfl 39 (.tmp 12) (.tmp 76) rfl (w.heap.size + 1) 39 _ _ (by exact rfl) (by exact rfl) (by exact HB_11.out) (by exact rfl) (by exact size_docI) (by simp [Value.oneCell']) ?_)
    clear hc_12
    refine bodyPost_ret (v := .tuple #[.agg #[.string ⟨#[]⟩, .string ⟨#[]⟩, .int .u8 0, .bool false, .int .i64 0, .slice none 0 0, .slice none 0 0, .slice none 0 0], .int .i64 0, .int .i64 (6)]) ?_ rfl ?_
    · exact (HEnd.out _ _ HX_9.out HB_11.out HErr.out (by decide) _ rfl rfl rfl).1
    · exact (HEnd.out _ _ HX_9.out HB_11.out HErr.out (by decide) #[undef, undef, undef, undef, undef, undef, undef, undef, undef, undef, undef, undef, .pointer (some ⟨w.heap.size + 1, 0, none⟩), .int .i64 0, .int .i64 (6)] rfl rfl rfl).2
  | some k =>
    have hfi : findI d.evs id = (k : Int) := by unfold findI; rw [hfe]
    have hkn : k < hen := by have := (List.findIdx?_eq_some_iff_getElem.1 hfe).1; have := HEl.out; omega
    obtain ⟨eb, eoff, x, A', n', c', rfl, hxe, hxat, e0, e1, e2, e3, e4, e5, e6⟩ := (HEv.out.ext HX_9.out).at_ev hkn
    have HR := Lib.hid (fun fr til au tx => add_r (fr := fr) (til := til) (au := au) (tx := tx) H1.out hfe hxe)
    have hsx := HSm.out x (List.mem_of_getElem? hxe)
    have HLx := Lib.hid (fun w' (hx : Ext w_7 w') => ELen_any x A' n' c' w' (HE.out.ext (HX_9.out.trans hx)) (hxat.ext hx) hsx.1.2.2 hsx.2)
    rw [hfi]
    unfold Ev.cells at HLx
    clear hfe hfi hxe hxat hsx
    by_cases g1 : fr < 0
    · have HErr : Hid (d.addErr id fr til au tx = 2) := by show _ = _; rw [HR.out, if_pos (.inl g1)]
      have hc_13 := fun o => HB_10.out.cell o
      go_wp2_with (refine wpList_storeB rfl 39 (.tmp 12) (.tmp 76) rfl (w.heap.size + 1) 39 _ _ (by exact rfl) (by exact rfl) (by exact HB_11.out) (by exact rfl) (by exact size_docI) (by simp [Value.oneCell']) ?_)
      clear hc_13
      refine bodyPost_ret (v := .tuple #[.agg #[.string ⟨#[]⟩, .string ⟨#[]⟩, .int .u8 0, .bool false, .int .i64 0, .slice none 0 0, .slice none 0 0, .slice none 0 0], .int .i64 0, .int .i64 (2)]) ?_ rfl ?_
      · exact (HEnd.out _ _ HX_9.out HB_11.out HErr.out (by decide) _ rfl rfl rfl).1
      · exact (HEnd.out _ _ HX_9.out HB_11.out HErr.out (by decide) #[undef, undef, undef, undef, undef, undef, undef, undef, undef, undef, undef, undef, .pointer (some ⟨w.heap.size + 1, 0, none⟩), .int .i64 0, .int .i64 (2)] rfl rfl rfl).2
    by_cases g2 : til ≤ fr
    · have HErr : Hid (d.addErr id fr til au tx = 2) := by show _ = _; rw [HR.out, if_pos (.inr (.inl g2))]
      have hc_14 := fun o => HB_10.out.cell o
      go_wp2_with (refine wpList_storeB rfl 39 (.tmp 12) (.tmp 76) rfl (w.heap.size + 1) 39 _ _ (by exact rfl) (by exact rfl) (by exact HB_11.out) (by exact rfl) (by exact size_docI) (by simp [Value.oneCell']) ?_)
      clear hc_14
      refine bodyPost_ret (v := .tuple #[.agg #[.string ⟨#[]⟩, .string ⟨#[]⟩, .int .u8 0, .bool false, .int .i64 0, .slice none 0 0, .slice none 0 0, .slice none 0 0], .int .i64 0, .int .i64 (2)]) ?_ rfl ?_
      · exact (HEnd.out _ _ HX_9.out HB_11.out HErr.out (by decide) _ rfl rfl rfl).1
      · exact (HEnd.out _ _ HX_9.out HB_11.out HErr.out (by decide) #[undef, undef, undef, undef, undef, undef, undef, undef, undef, undef, undef, undef, .pointer (some ⟨w.heap.size + 1, 0, none⟩), .int .i64 0, .int .i64 (2)] rfl rfl rfl).2
    have hc_15 := fun o => HB_10.out.cell o
    go_wp2_with fail
    clear hc_15
    refine (HLx.out _ (Ext.refl _)).mono ?_
    rintro en w_16 ⟨rfl, hx_17⟩
    have HX_18 := Lib.hid (HX_9.out.trans hx_17)
    have HB_19 := Lib.hid (HB_10.out.ext hx_17)
    have HB_20 := Lib.hid (HB_11.out.ext hx_17)
    clear hx_17 HX_9 HB_10 HB_11
    clear e0 e1 e2 e3 e4 e5 e6
    by_cases g3 : x.len < til
    · have HErr : Hid (d.addErr id fr til au tx = 2) := by show _ = _; rw [HR.out, if_pos (.inr (.inr g3))]
      have hc_21 := fun o => HB_19.out.cell o
      go_wp2_with (refine wpList_storeB rfl 39 (.tmp 12) (.tmp 76) rfl (w.heap.size + 1) 39 _ _ (by exact rfl) (by exact rfl) (by exact HB_20.out) (by exact rfl) (by exact size_docI) (by simp [Value.oneCell']) ?_)
      clear hc_21
      refine bodyPost_ret (v := .tuple #[.agg #[.string ⟨#[]⟩, .string ⟨#[]⟩, .int .u8 0, .bool false, .int .i64 0, .slice none 0 0, .slice none 0 0, .slice none 0 0], .int .i64 0, .int .i64 (2)]) ?_ rfl ?_
      · exact (HEnd.out _ _ HX_18.out HB_20.out HErr.out (by decide) _ rfl rfl rfl).1
      · exact (HEnd.out _ _ HX_18.out HB_20.out HErr.out (by decide) #[undef, undef, undef, undef, undef, undef, undef, undef, undef, undef, undef, undef, .pointer (some ⟨w.heap.size + 1, 0, none⟩), .int .i64 0, .int .i64 (2)] rfl rfl rfl).2
    have HA : Hid (¬ (fr < 0 ∨ til ≤ fr ∨ x.len < til)) := by show ¬ _; omega
    go_wp2_with fail
    clear g1 g2 g3
    refine (HNm.out _).mono ?_
    rintro en w_22 ⟨rfl, rfl⟩
    cases hnm : nameB au
    · have HN1 := Lib.hid hnm
      clear hnm
      have HErr : Hid (d.addErr id fr til au tx = 5) := by show _ = _; rw [HR.out, if_neg HA.out, if_pos HN1.out]
      have hc_23 := fun o => HB_19.out.cell o
      go_wp2_with (refine wpList_storeB rfl 39 (.tmp 12) (.tmp 76) rfl (w.heap.size + 1) 39 _ _ (by exact rfl) (by exact rfl) (by exact HB_20.out) (by exact rfl) (by exact size_docI) (by simp [Value.oneCell']) ?_)
      clear hc_23
      refine bodyPost_ret (v := .tuple #[.agg #[.string ⟨#[]⟩, .string ⟨#[]⟩, .int .u8 0, .bool false, .int .i64 0, .slice none 0 0, .slice none 0 0, .slice none 0 0], .int .i64 0, .int .i64 (5)]) ?_ rfl ?_
      · exact (HEnd.out _ _ HX_18.out HB_20.out HErr.out (by decide) _ rfl rfl rfl).1
      · exact (HEnd.out _ _ HX_18.out HB_20.out HErr.out (by decide) #[undef, undef, undef, undef, undef, undef, undef, undef, undef, undef, undef, undef, .pointer (some ⟨w.heap.size + 1, 0, none⟩), .int .i64 0, .int .i64 (5)] rfl rfl rfl).2
    have HA1 := Lib.hid hnm
    clear hnm
    go_wp2_with fail
    refine (HVl.out _ HX_18.out).mono ?_
    rintro en w_24 ⟨rfl, hx_25⟩
    have HX_26 := Lib.hid (HX_18.out.trans hx_25)
    have HB_27 := Lib.hid (HB_19.out.ext hx_25)
    have HB_28 := Lib.hid (HB_20.out.ext hx_25)
    clear hx_25 HX_18 HB_19 HB_20
    cases hvl : vld tx
    · have HN1 := Lib.hid hvl
      clear hvl
      have HErr : Hid (d.addErr id fr til au tx = 10) := by show _ = _; rw [HR.out, if_neg HA.out, if_neg (by rw [HA1.out]; decide), if_pos HN1.out]
      have hc_29 := fun o => HB_27.out.cell o
      go_wp2_with (refine wpList_storeB rfl 39 (.tmp 12) (.tmp 76) rfl (w.heap.size + 1) 39 _ _ (by exact rfl) (by exact rfl) (by exact HB_28.out) (by exact rfl) (by exact size_docI) (by simp [Value.oneCell']) ?_)
      clear hc_29
      refine bodyPost_ret (v := .tuple #[.agg #[.string ⟨#[]⟩, .string ⟨#[]⟩, .int .u8 0, .bool false, .int .i64 0, .slice none 0 0, .slice none 0 0, .slice none 0 0], .int .i64 0, .int .i64 (10)]) ?_ rfl ?_
      · exact (HEnd.out _ _ HX_26.out HB_28.out HErr.out (by decide) _ rfl rfl rfl).1
      · exact (HEnd.out _ _ HX_26.out HB_28.out HErr.out (by decide) #[undef, undef, undef, undef, undef, undef, undef, undef, undef, undef, undef, undef, .pointer (some ⟨w.heap.size + 1, 0, none⟩), .int .i64 0, .int .i64 (10)] rfl rfl rfl).2
    have HA2 := Lib.hid hvl
    clear hvl
    cases het : tx.toList.isEmpty
    case true =>
      have HErr : Hid (d.addErr id fr til au tx = 4) := by show _ = _; rw [HR.out, if_neg HA.out, if_neg (by rw [HA1.out]; decide), if_neg (by rw [HA2.out]; decide), if_pos het]
      have hc_30 := fun o => HB_27.out.cell o
      go_wp2_with (refine wpList_storeB rfl 39 (.tmp 12) (.tmp 76) rfl (w.heap.size + 1) 39 _ _ (by exact rfl) (by exact rfl) (by exact HB_28.out) (by exact rfl) (by exact size_docI) (by simp [Value.oneCell']) ?_)
      clear hc_30
      refine bodyPost_ret (v := .tuple #[.agg #[.string ⟨#[]⟩, .string ⟨#[]⟩, .int .u8 0, .bool false, .int .i64 0, .slice none 0 0, .slice none 0 0, .slice none 0 0], .int .i64 0, .int .i64 (4)]) ?_ rfl ?_
      · exact (HEnd.out _ _ HX_26.out HB_28.out HErr.out (by decide) _ rfl rfl rfl).1
      · exact (HEnd.out _ _ HX_26.out HB_28.out HErr.out (by decide) #[undef, undef, undef, undef, undef, undef, undef, undef, undef, undef, undef, undef, .pointer (some ⟨w.heap.size + 1, 0, none⟩), .int .i64 0, .int .i64 (4)] rfl rfl rfl).2
    by_cases q1 : 400 < tx.size
    · have q1i : (400 : Int) < (tx.size : Int) := by omega
      have HErr : Hid (d.addErr id fr til au tx = 9) := by show _ = _; rw [HR.out, if_neg HA.out, if_neg (by rw [HA1.out]; decide), if_neg (by rw [HA2.out]; decide), if_neg (by rw [het]; decide), if_pos (by rw [HCn.out]; omega)]
      have hc_31 := fun o => HB_27.out.cell o
      go_wp2_with (refine wpList_storeB rfl 39 (.tmp 12) (.tmp 76) rfl (w.heap.size + 1) 39 _ _ (by exact rfl) (by exact rfl) (by exact HB_28.out) (by exact rfl) (by exact size_docI) (by simp [Value.oneCell']) ?_)
      clear hc_31
      refine bodyPost_ret (v := .tuple #[.agg #[.string ⟨#[]⟩, .string ⟨#[]⟩, .int .u8 0, .bool false, .int .i64 0, .slice none 0 0, .slice none 0 0, .slice none 0 0], .int .i64 0, .int .i64 (9)]) ?_ rfl ?_
      · exact (HEnd.out _ _ HX_26.out HB_28.out HErr.out (by decide) _ rfl rfl rfl).1
      · exact (HEnd.out _ _ HX_26.out HB_28.out HErr.out (by decide) #[undef, undef, undef, undef, undef, undef, undef, undef, undef, undef, undef, undef, .pointer (some ⟨w.heap.size + 1, 0, none⟩), .int .i64 0, .int .i64 (9)] rfl rfl rfl).2
    have q1i : ¬ (400 : Int) < (tx.size : Int) := by omega
    by_cases q2 : 64 ≤ nc
    · have q2i : (64 : Int) ≤ (nc : Int) := by omega
      have HErr : Hid (d.addErr id fr til au tx = 9) := by show _ = _; rw [HR.out, if_neg HA.out, if_neg (by rw [HA1.out]; decide), if_neg (by rw [HA2.out]; decide), if_neg (by rw [het]; decide), if_pos (by rw [HCn.out]; omega)]
      have hc_32 := fun o => HB_27.out.cell o
      go_wp2_with (refine wpList_storeB rfl 39 (.tmp 12) (.tmp 76) rfl (w.heap.size + 1) 39 _ _ (by exact rfl) (by exact rfl) (by exact HB_28.out) (by exact rfl) (by exact size_docI) (by simp [Value.oneCell']) ?_)
      clear hc_32
      refine bodyPost_ret (v := .tuple #[.agg #[.string ⟨#[]⟩, .string ⟨#[]⟩, .int .u8 0, .bool false, .int .i64 0, .slice none 0 0, .slice none 0 0, .slice none 0 0], .int .i64 0, .int .i64 (9)]) ?_ rfl ?_
      · exact (HEnd.out _ _ HX_26.out HB_28.out HErr.out (by decide) _ rfl rfl rfl).1
      · exact (HEnd.out _ _ HX_26.out HB_28.out HErr.out (by decide) #[undef, undef, undef, undef, undef, undef, undef, undef, undef, undef, undef, undef, .pointer (some ⟨w.heap.size + 1, 0, none⟩), .int .i64 0, .int .i64 (9)] rfl rfl rfl).2
    have q2i : ¬ (64 : Int) ≤ (nc : Int) := by omega
    by_cases q3 : 1099511627776 ≤ d.last
    · have HErr : Hid (d.addErr id fr til au tx = 9) := by show _ = _; rw [HR.out, if_neg HA.out, if_neg (by rw [HA1.out]; decide), if_neg (by rw [HA2.out]; decide), if_neg (by rw [het]; decide), if_pos (by rw [HCn.out]; omega)]
      have hc_33 := fun o => HB_27.out.cell o
      go_wp2_with (refine wpList_storeB rfl 39 (.tmp 12) (.tmp 76) rfl (w.heap.size + 1) 39 _ _ (by exact rfl) (by exact rfl) (by exact HB_28.out) (by exact rfl) (by exact size_docI) (by simp [Value.oneCell']) ?_)
      clear hc_33
      refine bodyPost_ret (v := .tuple #[.agg #[.string ⟨#[]⟩, .string ⟨#[]⟩, .int .u8 0, .bool false, .int .i64 0, .slice none 0 0, .slice none 0 0, .slice none 0 0], .int .i64 0, .int .i64 (9)]) ?_ rfl ?_
      · exact (HEnd.out _ _ HX_26.out HB_28.out HErr.out (by decide) _ rfl rfl rfl).1
      · exact (HEnd.out _ _ HX_26.out HB_28.out HErr.out (by decide) #[undef, undef, undef, undef, undef, undef, undef, undef, undef, undef, undef, undef, .pointer (some ⟨w.heap.size + 1, 0, none⟩), .int .i64 0, .int .i64 (9)] rfl rfl rfl).2
    have HOk : Hid (d.addErr id fr til au tx = 0) := by show _ = _; rw [HR.out, if_neg HA.out, if_neg (by rw [HA1.out]; decide), if_neg (by rw [HA2.out]; decide), if_neg (by rw [het]; decide), if_neg (by rw [HCn.out]; omega)]
    clear HR HLx
    have hc_34 := fun o => HB_27.out.cell o
    go_wp2_with (refine wpList_loadB rfl 39 (.tmp 6) rfl w.heap.size 39 _ _ (by exact rfl) (by exact HB_27.out) Tryd.underlying39 rfl (by exact size_docI) ?_)
    clear hc_34
    refine (HCl.out _ HX_26.out).mono ?_
    rintro en w_35 ⟨⟨ra, rn, rc, ea, en', ec, ca, cn, cc⟩, rfl, ho5, hx_36⟩
    dsimp only
    have hszw := HX_26.out.size
    have HO5 := Lib.hid (ho5.le hszw)
    have hcn9 : cn < 64 := by
      have h1 := ho5.clen
      have h2 := HCn.out
      dsimp only at h1
      omega
    clear ho5 q1 q2
    have HX_37 := Lib.hid (HX_26.out.trans hx_36)
    have HB_38 := Lib.hid (HB_27.out.ext hx_36)
    have HB_39 := Lib.hid (HB_28.out.ext hx_36)
    clear hx_36 HX_26 HB_27 HB_28
    go_upto_region 21 with (refine wpList_storeB rfl 39 (.tmp 6) (.tmp 79) rfl w.heap.size 39 _ _ (by exact rfl) (by exact rfl) (by exact HB_38.out) (by exact rfl) (by exact size_docI) (by simp [Value.oneCell']) ?_)
    obtain ⟨W6, hW6⟩ : ∃ W6, W6 = putB w_35 w.heap.size 39 #[.string d.title, .string d.lang, .int .u8 d.rate, .bool d.drop, .int .i64 d.last, .slice ra rn rc, .slice ea en' ec, .slice ca cn cc] := ⟨_, rfl⟩
    rw [← hW6]
    have HB6 : Hid (Blk W6 w.heap.size 39 #[.string d.title, .string d.lang, .int .u8 d.rate, .bool d.drop, .int .i64 d.last, .slice ra rn rc, .slice ea en' ec, .slice ca cn cc]) := by show Blk _ _ _ _; rw [hW6]; exact HB_38.out.put _
    have HZ6 : Hid (Blk W6 (w.heap.size + 1) 39 #[.string ⟨#[]⟩, .string ⟨#[]⟩, .int .u8 0, .bool false, .int .i64 0, .slice none 0 0, .slice none 0 0, .slice none 0 0]) := by show Blk _ _ _ _; rw [hW6]; exact HB_39.out.put_other (by omega) _
    have HX6 : Hid (Ext w W6) := by show Ext _ _; rw [hW6]; exact HX_37.out.put (Nat.le_refl _) _ _
    have HO6 : Hid (DocOwn W6 w.heap.size d ⟨ra, rn, rc, ea, en', ec, ca, cn, cc⟩) := by show DocOwn _ _ _ _; rw [hW6]; exact (HO5.out.ext (Ext.refl _)).put HB_38.out _
    have hgne : w.heap.size ≠ w.heap.size + 1 := by omega
    have hgle : w.heap.size ≤ w.heap.size := Nat.le_refl _
    clear hW6 HO5
    clear HB_38 HB_39 HX_37
    have hs6 := fun u => setCell_put HB6.out 4 u
    have hc6 := HB6.out.cell 4
    have hf6 := HB6.out.frozen 4
    simp at hs6 hc6
    go_upto_region 22 with (fail)
    clear hs6 hc6 hf6
    obtain ⟨W7, hW7⟩ : ∃ W7, W7 = putB W6 w.heap.size 39 #[.string d.title, .string d.lang, .int .u8 d.rate, .bool d.drop, .int .i64 (d.last + 1), .slice ra rn rc, .slice ea en' ec, .slice ca cn cc] := ⟨_, rfl⟩
    rw [← hW7]
    have HB7 : Hid (Blk W7 w.heap.size 39 #[.string d.title, .string d.lang, .int .u8 d.rate, .bool d.drop, .int .i64 (d.last + 1), .slice ra rn rc, .slice ea en' ec, .slice ca cn cc]) := by show Blk _ _ _ _; rw [hW7]; exact HB6.out.put _
    have HZ7 : Hid (Blk W7 (w.heap.size + 1) 39 #[.string ⟨#[]⟩, .string ⟨#[]⟩, .int .u8 0, .bool false, .int .i64 0, .slice none 0 0, .slice none 0 0, .slice none 0 0]) := by show Blk _ _ _ _; rw [hW7]; exact HZ6.out.put_other (by omega) _
    have HX7 : Hid (Ext w W7) := by show Ext _ _; rw [hW7]; exact HX6.out.put hgle _ _
    have HO7 : Hid (DocOwn W7 w.heap.size d ⟨ra, rn, rc, ea, en', ec, ca, cn, cc⟩) := by show DocOwn _ _ _ _; rw [hW7]; exact HO6.out.put HB6.out _
    have hsz7 := HX7.out.size
    clear hW7 HB6 HZ6 HX6 HO6
    have hc7 := fun o => HB7.out.cell o
    have hown0 := HO7.out.coms
    dsimp only at hown0
    go_upto_region 23 with (at_builtin; refine wpList_append1 rfl (.tmp 85) (.tmp 94) 37 rfl info_comI Tryd.underlying37 rfl (by decide) (hown0.alloc _) (by exact rfl) W7.heap.size _ (by exact rfl) (by exact Blk.new' (by simp)) (by exact rfl) (by simp [Value.oneCell']) (by omega) (by simp [maxLen]; omega) (by simp; omega) ?_; intro v8 w8 hown hgr; have hty := own_typed (hown0.alloc (.cells #[.int .i64 (d.last + 1), .int .i64 id, .int .i64 fr, .int .i64 til, .string au, .string tx, .bool false, .bool false] 31)); have hlt := own_lt (hown0.alloc (.cells #[.int .i64 (d.last + 1), .int .i64 id, .int .i64 fr, .int .i64 til, .string au, .string tx, .bool false, .bool false] 31)); have HB8 := Lib.hid ((HB7.out.alloc (.cells #[.int .i64 (d.last + 1), .int .i64 id, .int .i64 fr, .int .i64 til, .string au, .string tx, .bool false, .bool false] 31)).kb (KB.grown hgr hty (by decide))); have HZ8 := Lib.hid ((HZ7.out.alloc (.cells #[.int .i64 (d.last + 1), .int .i64 id, .int .i64 fr, .int .i64 til, .string au, .string tx, .bool false, .bool false] 31)).kb (KB.grown hgr hty (by decide))); have HX8 := Lib.hid ((HX7.out.alloc (.cells #[.int .i64 (d.last + 1), .int .i64 id, .int .i64 fr, .int .i64 til, .string au, .string tx, .bool false, .bool false] 31)).grown hgr hlt); have HO8 := Lib.hid hown; have HR8 := Lib.hid (own_kb (own_ext HO7.out.regs ((Ext.refl W7).alloc (.cells #[.int .i64 (d.last + 1), .int .i64 id, .int .i64 fr, .int .i64 til, .string au, .string tx, .bool false, .bool false] 31))) (KB.grown hgr hty (by decide))); have HE8 := Lib.hid ((HO7.out.evs.ext ((Ext.refl W7).alloc (.cells #[.int .i64 (d.last + 1), .int .i64 id, .int .i64 fr, .int .i64 til, .string au, .string tx, .bool false, .bool false] 31))).kb (KB.grown hgr hty (by decide)) (KB.grown hgr hty (by decide)) (KB.grown hgr hty (by decide))); obtain ⟨A8, c8, rfl⟩ := own_isSlice hown; have hs8 := fun u => setCell_put HB8.out 7 u; have hc8 := HB8.out.cell 7; have hf8 := HB8.out.frozen 7; simp at hs8 hc8; clear hown hgr hty hlt)
    clear hs8 hc8 hf8 hc7 hown0
    obtain ⟨W9, hW9⟩ : ∃ W9, W9 = putB w8 w.heap.size 39 #[.string d.title, .string d.lang, .int .u8 d.rate, .bool d.drop, .int .i64 (d.last + 1), .slice ra rn rc, .slice ea en' ec, .slice A8 (cn + 1) c8] := ⟨_, rfl⟩
    rw [← hW9]
    have HB9 : Hid (Blk W9 w.heap.size 39 #[.string d.title, .string d.lang, .int .u8 d.rate, .bool d.drop, .int .i64 (d.last + 1), .slice ra rn rc, .slice ea en' ec, .slice A8 (cn + 1) c8]) := by show Blk _ _ _ _; rw [hW9]; exact HB8.out.put _
    have HZ9 : Hid (Blk W9 (w.heap.size + 1) 39 #[.string ⟨#[]⟩, .string ⟨#[]⟩, .int .u8 0, .bool false, .int .i64 0, .slice none 0 0, .slice none 0 0, .slice none 0 0]) := by show Blk _ _ _ _; rw [hW9]; exact HZ8.out.put_other (by omega) _
    have HX9 : Hid (Ext w W9) := by show Ext _ _; rw [hW9]; exact HX8.out.put hgle _ _
    have HO9 : Hid (DocOwn W9 w.heap.size (d.addD id fr til au tx) ⟨ra, rn, rc, ea, en', ec, A8, cn + 1, c8⟩) := by
      show DocOwn _ _ _ _
      rw [hW9]
      refine DocOwn.mk (own_kb HR8.out (KB.put HB8.out (by decide))) HO7.out.rlen (HE8.out.kb (KB.put HB8.out (by decide)) (KB.put HB8.out (by decide)) (KB.put HB8.out (by decide))) ?_ ?_
      · have := own_kb HO8.out (KB.put HB8.out (cs' := #[.string d.title, .string d.lang, .int .u8 d.rate, .bool d.drop, .int .i64 (d.last + 1), .slice ra rn rc, .slice ea en' ec, .slice A8 (cn + 1) c8]) (by decide))
        show World.ownsRow _ _ _ _ _ _ ((d.coms ++ [_]).flatMap Com.vals)
        rw [List.flatMap_append]
        simpa [Com.vals] using this
      · show (d.coms ++ [_]).length = cn + 1
        have := HO7.out.clen
        dsimp only at this
        simp; omega
    clear hW9 HB7 HZ7 HX7 HO7 HB8 HZ8 HX8 HO8 HR8 HE8
    refine wp_region_links [some 97, some 98, some 99, none, some 13, some 14] [[], [], [1], [0, 0], [2, 3, 0, 1, 2, 3], [4, 0, 1, 2, 3, 4]] [3] [.agg #[.string d.title, .string d.lang, .int .u8 d.rate, .bool d.drop, .int .i64 (d.last + 1), .slice ra rn rc, .slice ea en' ec, .slice A8 (cn + 1) c8], .pointer (some ⟨w.heap.size, 4, none⟩), .int .i64 (d.last + 1), undef, .int .i64 (d.last + 1), .int .i64 0] (RdJ (w.heap.size + 1) #[.string d.title, .string d.lang, .int .u8 d.rate, .bool d.drop, .int .i64 (d.last + 1), .slice ra rn rc, .slice ea en' ec, .slice A8 (cn + 1) c8] W9) (by kernel_rfl) (by kernel_rfl) (by kernel_rfl) (by kernel_rfl) (by kernel_rfl) (by kernel_rfl) (by kernel_rfl) (by decide) ?_ ?_ ?_ ?_
    · exact RdJ.start _ _ W9
    · intro i o ho hc a w' us K' hJ hF hlim hk
      match i, ho with
      | 0, ho =>
        simp only [List.getElem?_toArray, List.getElem?_cons_zero, List.getElem?_cons_succ, Option.some.injEq] at ho
        subst ho
        have e6 := hF.old 6 (.pointer (some ⟨w.heap.size, 0, none⟩)) rfl rfl
        exact wp_loadBk 39 (.tmp 6) rfl _ 39 _ _ e6 (hJ.blk HB9.out hgne) Tryd.underlying39 rfl (by exact size_docI) hk
      | 1, ho =>
        simp only [List.getElem?_toArray, List.getElem?_cons_zero, List.getElem?_cons_succ, Option.some.injEq] at ho
        subst ho
        have e6 := hF.old 6 (.pointer (some ⟨w.heap.size, 0, none⟩)) rfl rfl
        simp only [Act.eval] at e6
        clear hF hlim hJ
        go_simp
        exact hk
      | 2, ho =>
        simp only [List.getElem?_toArray, List.getElem?_cons_zero, List.getElem?_cons_succ, Option.some.injEq] at ho
        subst ho
        have e98 := hF.pure 1 98 (.pointer (some ⟨w.heap.size, 4, none⟩)) rfl rfl rfl rfl
        have hcl : w'.cell? ⟨w.heap.size, 4, none⟩ = some (.int .i64 (d.last + 1)) := (hJ.blk HB9.out hgne).cell 4
        simp only [Act.eval] at e98
        clear hF hlim hJ
        go_simp
        exact hk
      | 3, ho => simp at hc
      | 4, ho =>
        simp only [List.getElem?_toArray, List.getElem?_cons_zero, List.getElem?_cons_succ, Option.some.injEq] at ho
        subst ho
        have e99 := hF.pure 2 99 (.int .i64 (d.last + 1)) rfl rfl rfl rfl
        simp only [Act.eval] at e99
        clear hF hlim hJ
        go_simp
        exact hk
      | 5, ho =>
        simp only [List.getElem?_toArray, List.getElem?_cons_zero, List.getElem?_cons_succ, Option.some.injEq] at ho
        subst ho
        clear hF hlim hJ
        go_simp
        exact hk
      | i + 6, ho => simp at ho
    · intro p c' o hp ho a w' us K' hl hJ hF hk
      match p, hp with
      | 0, hp =>
        obtain rfl : 3 = c' := by simpa using hp
        simp only [List.getElem?_toArray, List.getElem?_cons_zero, List.getElem?_cons_succ, Option.some.injEq] at ho
        subst ho
        obtain rfl : us = [] := List.eq_nil_of_length_eq_zero hl
        have e12 := hF.old 12 (.pointer (some ⟨w.heap.size + 1, 0, none⟩)) rfl rfl
        have e97 := hF.pure 0 97 (.agg #[.string d.title, .string d.lang, .int .u8 d.rate, .bool d.drop, .int .i64 (d.last + 1), .slice ra rn rc, .slice ea en' ec, .slice A8 (cn + 1) c8]) rfl rfl rfl rfl
        exact wp_storeB 39 (.tmp 12) (.tmp 97) rfl (w.heap.size + 1) 39 _ _ e12 e97 (by exact size_docI) (by simp [Value.oneCell']) (hJ.blk_nil HZ9.out) rfl (hk undef _ hJ.store)
      | p + 1, hp => simp at hp
    intro us w10 hl hJ
    obtain ⟨u0, rfl⟩ := list_1 hl
    first | (rename_i hK; refine hK _ _ ?_; clear hK) | (rename_i hK hK_1; refine hK _ _ ?_; clear hK) | (rename_i hK hK_1 hK_2; refine hK _ _ ?_; clear hK) | (rename_i hK hK_1 hK_2 hK_3; refine hK _ _ ?_; clear hK)
    generalize hL : frameL _ _ _ _ = L
    obtain rfl : L = [(97, .agg #[.string d.title, .string d.lang, .int .u8 d.rate, .bool d.drop, .int .i64 (d.last + 1), .slice ra rn rc, .slice ea en' ec, .slice A8 (cn + 1) c8]), (98, .pointer (some ⟨w.heap.size, 4, none⟩)), (99, .int .i64 (d.last + 1)), (13, .int .i64 (d.last + 1)), (14, .int .i64 0)] := hL.symm.trans (by kernel_rfl)
    clear hL hl
    simp only [Act.put, List.foldl_cons, List.foldl_nil, List.setIfInBounds_toArray, List.set_cons_zero, List.set_cons_succ]
    obtain ⟨w11, hx11, rfl⟩ := hJ.one
    go_wp2_with fail
    have hD : d.added id fr til au tx = d.addD id fr til au tx := by unfold Doc.added; rw [if_pos HOk.out]
    have hI : d.addId id fr til au tx = d.last + 1 := by unfold Doc.addId; rw [if_pos HOk.out]
    refine bodyPost_ret (v := .tuple #[.agg #[.string d.title, .string d.lang, .int .u8 d.rate, .bool d.drop, .int .i64 (d.last + 1), .slice ra rn rc, .slice ea en' ec, .slice A8 (cn + 1) c8], .int .i64 (d.last + 1), .int .i64 0]) ?_ rfl ⟨⟨ra, rn, rc, ea, en', ec, A8, cn + 1, c8⟩, ?_, ?_, ?_⟩
    · exact results_B_tmp2 (P := Tryd.prog) Tryd.results27 (g := w.heap.size + 1) rfl (by exact (HZ9.out.ext hx11).put _) Tryd.underlying39 rfl size_docI
    · rw [hD, hI, HOk.out]; rfl
    · rw [hD]; exact (HO9.out.ext hx11).put (HZ9.out.ext hx11) _
    · exact (HX9.out.trans hx11).put (by omega) _ _
end Go.Proofs.YtagfedbdakmlgaaDoor

/-! QuoteD -/
namespace Go.Proofs.YtagfedbdakmlgaaDoor
set_option linter.unusedVariables false
set_option linter.unusedSimpArgs false
open Go.RowKit

set_option maxRecDepth 100000 in
set_option maxHeartbeats 2000000 in
theorem cfind_any (d : Doc) (h : DocH) (id : Int) (w : World) (hE : Env w) (hat : DocAt w d h) (hf : DocFit d) (hrn : h.rn ≤ 9223372036854775807) (hn : h.en ≤ 1000000) (hcn : h.cn ≤ 1000000) :
    Calls Tryd.prog 59 #[.agg (d.cells h), .int .i64 id] w fun en w' => en = .returned (.tuple #[.int .i64 (d.cfIdx id), .int .i64 (d.cfErr id)]) ∧ Ext w w' := by
  have HX := Lib.hid ((Ext.refl w).alloc (.cells (d.cells h) 39))
  have HB := Lib.hid (Blk.new w 39 (d.cells h))
  have HCk := Lib.hid (fun w' (hx : Ext w w') => DCheck_any d h w' (hE.ext hx) (hat.ext hx) hf hrn hn (by omega))
  have HFd := Lib.hid (fun w' (hx : Ext w w') => CFind_any d h id w' (hat.coms.ext hx) (by omega))
  clear hat hE hf
  unfold Doc.cells at *
  go_enter Tryd.func59, Tryd.ntmps59
  go_wp2_with (refine wpList_loadB rfl 39 (.tmp 2) rfl w.heap.size 39 _ _ (by exact rfl) (by exact HB.out) Tryd.underlying39 rfl (by exact size_docI) ?_)
  refine (HCk.out _ HX.out).mono ?_
  rintro en w_1 ⟨rfl, hx_2⟩
  have HX_3 := Lib.hid (HX.out.trans hx_2)
  have HB_4 := Lib.hid (HB.out.ext hx_2)
  clear hx_2 HX HB
  by_cases h1 : d.err = 0
  case neg =>
    have hne : (d.err != 0) = true := by simpa using h1
    have HE1 : Hid (d.cfErr id = d.err) := by show _ = _; unfold Doc.cfErr; rw [if_pos h1]
    have HE2 : Hid (d.cfIdx id = 0) := by show _ = _; unfold Doc.cfIdx; rw [if_neg (by rw [HE1.out]; exact h1)]
    clear h1
    go_wp2_with fail
    go_ret2
    exact ⟨by rw [HE1.out, HE2.out]; rfl, HX_3.out⟩
  have H1 := Lib.hid h1
  rw [h1]
  clear h1
  go_wp2_with (refine wpList_loadB rfl 39 (.tmp 2) rfl w.heap.size 39 _ _ (by exact rfl) (by exact HB_4.out) Tryd.underlying39 rfl (by exact size_docI) ?_)
  refine (HFd.out _ HX_3.out).mono ?_
  rintro en w_5 ⟨rfl, hx_6⟩
  have HX_7 := Lib.hid (HX_3.out.trans hx_6)
  have HB_8 := Lib.hid (HB_4.out.ext hx_6)
  clear hx_6 HX_3 HB_4
  by_cases h2 : findCI d.coms id < 0
  · have HE1 : Hid (d.cfErr id = 6) := by show _ = _; unfold Doc.cfErr; rw [if_neg (by rw [H1.out]; decide), if_pos h2]
    have HE2 : Hid (d.cfIdx id = 0) := by show _ = _; unfold Doc.cfIdx; rw [if_neg (by rw [HE1.out]; decide)]
    go_wp2_with fail
    go_ret2
    exact ⟨by rw [HE1.out, HE2.out]; rfl, HX_7.out⟩
  have HE1 : Hid (d.cfErr id = 0) := by show _ = _; unfold Doc.cfErr; rw [if_neg (by rw [H1.out]; decide), if_neg h2]
  have HE2 : Hid (d.cfIdx id = findCI d.coms id) := by show _ = _; unfold Doc.cfIdx; rw [if_pos HE1.out]
  go_wp2_with fail
  go_ret2
  exact ⟨by rw [HE1.out, HE2.out]; rfl, HX_7.out⟩

def QtRel (W : World) (fr til : Int) (l : List Int) (n : Nat) (v i : Value) (wr : World) : Prop := ∃ k : Nat, k ≤ n ∧ v = .string (quoteT fr til (l.take k)) ∧ i = .int .i64 k ∧ Ext W wr
theorem text_size (e : Ev) {n : Nat} (h : e.bytes ≤ 1099511627776) (hn : n * 24 ≤ 140737488355328) (hl : e.rows.length = n) : (⟨e.text.toArray⟩ : ByteArray).size ≤ 35184372088831 := by
  have h1 := join_len [10] (e.rows.map rowText)
  have h2 : ((e.rows.map rowText).map List.length) = e.rows.map rowBytes := by
    rw [List.map_map]
    apply List.map_congr_left
    intro r _
    exact rowText_len r
  have h3 : (⟨e.text.toArray⟩ : ByteArray).size = e.text.length := rfl
  rw [h2] at h1
  unfold Ev.bytes at h
  rw [h3]
  unfold Ev.text
  simp only [List.length_map, List.length_singleton, Nat.mul_one] at h1
  omega

set_option maxRecDepth 100000 in
set_option maxHeartbeats 8000000 in
theorem Quoted_any (d : Doc) (h : DocH) (id : Int) (w : World) (hE : Env w) (hat : DocAt w d h) (hf : DocFit d) (hrn : h.rn ≤ 9223372036854775807) (hn : h.en ≤ 1000000) (hcn : h.cn ≤ 1000000) :
    Calls Tryd.prog 28 #[.agg (d.cells h), .int .i64 id] w fun en w' => en = .returned (.tuple #[.string (d.quX id).1, .int .i64 (d.quX id).2]) ∧ Ext w w' := by
  have HX := Lib.hid ((Ext.refl w).alloc (.cells (d.cells h) 39))
  have HB := Lib.hid (Blk.new w 39 (d.cells h))
  have HCf := Lib.hid (fun w' (hx : Ext w w') => cfind_any d h id w' (hE.ext hx) (hat.ext hx) hf hrn hn hcn)
  have HFd := Lib.hid (fun w' (hx : Ext w w') ev => DFind_any d h ev w' (hat.evs.ext hx) (by omega))
  have HEv := Lib.hid hat.evs
  have HCo := Lib.hid hat.coms
  have HSm := Lib.hid hf.evs
  have HEl := Lib.hid hat.evs.len
  have HCl := Lib.hid hat.coms.len
  clear hat hE hf
  obtain ⟨hra, nr, hrc, hea, hen, hec, hca, nc, hcc⟩ := h
  unfold Doc.cells at *
  dsimp only at *
  go_enter Tryd.func28, Tryd.ntmps28
  go_wp2_with (refine wpList_loadB rfl 39 (.tmp 2) rfl w.heap.size 39 _ _ (by exact rfl) (by exact HB.out) Tryd.underlying39 rfl (by exact size_docI) ?_)
  refine (HCf.out _ HX.out).mono ?_
  rintro en w_9 ⟨rfl, hx_10⟩
  have HX_11 := Lib.hid (HX.out.trans hx_10)
  have HB_12 := Lib.hid (HB.out.ext hx_10)
  clear hx_10 HX HB
  by_cases h1 : d.err = 0
  case neg =>
    have HE1 : Hid (d.cfErr id = d.err) := by show _ = _; unfold Doc.cfErr; rw [if_pos h1]
    have HQ := Lib.hid (qu_1 (id := id) h1)
    rw [HE1.out]
    have hne : (d.err != 0) = true := by simpa using h1
    clear h1
    go_wp2_with fail
    go_ret2
    exact ⟨by rw [HQ.out]; rfl, HX_11.out⟩
  have H1 := Lib.hid h1
  clear h1
  cases hfc : findC d.coms id with
  | none =>
      have HE1 : Hid (d.cfErr id = 6) := by show _ = _; unfold Doc.cfErr findCI; rw [if_neg (by rw [H1.out]; decide), hfc]; rfl
      have HQ := Lib.hid (qu_2 H1.out hfc)
      rw [HE1.out]
      clear hfc
      go_wp2_with fail
      go_ret2
      exact ⟨by rw [HQ.out]; rfl, HX_11.out⟩
  | some k =>
      have HE1 : Hid (d.cfErr id = 0) := by show _ = _; unfold Doc.cfErr findCI; rw [if_neg (by rw [H1.out]; decide), hfc]; simp only; rw [if_neg (by omega)]
      have HE2 : Hid (d.cfIdx id = (k : Int)) := by show _ = _; unfold Doc.cfIdx findCI; rw [if_pos HE1.out, hfc]
      have hkn : k < nc := by have := (List.findIdx?_eq_some_iff_getElem.1 hfc).1; have := HCl.out; omega
      have HFc := Lib.hid hfc
      rw [HE1.out, HE2.out]
      clear hfc
      obtain ⟨cb, coff, c, rfl, hcc', c0, c1, c2, c3, c4, c5, c6, c7⟩ := (HCo.out.ext HX_11.out).at8 hkn
      have HCc := Lib.hid hcc'
      clear hcc'
      have hcd0 := fun o => HB_12.out.cell o
      have HB_13 := Lib.hid (Blk.new w_9 31 #[.int .i64 c.id, .int .i64 c.ev, .int .i64 c.fr, .int .i64 c.til, .string c.author, .string c.text, .bool c.done, .bool c.lost])
      have ha_14 := (Ext.refl w_9).alloc (.cells #[.int .i64 c.id, .int .i64 c.ev, .int .i64 c.fr, .int .i64 c.til, .string c.author, .string c.text, .bool c.done, .bool c.lost] 31)
      have HX_15 := Lib.hid (HX_11.out.trans ha_14)
      have HB_16 := Lib.hid (HB_12.out.ext ha_14)
      clear ha_14 HX_11 HB_12
      cases hlo : c.lost
      case true =>
        have HQ := Lib.hid (qu_3 H1.out HFc.out HCc.out hlo)
        rw [hlo] at c7 HB_13 HB_16 HX_15
        have HLo := Lib.hid hlo
        clear hlo
        have hc_17 := fun o => HB_16.out.cell o
        have hc_18 := fun o => HB_13.out.cell o
        go_wp2_with fail
        clear hc_17 hc_18
        go_ret2
        exact ⟨by rw [HQ.out]; rfl, HX_15.out⟩
      obtain ⟨m, x, hfe, hxe, hfr, htl, -⟩ := com_anchor H1.out HCc.out hlo
      have HQ := Lib.hid (qu_4 H1.out HFc.out HCc.out hlo hfe hxe)
      have hmn : m < hen := by have := (List.getElem?_eq_some_iff.1 hxe).1; have := HEl.out; omega
      have hfi : findI d.evs c.ev = (m : Int) := by unfold findI; rw [hfe]
      have HFv := Lib.hid (fun w' hx => by have := HFd.out w' hx c.ev; rwa [hfi] at this : ∀ w', Ext w w' → Calls Tryd.prog 23 #[.agg #[.string d.title, .string d.lang, .int .u8 d.rate, .bool d.drop, .int .i64 d.last, .slice hra nr hrc, .slice hea hen hec, .slice (some ⟨cb, coff, none⟩) nc hcc], .int .i64 c.ev] w' fun e w'' => e = .returned (.int .i64 (m : Int)) ∧ Ext w' w'')
      clear hfi hfe
      rw [hlo] at c7 HB_13 HB_16 HX_15
      have HLo := Lib.hid hlo
      clear hlo
      have hc_19 := fun o => HB_16.out.cell o
      have hc_20 := fun o => HB_13.out.cell o
      go_wp2_with fail
      clear hc_19 hc_20
      clear c0 c1 c2 c3 c4 c5 c6 c7 hcd0
      obtain ⟨gC, hgC⟩ : ∃ gC, gC = w_9.heap.size := ⟨_, rfl⟩
      rw [← hgC]
      rw [← hgC] at HB_13
      generalize hWg : (w_9.alloc (.cells #[.int .i64 c.id, .int .i64 c.ev, .int .i64 c.fr, .int .i64 c.til, .string c.author, .string c.text, .bool c.done, .bool false] 31)) = W1 at *
      clear hWg hgC
      obtain ⟨eb, eoff, x', heA, hx', A', n', c', hcx, hxat⟩ := (HEv.out.ext HX_15.out).at_ hmn
      obtain rfl : x' = x := by rw [hxe] at hx'; exact (Option.some.inj hx').symm
      subst heA
      have hsx := HSm.out x' (List.mem_of_getElem? hxe)
      have HPl := Lib.hid (fun w' (hx : Ext W1 w') => EPlain_any x' A' n' c' w' (hxat.ext hx) hsx.2)
      have htx : (⟨x'.text.toArray⟩ : ByteArray).size ≤ 35184372088831 := text_size x' hsx.2 hxat.2.2 hxat.1.len
      have HRu := Lib.hid (fun w' => CRunes_any ⟨x'.text.toArray⟩ w' htx)
      have hL9 := runes_len ⟨x'.text.toArray⟩
      have HCx := Lib.hid hcx
      generalize hT : (⟨x'.text.toArray⟩ : ByteArray) = T at *
      clear hT hcx hxat hsx hx' hxe
      unfold Ev.cells at HPl
      unfold RunesPost at HRu
      have hST : QSt [fun u _ => u = Value.int .i64 (m : Int), fun u _ => u = .string T, fun u w => ∃ A c, u = .slice A (runes T 0).length c ∧ RunesAt w A (runes T 0).length (runes T 0) ∧ (runes T 0).length ≤ c, fun u _ => u = .int .i64 ((runes T 0).length : Int)] := by
        intro p hp u w w' hx h
        simp only [List.mem_cons, List.not_mem_nil, or_false] at hp
        rcases hp with rfl | rfl | rfl | rfl
        · exact h
        · exact h
        · obtain ⟨A, c, h1, h2, h3⟩ := h; exact ⟨A, c, h1, h2.ext hx, h3⟩
        · exact h
      refine wp_region_links [some 28, some 29, some 30, some 31, some 32, some 33, some 34, some 35, some 36, some 37, some 38, some 39] [[], [0], [], [], [3], [2, 4], [1, 5], [6], [7, 5], [8, 8], [9], []] [5, 8, 9, 10] [.pointer (some ⟨w.heap.size, 6, none⟩), .slice (some ⟨eb, eoff, none⟩) hen hec, .agg #[.string d.title, .string d.lang, .int .u8 d.rate, .bool d.drop, .int .i64 d.last, .slice hra nr hrc, .slice (some ⟨eb, eoff, none⟩) hen hec, .slice (some ⟨cb, coff, none⟩) nc hcc], .pointer (some ⟨gC, 1, none⟩), .int .i64 c.ev, undef, .pointer (some ⟨eb, eoff + m * 7, none⟩), .agg #[.int .i64 x'.id, .int .i64 x'.inn, .int .i64 x'.out, .string x'.region, .int .u8 x'.kind, .string x'.speaker, .slice A' n' c'], undef, undef, undef, .int .i64 0] (QJ [fun u _ => u = Value.int .i64 (m : Int), fun u _ => u = .string T, fun u w => ∃ A c, u = .slice A (runes T 0).length c ∧ RunesAt w A (runes T 0).length (runes T 0) ∧ (runes T 0).length ≤ c, fun u _ => u = .int .i64 ((runes T 0).length : Int)] W1) (by kernel_rfl) (by kernel_rfl) (by kernel_rfl) (by kernel_rfl) (by kernel_rfl) (by kernel_rfl) (by kernel_rfl) (by decide) ?_ ?_ ?_ ?_
      · exact QJ.start _ W1
      · intro i o ho hc a w' us K' hJ hF hlim hk
        match i, ho with
        | 0, ho =>
          simp only [List.getElem?_toArray, List.getElem?_cons_zero, List.getElem?_cons_succ, Option.some.injEq] at ho
          subst ho
          have e2 := hF.old 2 (.pointer (some ⟨w.heap.size, 0, none⟩)) rfl rfl
          simp only [Act.eval] at e2
          clear hF hlim hJ
          go_simp
          exact hk
        | 1, ho =>
          simp only [List.getElem?_toArray, List.getElem?_cons_zero, List.getElem?_cons_succ, Option.some.injEq] at ho
          subst ho
          have e28 := hF.pure 0 28 (.pointer (some ⟨w.heap.size, 6, none⟩)) rfl rfl rfl rfl
          have hcl : w'.cell? ⟨w.heap.size, 6, none⟩ = some (.slice (some ⟨eb, eoff, none⟩) hen hec) := (HB_16.out.ext hJ.ext).cell 6
          simp only [Act.eval] at e28
          clear hF hlim hJ
          go_simp
          exact hk
        | 2, ho =>
          simp only [List.getElem?_toArray, List.getElem?_cons_zero, List.getElem?_cons_succ, Option.some.injEq] at ho
          subst ho
          have e2 := hF.old 2 (.pointer (some ⟨w.heap.size, 0, none⟩)) rfl rfl
          exact wp_loadBk 39 (.tmp 2) rfl _ 39 _ _ e2 (HB_16.out.ext hJ.ext) Tryd.underlying39 rfl (by exact size_docI) hk
        | 3, ho =>
          simp only [List.getElem?_toArray, List.getElem?_cons_zero, List.getElem?_cons_succ, Option.some.injEq] at ho
          subst ho
          have e8 := hF.old 8 (.pointer (some ⟨gC, 0, none⟩)) rfl rfl
          simp only [Act.eval] at e8
          clear hF hlim hJ
          go_simp
          exact hk
        | 4, ho =>
          simp only [List.getElem?_toArray, List.getElem?_cons_zero, List.getElem?_cons_succ, Option.some.injEq] at ho
          subst ho
          have e31 := hF.pure 3 31 (.pointer (some ⟨gC, 1, none⟩)) rfl rfl rfl rfl
          have hcl : w'.cell? ⟨gC, 1, none⟩ = some (.int .i64 c.ev) := (HB_13.out.ext hJ.ext).cell 1
          simp only [Act.eval] at e31
          clear hF hlim hJ
          go_simp
          exact hk
        | 5, ho => simp at hc
        | 6, ho =>
          simp only [List.getElem?_toArray, List.getElem?_cons_zero, List.getElem?_cons_succ, Option.some.injEq] at ho
          subst ho
          have e29 := hF.pure 1 29 (.slice (some ⟨eb, eoff, none⟩) hen hec) rfl rfl rfl rfl
          obtain ⟨v33, hv33⟩ := getElem_ltq (hF.did 0 5 rfl rfl)
          have e33 := hF.link 0 5 33 _ rfl rfl rfl hv33
          have hu0 : v33 = .int .i64 (m : Int) := hJ.val 0 v33 _ hv33 rfl
          rw [hu0] at e33
          exact wp_ix_ev rfl e29 e33 (by omega) hk
        | 7, ho =>
          simp only [List.getElem?_toArray, List.getElem?_cons_zero, List.getElem?_cons_succ, Option.some.injEq] at ho
          subst ho
          have e34 := hF.pure 6 34 (.pointer (some ⟨eb, eoff + m * 7, none⟩)) rfl rfl rfl rfl
          exact wp_load_ev rfl eb _ x' A' n' c' e34 (fun j u hu => hJ.ext.cell (HCx.out j u hu)) hk
        | 8, ho => simp at hc
        | 9, ho => simp at hc
        | 10, ho => simp at hc
        | 11, ho =>
          simp only [List.getElem?_toArray, List.getElem?_cons_zero, List.getElem?_cons_succ, Option.some.injEq] at ho
          subst ho
          clear hF hlim hJ
          go_simp
          exact hk
        | i + 12, ho => simp at ho
      · intro p c' o hp ho a w' us K' hl hJ hF hk
        match p, hp with
        | 0, hp =>
          obtain rfl : 5 = c' := by simpa using hp
          simp only [List.getElem?_toArray, List.getElem?_cons_zero, List.getElem?_cons_succ, Option.some.injEq] at ho
          subst ho
          obtain rfl : us = [] := List.eq_nil_of_length_eq_zero hl
          have e30 := hF.pure 2 30 (.agg #[.string d.title, .string d.lang, .int .u8 d.rate, .bool d.drop, .int .i64 d.last, .slice hra nr hrc, .slice (some ⟨eb, eoff, none⟩) hen hec, .slice (some ⟨cb, coff, none⟩) nc hcc]) rfl rfl rfl rfl
          have e32 := hF.pure 4 32 (.int .i64 c.ev) rfl rfl rfl rfl
          exact wp_call2 rfl e30 e32 Tryd.call23 (HFv.out w' (HX_15.out.trans hJ.ext)) (fun w2 hx2 => hk _ w2 (hJ.push hST hx2 (fun p hp => by cases hp; rfl)))
        | 1, hp =>
          obtain rfl : 8 = c' := by simpa using hp
          simp only [List.getElem?_toArray, List.getElem?_cons_zero, List.getElem?_cons_succ, Option.some.injEq] at ho
          subst ho
          obtain ⟨u0, rfl⟩ := list_1 hl
          have e35 := hF.pure 7 35 (.agg #[.int .i64 x'.id, .int .i64 x'.inn, .int .i64 x'.out, .string x'.region, .int .u8 x'.kind, .string x'.speaker, .slice A' n' c']) rfl rfl rfl rfl
          exact wp_call1s rfl e35 Tryd.call26 (HPl.out w' hJ.ext) (fun w2 hx2 => hk _ w2 (hJ.push hST hx2 (fun p hp => by cases hp; rfl)))
        | 2, hp =>
          obtain rfl : 9 = c' := by simpa using hp
          simp only [List.getElem?_toArray, List.getElem?_cons_zero, List.getElem?_cons_succ, Option.some.injEq] at ho
          subst ho
          obtain ⟨u0, u1, rfl⟩ := list_2 hl
          have e36 := hF.link 1 8 36 _ rfl rfl rfl rfl
          have hu1 : u1 = .string T := hJ.val 1 u1 _ rfl rfl
          rw [hu1] at e36
          refine wp_call1 rfl e36 Tryd.call29 (HRu.out w') ?_
          rintro en w2 ⟨A9, n9, c9, rfl, hat9, hc9, hx9⟩
          have hn9 : (runes T 0).length = n9 := hat9.len
          subst hn9
          exact ⟨_, rfl, hk _ w2 (hJ.push hST hx9 (fun p hp => by cases hp; exact ⟨A9, c9, rfl, hat9, hc9⟩))⟩
        | 3, hp =>
          obtain rfl : 10 = c' := by simpa using hp
          simp only [List.getElem?_toArray, List.getElem?_cons_zero, List.getElem?_cons_succ, Option.some.injEq] at ho
          subst ho
          obtain ⟨u0, u1, u2, rfl⟩ := list_3 hl
          have e37 := hF.link 2 9 37 _ rfl rfl rfl rfl
          obtain ⟨A9, c9, hu2, hat9, hc9⟩ : ∃ A c, u2 = .slice A (runes T 0).length c ∧ RunesAt w' A (runes T 0).length (runes T 0) ∧ (runes T 0).length ≤ c := hJ.val 2 u2 _ rfl rfl
          rw [hu2] at e37
          simp only [Act.eval] at e37
          have HK := Lib.hid (hk (.int .i64 ((runes T 0).length : Int)) w' (hJ.push hST (Ext.refl _) (fun p hp => by cases hp; rfl)))
          clear hk hF hJ hu2
          go_simp
          exact HK.out
        | p + 4, hp => simp at hp
      intro us w9 hl hJ
      obtain ⟨u0, u1, u2, u3, rfl⟩ := list_4 hl
      first | (rename_i hK; refine hK _ _ ?_; clear hK) | (rename_i hK hK_1; refine hK _ _ ?_; clear hK) | (rename_i hK hK_1 hK_2; refine hK _ _ ?_; clear hK) | (rename_i hK hK_1 hK_2 hK_3; refine hK _ _ ?_; clear hK)
      generalize hL : frameL _ _ _ _ = L
      obtain rfl : L = [(28, .pointer (some ⟨w.heap.size, 6, none⟩)), (29, .slice (some ⟨eb, eoff, none⟩) hen hec), (30, .agg #[.string d.title, .string d.lang, .int .u8 d.rate, .bool d.drop, .int .i64 d.last, .slice hra nr hrc, .slice (some ⟨eb, eoff, none⟩) hen hec, .slice (some ⟨cb, coff, none⟩) nc hcc]), (31, .pointer (some ⟨gC, 1, none⟩)), (32, .int .i64 c.ev), (33, u0), (34, .pointer (some ⟨eb, eoff + m * 7, none⟩)), (35, .agg #[.int .i64 x'.id, .int .i64 x'.inn, .int .i64 x'.out, .string x'.region, .int .u8 x'.kind, .string x'.speaker, .slice A' n' c']), (36, u1), (37, u2), (38, u3), (39, .int .i64 0)] := hL.symm.trans (by kernel_rfl)
      clear hL hl
      simp only [Act.put, List.foldl_cons, List.foldl_nil, List.setIfInBounds_toArray, List.set_cons_zero, List.set_cons_succ]
      obtain ⟨A9, c9, hu2, hat9, hc9⟩ : ∃ A c, u2 = .slice A (runes T 0).length c ∧ RunesAt w9 A (runes T 0).length (runes T 0) ∧ (runes T 0).length ≤ c := hJ.val 2 u2 _ rfl rfl
      have hu3 : u3 = .int .i64 ((runes T 0).length : Int) := hJ.val 3 u3 _ rfl rfl
      subst hu2 hu3
      have HX9 := Lib.hid (HX_15.out.trans hJ.ext)
      have HBc9 := Lib.hid (HB_13.out.ext hJ.ext)
      have HRt := Lib.hid hat9
      have HQt := Lib.hid (quoteT_size c.fr c.til (runes T 0))
      have hLs : (runes T 0).length ≤ 35184372088831 := by omega
      generalize hLn : runes T 0 = l at *
      obtain ⟨n, hn9⟩ : ∃ n, n = l.length := ⟨_, rfl⟩
      have HRt2 : Hid (RunesAt w9 A9 n l) := by show RunesAt _ _ _ _; rw [hn9]; exact HRt.out
      have hLs2 : n ≤ 35184372088831 := by omega
      have HLn := Lib.hid hn9
      rw [← hn9]
      clear HRt hLs hJ hat9 hLn hn9 hST HPl HRu HCx
      go_wp2_with fail
      go_loopw [9, 39] (fun v i wr => QtRel w9 c.fr c.til l n v i wr) (fun _ i _ => n - (intOf i).toNat)
      case atStart => exact ⟨0, Nat.zero_le _, rfl, rfl, Ext.refl _⟩
      case round =>
        obtain ⟨j, hj, rfl, rfl, hx⟩ := hrel
        have HXj := Lib.hid hx
        have HBj := Lib.hid (HBc9.out.ext hx)
        have hcj := fun o => HBj.out.cell o
        clear hx
        by_cases hlt : j < n
        · obtain ⟨b, off, y, rfl, hy, hcy⟩ := (HRt2.out.ext HXj.out).cell hlt
          have HT := Lib.hid (quoteT_take (fr := c.fr) (til := c.til) hy)
          have hsz := HQt.out j (by have := HLn.out; omega)
          have hes := enc_size y
          clear hy
          by_cases q1 : c.fr ≤ (j : Int)
          · by_cases q2 : (j : Int) < c.til
            · have HQ2 : Hid (quoteT c.fr c.til (l.take (j + 1)) = quoteT c.fr c.til (l.take j) ++ Utf8.encode y) := by show _ = _; rw [HT.out]; unfold qstep; rw [if_pos ⟨q1, q2⟩]
              generalize quoteT c.fr c.til (l.take j) = acc at *
              have hs9 : ¬ 9223372036854775807 < acc.size + (Utf8.encode y).size := by omega
              go_wp2_with fail
              exact ⟨⟨j + 1, by omega, by rw [HQ2.out], by go_num, HXj.out⟩, by simp [intOf]; omega⟩
            have HQ2 : Hid (quoteT c.fr c.til (l.take (j + 1)) = quoteT c.fr c.til (l.take j)) := by show _ = _; rw [HT.out]; unfold qstep; rw [if_neg (by simp only; omega)]
            go_wp2_with fail
            exact ⟨⟨j + 1, by omega, by rw [HQ2.out], by go_num, HXj.out⟩, by simp [intOf]; omega⟩
          have HQ2 : Hid (quoteT c.fr c.til (l.take (j + 1)) = quoteT c.fr c.til (l.take j)) := by show _ = _; rw [HT.out]; unfold qstep; rw [if_neg (by simp only; omega)]
          go_wp2_with fail
          exact ⟨⟨j + 1, by omega, by rw [HQ2.out], by go_num, HXj.out⟩, by simp [intOf]; omega⟩
        have hjn : j = n := by omega
        subst hjn
        have htk : Hid (l.take j = l) := List.take_of_length_le (by have := HLn.out; omega)
        go_wp2_with fail
        go_ret2
        exact ⟨by rw [HQ.out, htk.out]; rfl, HX9.out.trans HXj.out⟩
end Go.Proofs.YtagfedbdakmlgaaDoor
