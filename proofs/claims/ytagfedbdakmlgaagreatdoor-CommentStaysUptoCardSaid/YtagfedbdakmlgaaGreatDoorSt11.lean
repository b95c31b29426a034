/- Laid together: The walk of comment.Add. The walks of the reference's charset: Repertoire, Index, Valid. The walks of the reference's charset: runes, Len. Positions that move from one text to another, plainly. The walks of the other functions 'runes'. The characters on which a comment stands, plainly; calls in a drawn region, one after the other. -/
import Derived.Test.YtagfedbdakmlgaaGreatDoorSt10
import Derived.Test.YtagfedbdakmlgaaGreatDoorSt01
import Derived.Lib.ValidLaws
import Derived.Lib.TrimUEq
import Derived.Test.YtagfedbdakmlgaaGreatDoorSt03
import Derived.Test.YtagfedbdakmlgaaGreatDoorRows
import Derived.Test.YtagfedbdakmlgaaGreatDoorSt08
import Derived.Test.YtagfedbdakmlgaaGreatDoorSt05
import Derived.Test.YtagfedbdakmlgaaGreatDoorSt09

/-! AddD -/
namespace Go.Proofs.YtagfedbdakmlgaaGreatDoor
set_option linter.unusedVariables false
set_option linter.unusedSimpArgs false
open Go.RowKit
set_option maxRecDepth 100000 in
set_option maxHeartbeats 8000000 in
theorem DAdd_any (d : Doc) (h : DocH) (id fr til : Int) (au tx : ByteArray) (w : World) (hE : Env w) (hat : DocAt w d h) (hf : DocFit d) (hrn : h.rn ≤ 9223372036854775807) (hr : h.rn * 56 ≤ 140737488355328) (hn : h.en ≤ 1000000) (hcn : h.cn ≤ 1000000) (hau : au.size ≤ 9223372036854775807) (htx : tx.size ≤ 9223372036854775807) :
    Calls Tryz.prog 12 #[.agg (d.cells h), .int .i64 id, .int .i64 fr, .int .i64 til, .string au, .string tx] w (AddPost d id fr til au tx w) := by
  have HX : Hid (Ext w ((w.alloc (.cells (d.cells h) 27)).alloc (.cells docZero 27))) := ((Ext.refl w).alloc _).alloc _
  have HB : Hid (Blk ((w.alloc (.cells (d.cells h) 27)).alloc (.cells docZero 27)) w.heap.size 27 (d.cells h)) := (Blk.new w _ _).alloc _
  have HZ : Hid (Blk ((w.alloc (.cells (d.cells h) 27)).alloc (.cells docZero 27)) (w.heap.size + 1) 27 docZero) := Blk.new' (by simp)
  have HCk := Lib.hid (fun w' (hx : Ext w w') => DCheck_any d h w' (hE.ext hx) (hat.ext hx) hf hrn hn (by omega))
  have HFd := Lib.hid (fun w' (hx : Ext w w') => DFind_any d h id w' (hat.evs.ext hx) (by omega))
  have HCl := Lib.hid (fun w' (hx : Ext w w') => DClone_any d h w' (hat.ext hx) hr (by omega) (by omega))
  have HNm := Lib.hid (fun w' => Name_any au w' hau)
  have HVl := Lib.hid (fun w' (hx : Ext w w') => Valid_any tx w' (hE.ext hx) htx)
  have HEv := Lib.hid hat.evs
  have HE := Lib.hid hE
  have HSm := Lib.hid hf.evs
  have HEl := Lib.hid hat.evs.len
  have HCn := Lib.hid hat.coms.len
  have END : ∀ (w9 : World) (e : Int), Ext w w9 → Blk w9 (w.heap.size + 1) 27 docZero → d.addErr id fr til au tx = e → e ≠ 0 → ∀ (tmps : Array Value), tmps.getD 12 undef = .pointer (some ⟨w.heap.size + 1, 0, none⟩) → tmps.getD 13 undef = .int .i64 0 → tmps.getD 14 undef = .int .i64 e →
      (results Tryz.f12 tmps).run Tryz.prog (putB w9 (w.heap.size + 1) 27 docZero) = .ok (.tuple #[.agg docZero, .int .i64 0, .int .i64 e]) (putB w9 (w.heap.size + 1) 27 docZero) ∧
        AddPost d id fr til au tx w (.returned (.tuple #[.agg docZero, .int .i64 0, .int .i64 e])) (putB w9 (w.heap.size + 1) 27 docZero) := fun w9 e hx hz he h0 tmps h8 h9 h10 => by
    refine ⟨?_, addPost_err he h0 (hx.put (by omega) _ _)⟩
    have := results_B_tmp2 (P := Tryz.prog) Tryz.results12 (tmps := tmps) (w := putB w9 (w.heap.size + 1) 27 docZero) (g := w.heap.size + 1) h8 (hz.put _) Tryz.underlying27 rfl size_docI
    rw [this, h9, h10]
  have HEnd := Lib.hid END
  clear END hat hE hf hrn hr
  obtain ⟨hra, nr, hrc, hea, hen, hec, hca, nc, hcc⟩ := h
  unfold DClPost at HCl
  unfold Doc.cells docZero at *
  dsimp only at *
  go_enter Tryz.func12, Tryz.ntmps12
  go_wp2_with (refine wpList_loadB rfl 27 (.tmp 6) rfl w.heap.size 27 _ _ (by exact rfl) (by exact HB.out) Tryz.underlying27 rfl (by exact size_docI) ?_)
  refine (HCk.out _ HX.out).mono ?_
  rintro en w_1 ⟨rfl, hx_2⟩
  have HX_3 := Lib.hid (HX.out.trans hx_2)
  have HB_4 := Lib.hid (HB.out.ext hx_2)
  have HB_5 := Lib.hid (HZ.out.ext hx_2)
  clear hx_2 HX HB HZ
  by_cases h1 : d.err = 0
  case neg =>
    have hne : (d.err != 0) = true := by simpa using h1
    have HN1 := Lib.hid h1
    clear h1
    have HErr : Hid (d.addErr id fr til au tx = d.err) := add_1 HN1.out
    have hc_6 := fun o => HB_4.out.cell o
    go_wp2_with (refine wpList_storeB rfl 27 (.tmp 12) (.tmp 22) rfl (w.heap.size + 1) 27 _ _ (by exact rfl) (by exact rfl) (by exact HB_5.out) (by exact rfl) (by exact size_docI) (by simp [Value.oneCell']) ?_)
    clear hc_6
    refine bodyPost_ret (v := .tuple #[.agg #[.string ⟨#[]⟩, .string ⟨#[]⟩, .int .u8 0, .bool false, .int .i64 0, .slice none 0 0, .slice none 0 0, .slice none 0 0], .int .i64 0, .int .i64 (d.err)]) ?_ rfl ?_
    · exact (HEnd.out _ _ HX_3.out HB_5.out HErr.out (HN1.out) _ rfl rfl rfl).1
    · exact (HEnd.out _ _ HX_3.out HB_5.out HErr.out (HN1.out) #[undef, undef, undef, undef, undef, undef, undef, undef, undef, undef, undef, undef, .pointer (some ⟨w.heap.size + 1, 0, none⟩), .int .i64 0, .int .i64 (d.err)] rfl rfl rfl).2
  have H1 := Lib.hid h1
  have HB0 := Lib.hid (head_ok' (doc_ok h1).1)
  have hl0 := HB0.out.2.2.2.2.1
  have hl1 := HB0.out.2.2.2.2.2
  rw [h1]
  clear h1
  go_wp2_with (refine wpList_loadB rfl 27 (.tmp 6) rfl w.heap.size 27 _ _ (by exact rfl) (by exact HB_4.out) Tryz.underlying27 rfl (by exact size_docI) ?_)
  refine (HFd.out _ HX_3.out).mono ?_
  rintro en w_7 ⟨rfl, hx_8⟩
  have HX_9 := Lib.hid (HX_3.out.trans hx_8)
  have HB_10 := Lib.hid (HB_4.out.ext hx_8)
  have HB_11 := Lib.hid (HB_5.out.ext hx_8)
  clear hx_8 HX_3 HB_4 HB_5
  cases hfe : findE d.evs id with
  | none =>
    have hfi : findI d.evs id = -1 := by unfold findI; rw [hfe]
    have HN1 := Lib.hid hfe
    rw [hfi]
    clear hfe hfi
    have HErr : Hid (d.addErr id fr til au tx = 6) := add_2 H1.out HN1.out
    have hc_12 := fun o => HB_10.out.cell o
    go_wp2_with (refine wpList_storeB rfl 27 (.tmp 12) (.tmp 76) rfl (w.heap.size + 1) 27 _ _ (by exact rfl) (by exact rfl) (by exact HB_11.out) (by exact rfl) (by exact size_docI) (by simp [Value.oneCell']) ?_)
    clear hc_12
    refine bodyPost_ret (v := .tuple #[.agg #[.string ⟨#[]⟩, .string ⟨#[]⟩, .int .u8 0, .bool false, .int .i64 0, .slice none 0 0, .slice none 0 0, .slice none 0 0], .int .i64 0, .int .i64 (6)]) ?_ rfl ?_
    · exact (HEnd.out _ _ HX_9.out HB_11.out HErr.out (by decide) _ rfl rfl rfl).1
    · exact (HEnd.out _ _ HX_9.out HB_11.out HErr.out (by decide) #[undef, undef, undef, undef, undef, undef, undef, undef, undef, undef, undef, undef, .pointer (some ⟨w.heap.size + 1, 0, none⟩), .int .i64 0, .int .i64 (6)] rfl rfl rfl).2
  | some k =>
    have hfi : findI d.evs id = (k : Int) := by unfold findI; rw [hfe]
    have hkn : k < hen := by have := (List.findIdx?_eq_some_iff_getElem.1 hfe).1; have := HEl.out; omega
    obtain ⟨eb, eoff, x, A', n', c', rfl, hxe, hxat, e0, e1, e2, e3, e4, e5, e6⟩ := (HEv.out.ext HX_9.out).at_ev hkn
    have HR := Lib.hid (fun fr til au tx => add_r (fr := fr) (til := til) (au := au) (tx := tx) H1.out hfe hxe)
    have hsx := HSm.out x (List.mem_of_getElem? hxe)
    have HLx := Lib.hid (fun w' (hx : Ext w_7 w') => ELen_any x A' n' c' w' (HE.out.ext (HX_9.out.trans hx)) (hxat.ext hx) hsx.1.2.2 hsx.2)
    rw [hfi]
    unfold Ev.cells at HLx
    clear hfe hfi hxe hxat hsx
    by_cases g1 : fr < 0
    · have HErr : Hid (d.addErr id fr til au tx = 2) := by show _ = _; rw [HR.out, if_pos (.inl g1)]
      have hc_13 := fun o => HB_10.out.cell o
      go_wp2_with (refine wpList_storeB rfl 27 (.tmp 12) (.tmp 76) rfl (w.heap.size + 1) 27 _ _ (by exact rfl) (by exact rfl) (by exact HB_11.out) (by exact rfl) (by exact size_docI) (by simp [Value.oneCell']) ?_)
      clear hc_13
      refine bodyPost_ret (v := .tuple #[.agg #[.string ⟨#[]⟩, .string ⟨#[]⟩, .int .u8 0, .bool false, .int .i64 0, .slice none 0 0, .slice none 0 0, .slice none 0 0], .int .i64 0, .int .i64 (2)]) ?_ rfl ?_
      · exact (HEnd.out _ _ HX_9.out HB_11.out HErr.out (by decide) _ rfl rfl rfl).1
      · exact (HEnd.out _ _ HX_9.out HB_11.out HErr.out (by decide) #[undef, undef, undef, undef, undef, undef, undef, undef, undef, undef, undef, undef, .pointer (some ⟨w.heap.size + 1, 0, none⟩), .int .i64 0, .int .i64 (2)] rfl rfl rfl).2
    by_cases g2 : til ≤ fr
    · have HErr : Hid (d.addErr id fr til au tx = 2) := by show _ = _; rw [HR.out, if_pos (.inr (.inl g2))]
      have hc_14 := fun o => HB_10.out.cell o
      go_wp2_with (refine wpList_storeB rfl 27 (.tmp 12) (.tmp 76) rfl (w.heap.size + 1) 27 _ _ (by exact rfl) (by exact rfl) (by exact HB_11.out) (by exact rfl) (by exact size_docI) (by simp [Value.oneCell']) ?_)
      clear hc_14
      refine bodyPost_ret (v := .tuple #[.agg #[.string ⟨#[]⟩, .string ⟨#[]⟩, .int .u8 0, .bool false, .int .i64 0, .slice none 0 0, .slice none 0 0, .slice none 0 0], .int .i64 0, .int .i64 (2)]) ?_ rfl ?_
      · exact (HEnd.out _ _ HX_9.out HB_11.out HErr.out (by decide) _ rfl rfl rfl).1
      · exact (HEnd.out _ _ HX_9.out HB_11.out HErr.out (by decide) #[undef, undef, undef, undef, undef, undef, undef, undef, undef, undef, undef, undef, .pointer (some ⟨w.heap.size + 1, 0, none⟩), .int .i64 0, .int .i64 (2)] rfl rfl rfl).2
    have hc_15 := fun o => HB_10.out.cell o
    go_wp2_with fail
    clear hc_15
    refine (HLx.out _ (Ext.refl _)).mono ?_
    rintro en w_16 ⟨rfl, hx_17⟩
    have HX_18 := Lib.hid (HX_9.out.trans hx_17)
    have HB_19 := Lib.hid (HB_10.out.ext hx_17)
    have HB_20 := Lib.hid (HB_11.out.ext hx_17)
    clear hx_17 HX_9 HB_10 HB_11
    clear e0 e1 e2 e3 e4 e5 e6
    by_cases g3 : x.len < til
    · have HErr : Hid (d.addErr id fr til au tx = 2) := by show _ = _; rw [HR.out, if_pos (.inr (.inr g3))]
      have hc_21 := fun o => HB_19.out.cell o
      go_wp2_with (refine wpList_storeB rfl 27 (.tmp 12) (.tmp 76) rfl (w.heap.size + 1) 27 _ _ (by exact rfl) (by exact rfl) (by exact HB_20.out) (by exact rfl) (by exact size_docI) (by simp [Value.oneCell']) ?_)
      clear hc_21
      refine bodyPost_ret (v := .tuple #[.agg #[.string ⟨#[]⟩, .string ⟨#[]⟩, .int .u8 0, .bool false, .int .i64 0, .slice none 0 0, .slice none 0 0, .slice none 0 0], .int .i64 0, .int .i64 (2)]) ?_ rfl ?_
      · exact (HEnd.out _ _ HX_18.out HB_20.out HErr.out (by decide) _ rfl rfl rfl).1
      · exact (HEnd.out _ _ HX_18.out HB_20.out HErr.out (by decide) #[undef, undef, undef, undef, undef, undef, undef, undef, undef, undef, undef, undef, .pointer (some ⟨w.heap.size + 1, 0, none⟩), .int .i64 0, .int .i64 (2)] rfl rfl rfl).2
    have HA : Hid (¬ (fr < 0 ∨ til ≤ fr ∨ x.len < til)) := by show ¬ _; omega
    go_wp2_with fail
    clear g1 g2 g3
    refine (HNm.out _).mono ?_
    rintro en w_22 ⟨rfl, rfl⟩
    cases hnm : nameB au
    · have HN1 := Lib.hid hnm
      clear hnm
      have HErr : Hid (d.addErr id fr til au tx = 5) := by show _ = _; rw [HR.out, if_neg HA.out, if_pos HN1.out]
      have hc_23 := fun o => HB_19.out.cell o
      go_wp2_with (refine wpList_storeB rfl 27 (.tmp 12) (.tmp 76) rfl (w.heap.size + 1) 27 _ _ (by exact rfl) (by exact rfl) (by exact HB_20.out) (by exact rfl) (by exact size_docI) (by simp [Value.oneCell']) ?_)
      clear hc_23
      refine bodyPost_ret (v := .tuple #[.agg #[.string ⟨#[]⟩, .string ⟨#[]⟩, .int .u8 0, .bool false, .int .i64 0, .slice none 0 0, .slice none 0 0, .slice none 0 0], .int .i64 0, .int .i64 (5)]) ?_ rfl ?_
      · exact (HEnd.out _ _ HX_18.out HB_20.out HErr.out (by decide) _ rfl rfl rfl).1
      · exact (HEnd.out _ _ HX_18.out HB_20.out HErr.out (by decide) #[undef, undef, undef, undef, undef, undef, undef, undef, undef, undef, undef, undef, .pointer (some ⟨w.heap.size + 1, 0, none⟩), .int .i64 0, .int .i64 (5)] rfl rfl rfl).2
    have HA1 := Lib.hid hnm
    clear hnm
    go_wp2_with fail
    refine (HVl.out _ HX_18.out).mono ?_
    rintro en w_24 ⟨rfl, hx_25⟩
    have HX_26 := Lib.hid (HX_18.out.trans hx_25)
    have HB_27 := Lib.hid (HB_19.out.ext hx_25)
    have HB_28 := Lib.hid (HB_20.out.ext hx_25)
    clear hx_25 HX_18 HB_19 HB_20
    cases hvl : vld tx
    · have HN1 := Lib.hid hvl
      clear hvl
      have HErr : Hid (d.addErr id fr til au tx = 10) := by show _ = _; rw [HR.out, if_neg HA.out, if_neg (by rw [HA1.out]; decide), if_pos HN1.out]
      have hc_29 := fun o => HB_27.out.cell o
      go_wp2_with (refine wpList_storeB rfl 27 (.tmp 12) (.tmp 76) rfl (w.heap.size + 1) 27 _ _ (by exact rfl) (by exact rfl) (by exact HB_28.out) (by exact rfl) (by exact size_docI) (by simp [Value.oneCell']) ?_)
      clear hc_29
      refine bodyPost_ret (v := .tuple #[.agg #[.string ⟨#[]⟩, .string ⟨#[]⟩, .int .u8 0, .bool false, .int .i64 0, .slice none 0 0, .slice none 0 0, .slice none 0 0], .int .i64 0, .int .i64 (10)]) ?_ rfl ?_
      · exact (HEnd.out _ _ HX_26.out HB_28.out HErr.out (by decide) _ rfl rfl rfl).1
      · exact (HEnd.out _ _ HX_26.out HB_28.out HErr.out (by decide) #[undef, undef, undef, undef, undef, undef, undef, undef, undef, undef, undef, undef, .pointer (some ⟨w.heap.size + 1, 0, none⟩), .int .i64 0, .int .i64 (10)] rfl rfl rfl).2
    have HA2 := Lib.hid hvl
    clear hvl
    cases het : tx.toList.isEmpty
    case true =>
      have HErr : Hid (d.addErr id fr til au tx = 4) := by show _ = _; rw [HR.out, if_neg HA.out, if_neg (by rw [HA1.out]; decide), if_neg (by rw [HA2.out]; decide), if_pos het]
      have hc_30 := fun o => HB_27.out.cell o
      go_wp2_with (refine wpList_storeB rfl 27 (.tmp 12) (.tmp 76) rfl (w.heap.size + 1) 27 _ _ (by exact rfl) (by exact rfl) (by exact HB_28.out) (by exact rfl) (by exact size_docI) (by simp [Value.oneCell']) ?_)
      clear hc_30
      refine bodyPost_ret (v := .tuple #[.agg #[.string ⟨#[]⟩, .string ⟨#[]⟩, .int .u8 0, .bool false, .int .i64 0, .slice none 0 0, .slice none 0 0, .slice none 0 0], .int .i64 0, .int .i64 (4)]) ?_ rfl ?_
      · exact (HEnd.out _ _ HX_26.out HB_28.out HErr.out (by decide) _ rfl rfl rfl).1
      · exact (HEnd.out _ _ HX_26.out HB_28.out HErr.out (by decide) #[undef, undef, undef, undef, undef, undef, undef, undef, undef, undef, undef, undef, .pointer (some ⟨w.heap.size + 1, 0, none⟩), .int .i64 0, .int .i64 (4)] rfl rfl rfl).2
    by_cases q1 : 400 < tx.size
    · have q1i : (400 : Int) < (tx.size : Int) := by omega
      have HErr : Hid (d.addErr id fr til au tx = 9) := by show _ = _; rw [HR.out, if_neg HA.out, if_neg (by rw [HA1.out]; decide), if_neg (by rw [HA2.out]; decide), if_neg (by rw [het]; decide), if_pos (by rw [HCn.out]; omega)]
      have hc_31 := fun o => HB_27.out.cell o
      go_wp2_with (refine wpList_storeB rfl 27 (.tmp 12) (.tmp 76) rfl (w.heap.size + 1) 27 _ _ (by exact rfl) (by exact rfl) (by exact HB_28.out) (by exact rfl) (by exact size_docI) (by simp [Value.oneCell']) ?_)
      clear hc_31
      refine bodyPost_ret (v := .tuple #[.agg #[.string ⟨#[]⟩, .string ⟨#[]⟩, .int .u8 0, .bool false, .int .i64 0, .slice none 0 0, .slice none 0 0, .slice none 0 0], .int .i64 0, .int .i64 (9)]) ?_ rfl ?_
      · exact (HEnd.out _ _ HX_26.out HB_28.out HErr.out (by decide) _ rfl rfl rfl).1
      · exact (HEnd.out _ _ HX_26.out HB_28.out HErr.out (by decide) #[undef, undef, undef, undef, undef, undef, undef, undef, undef, undef, undef, undef, .pointer (some ⟨w.heap.size + 1, 0, none⟩), .int .i64 0, .int .i64 (9)] rfl rfl rfl).2
    have q1i : ¬ (400 : Int) < (tx.size : Int) := by omega
    by_cases q2 : 64 ≤ nc
    · have q2i : (64 : Int) ≤ (nc : Int) := by omega
      have HErr : Hid (d.addErr id fr til au tx = 9) := by show _ = _; rw [HR.out, if_neg HA.out, if_neg (by rw [HA1.out]; decide), if_neg (by rw [HA2.out]; decide), if_neg (by rw [het]; decide), if_pos (by rw [HCn.out]; omega)]
      have hc_32 := fun o => HB_27.out.cell o
      go_wp2_with (refine wpList_storeB rfl 27 (.tmp 12) (.tmp 76) rfl (w.heap.size + 1) 27 _ _ (by exact rfl) (by exact rfl) (by exact HB_28.out) (by exact rfl) (by exact size_docI) (by simp [Value.oneCell']) ?_)
      clear hc_32
      refine bodyPost_ret (v := .tuple #[.agg #[.string ⟨#[]⟩, .string ⟨#[]⟩, .int .u8 0, .bool false, .int .i64 0, .slice none 0 0, .slice none 0 0, .slice none 0 0], .int .i64 0, .int .i64 (9)]) ?_ rfl ?_
      · exact (HEnd.out _ _ HX_26.out HB_28.out HErr.out (by decide) _ rfl rfl rfl).1
      · exact (HEnd.out _ _ HX_26.out HB_28.out HErr.out (by decide) #[undef, undef, undef, undef, undef, undef, undef, undef, undef, undef, undef, undef, .pointer (some ⟨w.heap.size + 1, 0, none⟩), .int .i64 0, .int .i64 (9)] rfl rfl rfl).2
    have q2i : ¬ (64 : Int) ≤ (nc : Int) := by omega
    by_cases q3 : 1099511627776 ≤ d.last
    · have HErr : Hid (d.addErr id fr til au tx = 9) := by show _ = _; rw [HR.out, if_neg HA.out, if_neg (by rw [HA1.out]; decide), if_neg (by rw [HA2.out]; decide), if_neg (by rw [het]; decide), if_pos (by rw [HCn.out]; omega)]
      have hc_33 := fun o => HB_27.out.cell o
      go_wp2_with (refine wpList_storeB rfl 27 (.tmp 12) (.tmp 76) rfl (w.heap.size + 1) 27 _ _ (by exact rfl) (by exact rfl) (by exact HB_28.out) (by exact rfl) (by exact size_docI) (by simp [Value.oneCell']) ?_)
      clear hc_33
      refine bodyPost_ret (v := .tuple #[.agg #[.string ⟨#[]⟩, .string ⟨#[]⟩, .int .u8 0, .bool false, .int .i64 0, .slice none 0 0, .slice none 0 0, .slice none 0 0], .int .i64 0, .int .i64 (9)]) ?_ rfl ?_
      · exact (HEnd.out _ _ HX_26.out HB_28.out HErr.out (by decide) _ rfl rfl rfl).1
      · exact (HEnd.out _ _ HX_26.out HB_28.out HErr.out (by decide) #[undef, undef, undef, undef, undef, undef, undef, undef, undef, undef, undef, undef, .pointer (some ⟨w.heap.size + 1, 0, none⟩), .int .i64 0, .int .i64 (9)] rfl rfl rfl).2
    have HOk : Hid (d.addErr id fr til au tx = 0) := by show _ = _; rw [HR.out, if_neg HA.out, if_neg (by rw [HA1.out]; decide), if_neg (by rw [HA2.out]; decide), if_neg (by rw [het]; decide), if_neg (by rw [HCn.out]; omega)]
    clear HR HLx
    have hc_34 := fun o => HB_27.out.cell o
    go_wp2_with (refine wpList_loadB rfl 27 (.tmp 6) rfl w.heap.size 27 _ _ (by exact rfl) (by exact HB_27.out) Tryz.underlying27 rfl (by exact size_docI) ?_)
    clear hc_34
    refine (HCl.out _ HX_26.out).mono ?_
    rintro en w_35 ⟨⟨ra, rn, rc, ea, en', ec, ca, cn, cc⟩, rfl, ho5, hx_36⟩
    dsimp only
    have hszw := HX_26.out.size
    have HO5 := Lib.hid (ho5.le hszw)
    have hcn9 : cn < 64 := by
      have h1 := ho5.clen
      have h2 := HCn.out
      dsimp only at h1
      omega
    clear ho5 q1 q2
    have HX_37 := Lib.hid (HX_26.out.trans hx_36)
    have HB_38 := Lib.hid (HB_27.out.ext hx_36)
    have HB_39 := Lib.hid (HB_28.out.ext hx_36)
    clear hx_36 HX_26 HB_27 HB_28
    go_upto_region 21 with (refine wpList_storeB rfl 27 (.tmp 6) (.tmp 79) rfl w.heap.size 27 _ _ (by exact rfl) (by exact rfl) (by exact HB_38.out) (by exact rfl) (by exact size_docI) (by simp [Value.oneCell']) ?_)
    obtain ⟨W6, hW6⟩ : ∃ W6, W6 = putB w_35 w.heap.size 27 #[.string d.title, .string d.lang, .int .u8 d.rate, .bool d.drop, .int .i64 d.last, .slice ra rn rc, .slice ea en' ec, .slice ca cn cc] := ⟨_, rfl⟩
    rw [← hW6]
    have HB6 : Hid (Blk W6 w.heap.size 27 #[.string d.title, .string d.lang, .int .u8 d.rate, .bool d.drop, .int .i64 d.last, .slice ra rn rc, .slice ea en' ec, .slice ca cn cc]) := by show Blk _ _ _ _; rw [hW6]; exact HB_38.out.put _
    have HZ6 : Hid (Blk W6 (w.heap.size + 1) 27 #[.string ⟨#[]⟩, .string ⟨#[]⟩, .int .u8 0, .bool false, .int .i64 0, .slice none 0 0, .slice none 0 0, .slice none 0 0]) := by show Blk _ _ _ _; rw [hW6]; exact HB_39.out.put_other (by omega) _
    have HX6 : Hid (Ext w W6) := by show Ext _ _; rw [hW6]; exact HX_37.out.put (Nat.le_refl _) _ _
    have HO6 : Hid (DocOwn W6 w.heap.size d ⟨ra, rn, rc, ea, en', ec, ca, cn, cc⟩) := by show DocOwn _ _ _ _; rw [hW6]; exact (HO5.out.ext (Ext.refl _)).put HB_38.out _
    have hgne : w.heap.size ≠ w.heap.size + 1 := by omega
    have hgle : w.heap.size ≤ w.heap.size := Nat.le_refl _
    clear hW6 HO5
    clear HB_38 HB_39 HX_37
    have hs6 := fun u => setCell_put HB6.out 4 u
    have hc6 := HB6.out.cell 4
    have hf6 := HB6.out.frozen 4
    simp at hs6 hc6
    go_upto_region 22 with (fail)
    clear hs6 hc6 hf6
    obtain ⟨W7, hW7⟩ : ∃ W7, W7 = putB W6 w.heap.size 27 #[.string d.title, .string d.lang, .int .u8 d.rate, .bool d.drop, .int .i64 (d.last + 1), .slice ra rn rc, .slice ea en' ec, .slice ca cn cc] := ⟨_, rfl⟩
    rw [← hW7]
    have HB7 : Hid (Blk W7 w.heap.size 27 #[.string d.title, .string d.lang, .int .u8 d.rate, .bool d.drop, .int .i64 (d.last + 1), .slice ra rn rc, .slice ea en' ec, .slice ca cn cc]) := by show Blk _ _ _ _; rw [hW7]; exact HB6.out.put _
    have HZ7 : Hid (Blk W7 (w.heap.size + 1) 27 #[.string ⟨#[]⟩, .string ⟨#[]⟩, .int .u8 0, .bool false, .int .i64 0, .slice none 0 0, .slice none 0 0, .slice none 0 0]) := by show Blk _ _ _ _; rw [hW7]; exact HZ6.out.put_other (by omega) _
    have HX7 : Hid (Ext w W7) := by show Ext _ _; rw [hW7]; exact HX6.out.put hgle _ _
    have HO7 : Hid (DocOwn W7 w.heap.size d ⟨ra, rn, rc, ea, en', ec, ca, cn, cc⟩) := by show DocOwn _ _ _ _; rw [hW7]; exact HO6.out.put HB6.out _
    have hsz7 := HX7.out.size
    clear hW7 HB6 HZ6 HX6 HO6
    have hc7 := fun o => HB7.out.cell o
    have hown0 := HO7.out.coms
    dsimp only at hown0
    go_upto_region 23 with (at_builtin; refine wpList_append1 rfl (.tmp 85) (.tmp 94) 25 rfl info_comI Tryz.underlying25 rfl (by decide) (hown0.alloc _) (by exact rfl) W7.heap.size _ (by exact rfl) (by exact Blk.new' (by simp)) (by exact rfl) (by simp [Value.oneCell']) (by omega) (by simp [maxLen]; omega) (by simp; omega) ?_; intro v8 w8 hown hgr; have hty := own_typed (hown0.alloc (.cells #[.int .i64 (d.last + 1), .int .i64 id, .int .i64 fr, .int .i64 til, .string au, .string tx, .bool false, .bool false] 78)); have hlt := own_lt (hown0.alloc (.cells #[.int .i64 (d.last + 1), .int .i64 id, .int .i64 fr, .int .i64 til, .string au, .string tx, .bool false, .bool false] 78)); have HB8 := Lib.hid ((HB7.out.alloc (.cells #[.int .i64 (d.last + 1), .int .i64 id, .int .i64 fr, .int .i64 til, .string au, .string tx, .bool false, .bool false] 78)).kb (KB.grown hgr hty (by decide))); have HZ8 := Lib.hid ((HZ7.out.alloc (.cells #[.int .i64 (d.last + 1), .int .i64 id, .int .i64 fr, .int .i64 til, .string au, .string tx, .bool false, .bool false] 78)).kb (KB.grown hgr hty (by decide))); have HX8 := Lib.hid ((HX7.out.alloc (.cells #[.int .i64 (d.last + 1), .int .i64 id, .int .i64 fr, .int .i64 til, .string au, .string tx, .bool false, .bool false] 78)).grown hgr hlt); have HO8 := Lib.hid hown; have HR8 := Lib.hid (own_kb (own_ext HO7.out.regs ((Ext.refl W7).alloc (.cells #[.int .i64 (d.last + 1), .int .i64 id, .int .i64 fr, .int .i64 til, .string au, .string tx, .bool false, .bool false] 78))) (KB.grown hgr hty (by decide))); have HE8 := Lib.hid ((HO7.out.evs.ext ((Ext.refl W7).alloc (.cells #[.int .i64 (d.last + 1), .int .i64 id, .int .i64 fr, .int .i64 til, .string au, .string tx, .bool false, .bool false] 78))).kb (KB.grown hgr hty (by decide)) (KB.grown hgr hty (by decide)) (KB.grown hgr hty (by decide))); obtain ⟨A8, c8, rfl⟩ := own_isSlice hown; have hs8 := fun u => setCell_put HB8.out 7 u; have hc8 := HB8.out.cell 7; have hf8 := HB8.out.frozen 7; simp at hs8 hc8; clear hown hgr hty hlt)
    clear hs8 hc8 hf8 hc7 hown0
    obtain ⟨W9, hW9⟩ : ∃ W9, W9 = putB w8 w.heap.size 27 #[.string d.title, .string d.lang, .int .u8 d.rate, .bool d.drop, .int .i64 (d.last + 1), .slice ra rn rc, .slice ea en' ec, .slice A8 (cn + 1) c8] := ⟨_, rfl⟩
    rw [← hW9]
    have HB9 : Hid (Blk W9 w.heap.size 27 #[.string d.title, .string d.lang, .int .u8 d.rate, .bool d.drop, .int .i64 (d.last + 1), .slice ra rn rc, .slice ea en' ec, .slice A8 (cn + 1) c8]) := by show Blk _ _ _ _; rw [hW9]; exact HB8.out.put _
    have HZ9 : Hid (Blk W9 (w.heap.size + 1) 27 #[.string ⟨#[]⟩, .string ⟨#[]⟩, .int .u8 0, .bool false, .int .i64 0, .slice none 0 0, .slice none 0 0, .slice none 0 0]) := by show Blk _ _ _ _; rw [hW9]; exact HZ8.out.put_other (by omega) _
    have HX9 : Hid (Ext w W9) := by show Ext _ _; rw [hW9]; exact HX8.out.put hgle _ _
    have HO9 : Hid (DocOwn W9 w.heap.size (d.addD id fr til au tx) ⟨ra, rn, rc, ea, en', ec, A8, cn + 1, c8⟩) := by
      show DocOwn _ _ _ _
      rw [hW9]
      refine DocOwn.mk (own_kb HR8.out (KB.put HB8.out (by decide))) HO7.out.rlen (HE8.out.kb (KB.put HB8.out (by decide)) (KB.put HB8.out (by decide)) (KB.put HB8.out (by decide))) ?_ ?_
      · have := own_kb HO8.out (KB.put HB8.out (cs' := #[.string d.title, .string d.lang, .int .u8 d.rate, .bool d.drop, .int .i64 (d.last + 1), .slice ra rn rc, .slice ea en' ec, .slice A8 (cn + 1) c8]) (by decide))
        show World.ownsRow _ _ _ _ _ _ ((d.coms ++ [_]).flatMap Com.vals)
        rw [List.flatMap_append]
        simpa [Com.vals] using this
      · show (d.coms ++ [_]).length = cn + 1
        have := HO7.out.clen
        dsimp only at this
        simp; omega
    clear hW9 HB7 HZ7 HX7 HO7 HB8 HZ8 HX8 HO8 HR8 HE8
    refine wp_region_links [some 97, some 98, some 99, none, some 13, some 14] [[], [], [1], [0, 0], [2, 3, 0, 1, 2, 3], [4, 0, 1, 2, 3, 4]] [3] [.agg #[.string d.title, .string d.lang, .int .u8 d.rate, .bool d.drop, .int .i64 (d.last + 1), .slice ra rn rc, .slice ea en' ec, .slice A8 (cn + 1) c8], .pointer (some ⟨w.heap.size, 4, none⟩), .int .i64 (d.last + 1), undef, .int .i64 (d.last + 1), .int .i64 0] (RdJ (w.heap.size + 1) #[.string d.title, .string d.lang, .int .u8 d.rate, .bool d.drop, .int .i64 (d.last + 1), .slice ra rn rc, .slice ea en' ec, .slice A8 (cn + 1) c8] W9) (by kernel_rfl) (by kernel_rfl) (by kernel_rfl) (by kernel_rfl) (by kernel_rfl) (by kernel_rfl) (by kernel_rfl) (by decide) ?_ ?_ ?_ ?_
    · exact RdJ.start _ _ W9
    · intro i o ho hc a w' us K' hJ hF hlim hk
      match i, ho with
      | 0, ho =>
        simp only [List.getElem?_toArray, List.getElem?_cons_zero, List.getElem?_cons_succ, Option.some.injEq] at ho
        subst ho
        have e6 := hF.old 6 (.pointer (some ⟨w.heap.size, 0, none⟩)) rfl rfl
        exact wp_loadBk 27 (.tmp 6) rfl _ 27 _ _ e6 (hJ.blk HB9.out hgne) Tryz.underlying27 rfl (by exact size_docI) hk
      | 1, ho =>
        simp only [List.getElem?_toArray, List.getElem?_cons_zero, List.getElem?_cons_succ, Option.some.injEq] at ho
        subst ho
        have e6 := hF.old 6 (.pointer (some ⟨w.heap.size, 0, none⟩)) rfl rfl
        simp only [Act.eval] at e6
        clear hF hlim hJ
        go_simp
        exact hk
      | 2, ho =>
        simp only [List.getElem?_toArray, List.getElem?_cons_zero, List.getElem?_cons_succ, Option.some.injEq] at ho
        subst ho
        have e98 := hF.pure 1 98 (.pointer (some ⟨w.heap.size, 4, none⟩)) rfl rfl rfl rfl
        have hcl : w'.cell? ⟨w.heap.size, 4, none⟩ = some (.int .i64 (d.last + 1)) := (hJ.blk HB9.out hgne).cell 4
        simp only [Act.eval] at e98
        clear hF hlim hJ
        go_simp
        exact hk
      | 3, ho => simp at hc
      | 4, ho =>
        simp only [List.getElem?_toArray, List.getElem?_cons_zero, List.getElem?_cons_succ, Option.some.injEq] at ho
        subst ho
        have e99 := hF.pure 2 99 (.int .i64 (d.last + 1)) rfl rfl rfl rfl
        simp only [Act.eval] at e99
        clear hF hlim hJ
        go_simp
        exact hk
      | 5, ho =>
        simp only [List.getElem?_toArray, List.getElem?_cons_zero, List.getElem?_cons_succ, Option.some.injEq] at ho
        subst ho
        clear hF hlim hJ
        go_simp
        exact hk
      | i + 6, ho => simp at ho
    · intro p c' o hp ho a w' us K' hl hJ hF hk
      match p, hp with
      | 0, hp =>
        obtain rfl : 3 = c' := by simpa using hp
        simp only [List.getElem?_toArray, List.getElem?_cons_zero, List.getElem?_cons_succ, Option.some.injEq] at ho
        subst ho
        obtain rfl : us = [] := List.eq_nil_of_length_eq_zero hl
        have e12 := hF.old 12 (.pointer (some ⟨w.heap.size + 1, 0, none⟩)) rfl rfl
        have e97 := hF.pure 0 97 (.agg #[.string d.title, .string d.lang, .int .u8 d.rate, .bool d.drop, .int .i64 (d.last + 1), .slice ra rn rc, .slice ea en' ec, .slice A8 (cn + 1) c8]) rfl rfl rfl rfl
        exact wp_storeB 27 (.tmp 12) (.tmp 97) rfl (w.heap.size + 1) 27 _ _ e12 e97 (by exact size_docI) (by simp [Value.oneCell']) (hJ.blk_nil HZ9.out) rfl (hk undef _ hJ.store)
      | p + 1, hp => simp at hp
    intro us w10 hl hJ
    obtain ⟨u0, rfl⟩ := list_1 hl
    first | (rename_i hK; refine hK _ _ ?_; clear hK) | (rename_i hK hK_1; refine hK _ _ ?_; clear hK) | (rename_i hK hK_1 hK_2; refine hK _ _ ?_; clear hK) | (rename_i hK hK_1 hK_2 hK_3; refine hK _ _ ?_; clear hK)
    generalize hL : frameL _ _ _ _ = L
    obtain rfl : L = [(97, .agg #[.string d.title, .string d.lang, .int .u8 d.rate, .bool d.drop, .int .i64 (d.last + 1), .slice ra rn rc, .slice ea en' ec, .slice A8 (cn + 1) c8]), (98, .pointer (some ⟨w.heap.size, 4, none⟩)), (99, .int .i64 (d.last + 1)), (13, .int .i64 (d.last + 1)), (14, .int .i64 0)] := hL.symm.trans (by kernel_rfl)
    clear hL hl
    simp only [Act.put, List.foldl_cons, List.foldl_nil, List.setIfInBounds_toArray, List.set_cons_zero, List.set_cons_succ]
    obtain ⟨w11, hx11, rfl⟩ := hJ.one
    go_wp2_with fail
    have hD : d.added id fr til au tx = d.addD id fr til au tx := by unfold Doc.added; rw [if_pos HOk.out]
    have hI : d.addId id fr til au tx = d.last + 1 := by unfold Doc.addId; rw [if_pos HOk.out]
    refine bodyPost_ret (v := .tuple #[.agg #[.string d.title, .string d.lang, .int .u8 d.rate, .bool d.drop, .int .i64 (d.last + 1), .slice ra rn rc, .slice ea en' ec, .slice A8 (cn + 1) c8], .int .i64 (d.last + 1), .int .i64 0]) ?_ rfl ⟨⟨ra, rn, rc, ea, en', ec, A8, cn + 1, c8⟩, ?_, ?_, ?_⟩
    · exact results_B_tmp2 (P := Tryz.prog) Tryz.results12 (g := w.heap.size + 1) rfl (by exact (HZ9.out.ext hx11).put _) Tryz.underlying27 rfl size_docI
    · rw [hD, hI, HOk.out]; rfl
    · rw [hD]; exact (HO9.out.ext hx11).put (HZ9.out.ext hx11) _
    · exact (HX9.out.trans hx11).put (by omega) _ _
end Go.Proofs.YtagfedbdakmlgaaGreatDoor

/-! CharR -/
namespace Go.Proofs.YtagfedbdakmlgaaGreatDoor
set_option linter.unusedVariables false
set_option linter.unusedSimpArgs false
open Go.RowKit
end Go.Proofs.YtagfedbdakmlgaaGreatDoor

/-! RuneR -/
namespace Go.Proofs.YtagfedbdakmlgaaGreatDoor
set_option linter.unusedVariables false
set_option linter.unusedSimpArgs false
open Go.RowKit
theorem info_rune : (Tryz.prog.info? 21).map (fun i => (i.zero, i.size, i.bytes)) = some (some (.int .i32 0), 1, 4) := by kernel_rfl
theorem own_iterAt {w : World} {base : Nat} {e : TypeId} {size : Nat} {v : Value} {n : Nat} {xs : List Value} (h : w.ownsRow base e size v n xs) {k : Nat} (hk : k < base) (s : ByteArray) (p : Nat) : (w.iterAt k s p).ownsRow base e size v n xs := by
  obtain ⟨h1, h2⟩ := h
  refine ⟨h1, ?_⟩
  rcases h2 with h2 | ⟨g, cap, cur, a, b, c, d⟩
  · exact .inl h2
  · exact .inr ⟨g, cap, cur, a, b, by rw [Lib.iterAt_other _ _ _ _ _ (by omega)]; exact c, d⟩
def RunesRel (s : ByteArray) (w : World) (g : Nat) (v : Value) (wr : World) : Prop :=
  ∃ (pos : Nat) (l : List Int), wr.heap[g]? = some (.stringIter s pos) ∧ Ext w wr ∧ runes s 0 = l ++ runes s pos ∧ l.length ≤ pos ∧ wr.ownsRow (g + 1) 21 1 v l.length (l.flatMap fun x => [Value.int .i32 x])
def RunesAt (w : World) (A : Option Addr) (n : Nat) (l : List Int) : Prop := Sl w 1 (Cells fun x => [.int .i32 x]) A n l
def RunesPost (s : ByteArray) (w : World) (en : Ending) (w' : World) : Prop := ∃ A n c, en = .returned (.slice A n c) ∧ RunesAt w' A n (runes s 0) ∧ n ≤ c ∧ Ext w w'
end Go.Proofs.YtagfedbdakmlgaaGreatDoor

/-! MoveP -/
namespace Go.Proofs.YtagfedbdakmlgaaGreatDoor.Mv
set_option linter.unusedVariables false
set_option linter.unusedSimpArgs false
/-- the length of the common beginning -/
def pre : List Int → List Int → Nat
  | x :: a, y :: b => if x = y then pre a b + 1 else 0
  | _, _ => 0
theorem pre_le : ∀ a b : List Int, pre a b ≤ a.length ∧ pre a b ≤ b.length
  | [], b => by simp [pre]
  | x :: a, [] => by simp [pre]
  | x :: a, y :: b => by
    have := pre_le a b
    simp only [pre, List.length_cons]; split <;> omega
theorem pre_eq : ∀ (a b : List Int) (k : Nat), k < pre a b → a[k]? = b[k]?
  | [], b, k, h => by simp [pre] at h
  | x :: a, [], k, h => by simp [pre] at h
  | x :: a, y :: b, k, h => by
    simp only [pre] at h
    split at h
    · rename_i e
      subst e
      cases k with
      | zero => rfl
      | succ k => simpa using pre_eq a b k (by omega)
    · omega
theorem pre_ne : ∀ (a b : List Int) (x y : Int), a[pre a b]? = some x → b[pre a b]? = some y → x ≠ y
  | [], b, x, y, h, _ => by simp at h
  | u :: a, [], x, y, _, h => by simp at h
  | u :: a, v :: b, x, y, h1, h2 => by
    simp only [pre] at h1 h2
    split at h1
    · rename_i e
      rw [if_pos e] at h2
      simp only [List.getElem?_cons_succ] at h1 h2
      exact pre_ne a b x y h1 h2
    · rename_i e
      rw [if_neg e] at h2
      simp only [List.getElem?_cons_zero, Option.some.injEq] at h1 h2
      subst h1 h2
      exact e
/-- a loop over the common beginning: a place that all places ahead have reached -/
theorem pre_step {a b : List Int} {k : Nat} {x y : Int} (h : k ≤ pre a b) (h1 : a[k]? = some x) (h2 : b[k]? = some y) (he : x = y) : k + 1 ≤ pre a b := by
  rcases Nat.lt_or_ge k (pre a b) with hl | hl
  · exact hl
  · obtain rfl : k = pre a b := by omega
    exact absurd he (pre_ne a b x y h1 h2)
theorem pre_stop {a b : List Int} {k : Nat} (h : k ≤ pre a b) (hs : a.length ≤ k ∨ b.length ≤ k ∨ ∃ x y, a[k]? = some x ∧ b[k]? = some y ∧ x ≠ y) : k = pre a b := by
  have := pre_le a b
  rcases hs with hs | hs | ⟨x, y, h1, h2, hne⟩
  · omega
  · omega
  · rcases Nat.lt_or_ge k (pre a b) with hl | hl
    · have := pre_eq a b k hl
      rw [h1, h2] at this
      exact absurd (Option.some.inj this) hne
    · omega
/-- the length of the common end behind p -/
def suf (a b : List Int) (p : Nat) : Nat := pre (a.drop p).reverse (b.drop p).reverse
theorem suf_le (a b : List Int) (p : Nat) : suf a b p ≤ a.length - p ∧ suf a b p ≤ b.length - p := by
  have := pre_le (a.drop p).reverse (b.drop p).reverse
  simpa [suf] using this
theorem rev_at (a : List Int) (p k : Nat) (h : k < a.length - p) : (a.drop p).reverse[k]? = a[a.length - 1 - k]? := by
  rw [List.getElem?_reverse (by simpa using h), List.getElem?_drop]
  congr 1
  simp only [List.length_drop]; omega
theorem suf_step {a b : List Int} {p k : Nat} {x y : Int} (h : k ≤ suf a b p) (ha : k < a.length - p) (hb : k < b.length - p) (h1 : a[a.length - 1 - k]? = some x) (h2 : b[b.length - 1 - k]? = some y) (he : x = y) : k + 1 ≤ suf a b p :=
  pre_step h (by rw [rev_at a p k ha]; exact h1) (by rw [rev_at b p k hb]; exact h2) he
theorem suf_stop {a b : List Int} {p k : Nat} (h : k ≤ suf a b p) (hs : a.length - p ≤ k ∨ b.length - p ≤ k ∨ ∃ x y, k < a.length - p ∧ k < b.length - p ∧ a[a.length - 1 - k]? = some x ∧ b[b.length - 1 - k]? = some y ∧ x ≠ y) : k = suf a b p := by
  refine pre_stop h ?_
  rcases hs with hs | hs | ⟨x, y, g1, g2, h1, h2, hne⟩
  · exact .inl (by simpa using hs)
  · exact .inr (.inl (by simpa using hs))
  · exact .inr (.inr ⟨x, y, by rw [rev_at a p k g1]; exact h1, by rw [rev_at b p k g2]; exact h2, hne⟩)
/-- where a beginning, an end comes to lie -/
def from_ (n m p s : Nat) (i : Int) : Int := if (n : Int) - s ≤ i then i + m - n else if i < p then i else m - s
def to_ (n m p s : Nat) (i : Int) : Int := if i ≤ p then i else if (n : Int) - s < i then i + m - n else p
def clamp (n : Nat) (i : Int) : Int := min (max i 0) n
def move (a b : List Int) (i : Int) (e : Bool) : Int :=
  if e = true then to_ a.length b.length (pre a b) (suf a b (pre a b)) (clamp a.length i) else from_ a.length b.length (pre a b) (suf a b (pre a b)) (clamp a.length i)
theorem ends (a b : List Int) : pre a b + suf a b (pre a b) ≤ a.length ∧ pre a b + suf a b (pre a b) ≤ b.length := by
  have h1 := pre_le a b
  have h2 := suf_le a b (pre a b)
  omega
end Go.Proofs.YtagfedbdakmlgaaGreatDoor.Mv

/-! Runes3 -/
namespace Go.Proofs.YtagfedbdakmlgaaGreatDoor
set_option linter.unusedVariables false
set_option linter.unusedSimpArgs false
open Go.RowKit
set_option maxRecDepth 100000 in
set_option maxHeartbeats 1000000 in
theorem CRunes_any (s : ByteArray) (w : World) (hs : s.size ≤ 35184372088831) :
    Calls Tryz.prog 85 #[.string s] w (RunesPost s w) := by
  have h1 := Ext.refl w
  go_enter Tryz.func85, Tryz.ntmps85
  go_wp2_with fail
  go_loopw [3] (fun v wr => RunesRel s w w.heap.size v wr) (fun _ wr => s.size - wr.iterPos w.heap.size)
  case atStart => exact ⟨0, [], w.iter_heap s 0, h1.iter s 0, rfl, Nat.le_refl _, ⟨rfl, .inl ⟨rfl, rfl⟩⟩⟩
  case round =>
    obtain ⟨pos, l, hk, hx, hp, hle, hown⟩ := hrel
    have hpos0 := Lib.hid (iterPos_of hk)
    have HP := Lib.hid hp
    clear hp
    by_cases hlt : pos < s.size
    · have hn := fun ty => Lib.run_next_any_at (P := Tryz.prog) wr _ s pos ty hk hlt
      have hstep := Lib.hid (runes_step s pos hlt)
      have hw := dec_pos s pos hlt
      have hk2 := Lib.iterAt_heap wr _ s pos (pos + (Utf8.decode s pos).2) hk
      have hx2 := hx.iterAt (Nat.le_refl _) s (pos + (Utf8.decode s pos).2)
      have hown2 := own_iterAt hown (k := w.heap.size) (by omega) s (pos + (Utf8.decode s pos).2)
      obtain ⟨W1, hW1⟩ : ∃ W1, W1 = wr.iterAt w.heap.size s (pos + (Utf8.decode s pos).2) := ⟨_, rfl⟩
      rw [← hW1] at hn hk2 hx2 hown2
      have hlt9 : w.heap.size < W1.heap.size := (Array.getElem?_eq_some_iff.1 hk2).1
      clear hW1 hk hown hx
      have HK := Lib.hid hk2
      clear hk2
      go_wp2_with (at_builtin; refine wpList_append1 rfl (.tmp 11) (.tmp 13) 111 rfl info_rune Tryz.underlying111 rfl (by decide) (hown2.alloc _) (by exact rfl) W1.heap.size _ (by exact rfl) (by exact Blk.new' rfl) (by exact rfl) (by simp [Value.oneCell']) (by omega) (by simp [maxLen]; omega) (by simp; omega) ?_; intro v' w3 hown3 hgr)
      have hk3 : w3.heap[w.heap.size]? = some (.stringIter s (pos + (Utf8.decode s pos).2)) := by
        rw [hgr.block w.heap.size (by simp; omega) (fun h => by have := own_lt hown2 _ h.symm; omega), Below.heap_alloc _ _ _ hlt9]
        exact HK.out
      refine ⟨⟨pos + (Utf8.decode s pos).2, l ++ [((Utf8.decode s pos).1 : Int)], hk3, (hx2.alloc _).grown hgr (fun q hq => by have := own_lt hown2 q hq; omega), ?_, ?_, ?_⟩, ?_⟩
      · rw [HP.out, hstep.out]; simp
      · rw [List.length_append, List.length_singleton]; omega
      · rw [List.length_append, List.flatMap_append]; exact hown3
      · rw [iterPos_of hk3, hpos0.out]; omega
    · have hn := fun ty => Lib.run_next_end_at (P := Tryz.prog) wr _ s pos ty hk hlt
      have hl : runes s 0 = l := by rw [HP.out, runes_end s pos hlt]; simp
      obtain ⟨A, c, rfl, hc, _, hsl, _⟩ := own_sl (f := fun x : Int => [Value.int .i32 x]) (size := 1) (fun _ => rfl) rfl hown
      have HL := Lib.hid hl
      have HX := Lib.hid hx
      clear hl hx hown HP
      go_wp2_with fail
      go_ret
      exact ⟨A, l.length, c, rfl, by rw [HL.out]; exact hsl, hc, HX.out⟩
set_option maxRecDepth 100000 in
set_option maxHeartbeats 1000000 in
theorem DRunes_any (s : ByteArray) (w : World) (hs : s.size ≤ 35184372088831) :
    Calls Tryz.prog 138 #[.string s] w (RunesPost s w) := by
  have h1 := Ext.refl w
  go_enter Tryz.func138, Tryz.ntmps138
  go_wp2_with fail
  go_loopw [3] (fun v wr => RunesRel s w w.heap.size v wr) (fun _ wr => s.size - wr.iterPos w.heap.size)
  case atStart => exact ⟨0, [], w.iter_heap s 0, h1.iter s 0, rfl, Nat.le_refl _, ⟨rfl, .inl ⟨rfl, rfl⟩⟩⟩
  case round =>
    obtain ⟨pos, l, hk, hx, hp, hle, hown⟩ := hrel
    have hpos0 := Lib.hid (iterPos_of hk)
    have HP := Lib.hid hp
    clear hp
    by_cases hlt : pos < s.size
    · have hn := fun ty => Lib.run_next_any_at (P := Tryz.prog) wr _ s pos ty hk hlt
      have hstep := Lib.hid (runes_step s pos hlt)
      have hw := dec_pos s pos hlt
      have hk2 := Lib.iterAt_heap wr _ s pos (pos + (Utf8.decode s pos).2) hk
      have hx2 := hx.iterAt (Nat.le_refl _) s (pos + (Utf8.decode s pos).2)
      have hown2 := own_iterAt hown (k := w.heap.size) (by omega) s (pos + (Utf8.decode s pos).2)
      obtain ⟨W1, hW1⟩ : ∃ W1, W1 = wr.iterAt w.heap.size s (pos + (Utf8.decode s pos).2) := ⟨_, rfl⟩
      rw [← hW1] at hn hk2 hx2 hown2
      have hlt9 : w.heap.size < W1.heap.size := (Array.getElem?_eq_some_iff.1 hk2).1
      clear hW1 hk hown hx
      have HK := Lib.hid hk2
      clear hk2
      go_wp2_with (at_builtin; refine wpList_append1 rfl (.tmp 11) (.tmp 13) 111 rfl info_rune Tryz.underlying111 rfl (by decide) (hown2.alloc _) (by exact rfl) W1.heap.size _ (by exact rfl) (by exact Blk.new' rfl) (by exact rfl) (by simp [Value.oneCell']) (by omega) (by simp [maxLen]; omega) (by simp; omega) ?_; intro v' w3 hown3 hgr)
      have hk3 : w3.heap[w.heap.size]? = some (.stringIter s (pos + (Utf8.decode s pos).2)) := by
        rw [hgr.block w.heap.size (by simp; omega) (fun h => by have := own_lt hown2 _ h.symm; omega), Below.heap_alloc _ _ _ hlt9]
        exact HK.out
      refine ⟨⟨pos + (Utf8.decode s pos).2, l ++ [((Utf8.decode s pos).1 : Int)], hk3, (hx2.alloc _).grown hgr (fun q hq => by have := own_lt hown2 q hq; omega), ?_, ?_, ?_⟩, ?_⟩
      · rw [HP.out, hstep.out]; simp
      · rw [List.length_append, List.length_singleton]; omega
      · rw [List.length_append, List.flatMap_append]; exact hown3
      · rw [iterPos_of hk3, hpos0.out]; omega
    · have hn := fun ty => Lib.run_next_end_at (P := Tryz.prog) wr _ s pos ty hk hlt
      have hl : runes s 0 = l := by rw [HP.out, runes_end s pos hlt]; simp
      obtain ⟨A, c, rfl, hc, _, hsl, _⟩ := own_sl (f := fun x : Int => [Value.int .i32 x]) (size := 1) (fun _ => rfl) rfl hown
      have HL := Lib.hid hl
      have HX := Lib.hid hx
      clear hl hx hown HP
      go_wp2_with fail
      go_ret
      exact ⟨A, l.length, c, rfl, by rw [HL.out]; exact hsl, hc, HX.out⟩
theorem RunesAt.ext {w w1 : World} {A : Option Addr} {n : Nat} {l : List Int} (h : RunesAt w A n l) (k : Ext w w1) : RunesAt w1 A n l := Sl.ext (Cells.stays _) h k
theorem RunesAt.cell {w : World} {A : Option Addr} {n : Nat} {l : List Int} (h : RunesAt w A n l) {i : Nat} (hi : i < n) : ∃ b off x, A = some ⟨b, off, none⟩ ∧ l[i]? = some x ∧ w.cell? ⟨b, off + i, none⟩ = some (.int .i32 x) := by
  obtain ⟨b, off, x, hA, hx, hc⟩ := h.at_ hi
  exact ⟨b, off, x, hA, hx, by simpa using hc 0 (.int .i32 x) rfl⟩
theorem runesAt_len (s : ByteArray) : ∀ f pos, (runesAt s f pos).length ≤ f
  | 0, _ => Nat.le_refl _
  | f + 1, pos => by
    unfold runesAt
    split
    · have := runesAt_len s f (pos + (Utf8.decode s pos).2); simp only [List.length_cons]; omega
    · simp
theorem runes_len (s : ByteArray) : (runes s 0).length ≤ s.size := runesAt_len s s.size 0
def PreRel (W : World) (a b : List Int) (v : Value) (wr : World) : Prop := ∃ k : Nat, k ≤ Mv.pre a b ∧ v = .int .i64 k ∧ Ext W wr
def SufRel (W : World) (a b : List Int) (v : Value) (wr : World) : Prop := ∃ k : Nat, k ≤ Mv.suf a b (Mv.pre a b) ∧ v = .int .i64 k ∧ Ext W wr
end Go.Proofs.YtagfedbdakmlgaaGreatDoor

/-! QuoteP -/
namespace Go.Proofs.YtagfedbdakmlgaaGreatDoor
set_option linter.unusedVariables false
set_option linter.unusedSimpArgs false
open Go.RowKit
theorem enc_size (r : Int) : (Utf8.encode r).size ≤ 4 := by
  unfold Utf8.encode
  dsimp only
  generalize (if Utf8.valid r = true then r.toNat else Utf8.runeError) = c
  split
  · exact Nat.le_of_ble_eq_true rfl
  split
  · exact Nat.le_of_ble_eq_true rfl
  split
  · exact Nat.le_of_ble_eq_true rfl
  · exact Nat.le_of_ble_eq_true rfl
def qstep (fr til : Int) (acc : ByteArray) (p : Int × Nat) : ByteArray := if fr ≤ (p.2 : Int) ∧ (p.2 : Int) < til then acc ++ Utf8.encode p.1 else acc
/-- the characters from fr on up to til -/
def quoteT (fr til : Int) (l : List Int) : ByteArray := l.zipIdx.foldl (qstep fr til) ⟨#[]⟩
theorem quoteT_take {fr til : Int} {l : List Int} {k : Nat} {x : Int} (h : l[k]? = some x) : quoteT fr til (l.take (k + 1)) = qstep fr til (quoteT fr til (l.take k)) (x, k) := by
  have hk := (List.getElem?_eq_some_iff.1 h).1
  unfold quoteT
  rw [take_snoc' l k x h, List.zipIdx_append, List.foldl_append]
  simp [List.length_take, Nat.min_eq_left (Nat.le_of_lt hk)]
theorem quoteT_size (fr til : Int) (l : List Int) : ∀ k, k ≤ l.length → (quoteT fr til (l.take k)).size ≤ 4 * k
  | 0, _ => Nat.le_of_eq (rfl : (quoteT fr til (l.take 0)).size = 0)
  | k + 1, h => by
    have hx : l[k]? = some l[k] := List.getElem?_eq_getElem h
    have ih := quoteT_size fr til l k (by omega)
    have he := enc_size l[k]
    rw [quoteT_take hx]
    unfold qstep
    dsimp only
    split
    · rw [ByteArray.size_append]; omega
    · omega
def Doc.cfErr (d : Doc) (id : Int) : Int := if d.err ≠ 0 then d.err else if findCI d.coms id < 0 then 6 else 0
def Doc.cfIdx (d : Doc) (id : Int) : Int := if d.cfErr id = 0 then findCI d.coms id else 0
/-- what Quoted comes to -/
def Doc.quX (d : Doc) (id : Int) : ByteArray × Int :=
  if d.err ≠ 0 then (⟨#[]⟩, d.err) else match findC d.coms id with
    | none => (⟨#[]⟩, 6)
    | some k => match d.coms[k]? with
      | none => (⟨#[]⟩, 6)
      | some c => if c.lost = true then (⟨#[]⟩, 17) else match findE d.evs c.ev with
        | none => (⟨#[]⟩, 6)
        | some m => match d.evs[m]? with
          | none => (⟨#[]⟩, 6)
          | some x => (quoteT c.fr c.til (runes ⟨x.text.toArray⟩ 0), 0)
section
variable {d : Doc} {id : Int} {k m : Nat} {c : Com} {x : Ev}
theorem qu_1 (h : d.err ≠ 0) : d.quX id = (⟨#[]⟩, d.err) := by unfold Doc.quX; rw [if_pos h]
theorem qu_2 (h : d.err = 0) (h2 : findC d.coms id = none) : d.quX id = (⟨#[]⟩, 6) := by unfold Doc.quX; rw [if_neg (by simpa using h), h2]
theorem qu_3 (h : d.err = 0) (h2 : findC d.coms id = some k) (h3 : d.coms[k]? = some c) (h4 : c.lost = true) : d.quX id = (⟨#[]⟩, 17) := by unfold Doc.quX; rw [if_neg (by simpa using h), h2]; simp only [h3, h4, if_true]
theorem qu_4 (h : d.err = 0) (h2 : findC d.coms id = some k) (h3 : d.coms[k]? = some c) (h4 : c.lost = false) (h5 : findE d.evs c.ev = some m) (h6 : d.evs[m]? = some x) : d.quX id = (quoteT c.fr c.til (runes ⟨x.text.toArray⟩ 0), 0) := by
  unfold Doc.quX; rw [if_neg (by simpa using h), h2]; simp only [h3, h4, h5, h6, Bool.false_eq_true, if_false]
/-- the anchor of a comment of a valid document -/
theorem com_anchor (h : d.err = 0) (h3 : d.coms[k]? = some c) (h4 : c.lost = false) : ∃ m e, findE d.evs c.ev = some m ∧ d.evs[m]? = some e ∧ 0 ≤ c.fr ∧ c.fr < c.til ∧ c.til ≤ e.len :=
  (anchor_ok (com_ok (coms_ok (doc_ok h).2.2.2.2.2 k c h3)).2.2.2.2.1).2.2.2 h4
end
/-- results of calls, one after the other -/
structure QJ (ps : List (Value → World → Prop)) (W : World) (us : List Value) (w' : World) : Prop where
  ext : Ext W w'
  val : ∀ (i : Nat) (u : Value) (p : Value → World → Prop), us[i]? = some u → ps[i]? = some p → p u w'
def QSt (ps : List (Value → World → Prop)) : Prop := ∀ p ∈ ps, ∀ u w w', Ext w w' → p u w → p u w'
theorem QJ.start (ps : List (Value → World → Prop)) (W : World) : QJ ps W [] W.drew := ⟨(Ext.refl W).drew, fun i u p h => by simp at h⟩
theorem QJ.push {ps : List (Value → World → Prop)} {W w' w2 : World} {us : List Value} {v : Value} (h : QJ ps W us w') (hst : QSt ps) (hx : Ext w' w2) (hv : ∀ p : Value → World → Prop, ps[us.length]? = some p → p v w2) : QJ ps W (us ++ [v]) w2 :=
  ⟨h.ext.trans hx, fun i u p hu hp => by
    by_cases hi : i < us.length
    · rw [List.getElem?_append_left hi] at hu
      exact hst p (List.mem_of_getElem? hp) u w' w2 hx (h.val i u p hu hp)
    · rw [List.getElem?_append_right (by omega)] at hu
      have hl := (List.getElem?_eq_some_iff.1 hu).1
      simp at hl
      have hi' : i = us.length := by omega
      subst hi'
      simp at hu
      subst hu
      exact hv p hp⟩
end Go.Proofs.YtagfedbdakmlgaaGreatDoor
