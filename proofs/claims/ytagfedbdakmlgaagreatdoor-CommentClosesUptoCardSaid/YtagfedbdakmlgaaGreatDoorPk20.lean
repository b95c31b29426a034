/- Laid together: The walk of captionerref14.Add. The walk of document.Head. Equality of runs and rows: slices.Equal, style.Same, slices.EqualFunc, style.SameRows; the reference's Same, SameRows. slices.Equal of regions. slices.Equal of comments. -/
import Derived.Test.YtagfedbdakmlgaaGreatDoorPk19
import Derived.Test.YtagfedbdakmlgaaGreatDoorPk13
import Derived.Test.YtagfedbdakmlgaaGreatDoorPk04
import Derived.Test.YtagfedbdakmlgaaGreatDoorPk02

/-! AddR -/
namespace Go.Proofs.YtagfedbdakmlgaaGreatDoor
set_option linter.unusedVariables false
set_option linter.unusedSimpArgs false
open Go.RowKit

set_option maxRecDepth 100000 in
set_option maxHeartbeats 8000000 in
theorem R14Add_any (d : Doc) (h : DocH) (id fr til : Int) (au tx : ByteArray) (w : World) (hE : Env w) (hat : DocAt w d h) (hf : DocFit d) (hrn : h.rn ≤ 9223372036854775807) (hr : h.rn * 56 ≤ 140737488355328) (hn : h.en ≤ 1000000) (hcn : h.cn ≤ 1000000) (hau : au.size ≤ 9223372036854775807) (htx : tx.size ≤ 9223372036854775807) :
    Calls Tryz.prog 13 #[.agg (d.cells h), .int .i64 id, .int .i64 fr, .int .i64 til, .string au, .string tx] w (AddPost d id fr til au tx w) := by
  have HX : Hid (Ext w ((w.alloc (.cells (d.cells h) 27)).alloc (.cells docZero 27))) := ((Ext.refl w).alloc _).alloc _
  have HB : Hid (Blk ((w.alloc (.cells (d.cells h) 27)).alloc (.cells docZero 27)) w.heap.size 27 (d.cells h)) := (Blk.new w _ _).alloc _
  have HZ : Hid (Blk ((w.alloc (.cells (d.cells h) 27)).alloc (.cells docZero 27)) (w.heap.size + 1) 27 docZero) := Blk.new' (by simp)
  have HCk := Lib.hid (fun w' (hx : Ext w w') => R12Check_any d h w' (hE.ext hx) (hat.ext hx) hf hrn hn (by omega))
  have HFd := Lib.hid (fun w' (hx : Ext w w') => R12Find_any d h id w' (hat.evs.ext hx) (by omega))
  have HCl := Lib.hid (fun w' (hx : Ext w w') => R12Clone_any d h w' (hat.ext hx) hr (by omega) (by omega))
  have HNm := Lib.hid (fun w' => RName_any au w' hau)
  have HVl := Lib.hid (fun w' (hx : Ext w w') => RValid_any tx w' htx)
  have HEv := Lib.hid hat.evs
  have HE := Lib.hid hE
  have HSm := Lib.hid hf.evs
  have HEl := Lib.hid hat.evs.len
  have HCn := Lib.hid hat.coms.len
  have END : ∀ (w9 : World) (e : Int), Ext w w9 → Blk w9 (w.heap.size + 1) 27 docZero → d.addErr id fr til au tx = e → e ≠ 0 → ∀ (tmps : Array Value), tmps.getD 12 undef = .pointer (some ⟨w.heap.size + 1, 0, none⟩) → tmps.getD 13 undef = .int .i64 0 → tmps.getD 14 undef = .int .i64 e →
      (results Tryz.f13 tmps).run Tryz.prog (putB w9 (w.heap.size + 1) 27 docZero) = .ok (.tuple #[.agg docZero, .int .i64 0, .int .i64 e]) (putB w9 (w.heap.size + 1) 27 docZero) ∧
        AddPost d id fr til au tx w (.returned (.tuple #[.agg docZero, .int .i64 0, .int .i64 e])) (putB w9 (w.heap.size + 1) 27 docZero) := fun w9 e hx hz he h0 tmps h8 h9 h10 => by
    refine ⟨?_, addPost_err he h0 (hx.put (by omega) _ _)⟩
    have := results_B_tmp2 (P := Tryz.prog) Tryz.results13 (tmps := tmps) (w := putB w9 (w.heap.size + 1) 27 docZero) (g := w.heap.size + 1) h8 (hz.put _) Tryz.underlying27 rfl size_docI
    rw [this, h9, h10]
  have HEnd := Lib.hid END
  clear END hat hE hf hrn hr
  obtain ⟨hra, nr, hrc, hea, hen, hec, hca, nc, hcc⟩ := h
  unfold DClPost at HCl
  unfold Doc.cells docZero at *
  dsimp only at *
  go_enter Tryz.func13, Tryz.ntmps13
  go_wp2_with (refine wpList_loadB rfl 27 (.tmp 6) rfl w.heap.size 27 _ _ (by exact rfl) (by exact HB.out) Tryz.underlying27 rfl (by exact size_docI) ?_)
  refine (HCk.out _ HX.out).mono ?_
  rintro en w_40 ⟨rfl, hx_41⟩
  have HX_42 := Lib.hid (HX.out.trans hx_41)
  have HB_43 := Lib.hid (HB.out.ext hx_41)
  have HB_44 := Lib.hid (HZ.out.ext hx_41)
  clear hx_41 HX HB HZ
  by_cases h1 : d.err = 0
  case neg =>
    have hne : (d.err != 0) = true := by simpa using h1
    have HN1 := Lib.hid h1
    clear h1
    have HErr : Hid (d.addErr id fr til au tx = d.err) := add_1 HN1.out
    have hc_45 := fun o => HB_43.out.cell o
    go_wp2_with (refine wpList_storeB rfl 27 (.tmp 12) (.tmp 23) rfl (w.heap.size + 1) 27 _ _ (by exact rfl) (by exact rfl) (by exact HB_44.out) (by exact rfl) (by exact size_docI) (by simp [Value.oneCell']) ?_)
    clear hc_45
    refine bodyPost_ret (v := .tuple #[.agg #[.string ⟨#[]⟩, .string ⟨#[]⟩, .int .u8 0, .bool false, .int .i64 0, .slice none 0 0, .slice none 0 0, .slice none 0 0], .int .i64 0, .int .i64 (d.err)]) ?_ rfl ?_
    · exact (HEnd.out _ _ HX_42.out HB_44.out HErr.out (HN1.out) _ rfl rfl rfl).1
    · exact (HEnd.out _ _ HX_42.out HB_44.out HErr.out (HN1.out) #[undef, undef, undef, undef, undef, undef, undef, undef, undef, undef, undef, undef, .pointer (some ⟨w.heap.size + 1, 0, none⟩), .int .i64 0, .int .i64 (d.err)] rfl rfl rfl).2
  have H1 := Lib.hid h1
  have HB0 := Lib.hid (head_ok' (doc_ok h1).1)
  have hl0 := HB0.out.2.2.2.2.1
  have hl1 := HB0.out.2.2.2.2.2
  rw [h1]
  clear h1
  go_wp2_with (refine wpList_loadB rfl 27 (.tmp 6) rfl w.heap.size 27 _ _ (by exact rfl) (by exact HB_43.out) Tryz.underlying27 rfl (by exact size_docI) ?_)
  refine (HFd.out _ HX_42.out).mono ?_
  rintro en w_46 ⟨rfl, hx_47⟩
  have HX_48 := Lib.hid (HX_42.out.trans hx_47)
  have HB_49 := Lib.hid (HB_43.out.ext hx_47)
  have HB_50 := Lib.hid (HB_44.out.ext hx_47)
  clear hx_47 HX_42 HB_43 HB_44
  cases hfe : findE d.evs id with
  | none =>
    have hfi : findI d.evs id = -1 := by unfold findI; rw [hfe]
    have HN1 := Lib.hid hfe
    rw [hfi]
    clear hfe hfi
    have HErr : Hid (d.addErr id fr til au tx = 6) := add_2 H1.out HN1.out
    have hc_51 := fun o => HB_49.out.cell o
    go_wp2_with (refine wpList_storeB rfl 27 (.tmp 12) (.tmp 77) rfl (w.heap.size + 1) 27 _ _ (by exact rfl) (by exact rfl) (by exact HB_50.out) (by exact rfl) (by exact size_docI) (by simp [Value.oneCell']) ?_)
    clear hc_51
    refine bodyPost_ret (v := .tuple #[.agg #[.string ⟨#[]⟩, .string ⟨#[]⟩, .int .u8 0, .bool false, .int .i64 0, .slice none 0 0, .slice none 0 0, .slice none 0 0], .int .i64 0, .int .i64 (6)]) ?_ rfl ?_
    · exact (HEnd.out _ _ HX_48.out HB_50.out HErr.out (by decide) _ rfl rfl rfl).1
    · exact (HEnd.out _ _ HX_48.out HB_50.out HErr.out (by decide) #[undef, undef, undef, undef, undef, undef, undef, undef, undef, undef, undef, undef, .pointer (some ⟨w.heap.size + 1, 0, none⟩), .int .i64 0, .int .i64 (6)] rfl rfl rfl).2
  | some k =>
    have hfi : findI d.evs id = (k : Int) := by unfold findI; rw [hfe]
    have hkn : k < hen := by have := (List.findIdx?_eq_some_iff_getElem.1 hfe).1; have := HEl.out; omega
    obtain ⟨eb, eoff, x, A', n', c', rfl, hxe, hxat, e0, e1, e2, e3, e4, e5, e6⟩ := (HEv.out.ext HX_48.out).at_ev hkn
    have HR := Lib.hid (fun fr til au tx => add_r (fr := fr) (til := til) (au := au) (tx := tx) H1.out hfe hxe)
    have hsx := HSm.out x (List.mem_of_getElem? hxe)
    have HLx := Lib.hid (fun w' (hx : Ext w_46 w') => R11Len_any x A' n' c' w' (HE.out.ext (HX_48.out.trans hx)) (hxat.ext hx) hsx.2 (rows_len hxat.1))
    rw [hfi]
    unfold Ev.cells at HLx
    clear hfe hfi hxe hxat hsx
    by_cases g1 : fr < 0
    · have HErr : Hid (d.addErr id fr til au tx = 2) := by show _ = _; rw [HR.out, if_pos (.inl g1)]
      have hc_52 := fun o => HB_49.out.cell o
      go_wp2_with (refine wpList_storeB rfl 27 (.tmp 12) (.tmp 77) rfl (w.heap.size + 1) 27 _ _ (by exact rfl) (by exact rfl) (by exact HB_50.out) (by exact rfl) (by exact size_docI) (by simp [Value.oneCell']) ?_)
      clear hc_52
      refine bodyPost_ret (v := .tuple #[.agg #[.string ⟨#[]⟩, .string ⟨#[]⟩, .int .u8 0, .bool false, .int .i64 0, .slice none 0 0, .slice none 0 0, .slice none 0 0], .int .i64 0, .int .i64 (2)]) ?_ rfl ?_
      · exact (HEnd.out _ _ HX_48.out HB_50.out HErr.out (by decide) _ rfl rfl rfl).1
      · exact (HEnd.out _ _ HX_48.out HB_50.out HErr.out (by decide) #[undef, undef, undef, undef, undef, undef, undef, undef, undef, undef, undef, undef, .pointer (some ⟨w.heap.size + 1, 0, none⟩), .int .i64 0, .int .i64 (2)] rfl rfl rfl).2
    by_cases g2 : til ≤ fr
    · have HErr : Hid (d.addErr id fr til au tx = 2) := by show _ = _; rw [HR.out, if_pos (.inr (.inl g2))]
      have hc_53 := fun o => HB_49.out.cell o
      go_wp2_with (refine wpList_storeB rfl 27 (.tmp 12) (.tmp 77) rfl (w.heap.size + 1) 27 _ _ (by exact rfl) (by exact rfl) (by exact HB_50.out) (by exact rfl) (by exact size_docI) (by simp [Value.oneCell']) ?_)
      clear hc_53
      refine bodyPost_ret (v := .tuple #[.agg #[.string ⟨#[]⟩, .string ⟨#[]⟩, .int .u8 0, .bool false, .int .i64 0, .slice none 0 0, .slice none 0 0, .slice none 0 0], .int .i64 0, .int .i64 (2)]) ?_ rfl ?_
      · exact (HEnd.out _ _ HX_48.out HB_50.out HErr.out (by decide) _ rfl rfl rfl).1
      · exact (HEnd.out _ _ HX_48.out HB_50.out HErr.out (by decide) #[undef, undef, undef, undef, undef, undef, undef, undef, undef, undef, undef, undef, .pointer (some ⟨w.heap.size + 1, 0, none⟩), .int .i64 0, .int .i64 (2)] rfl rfl rfl).2
    have hc_54 := fun o => HB_49.out.cell o
    go_wp2_with fail
    clear hc_54
    refine (HLx.out _ (Ext.refl _)).mono ?_
    rintro en w_55 ⟨rfl, hx_56⟩
    have HX_57 := Lib.hid (HX_48.out.trans hx_56)
    have HB_58 := Lib.hid (HB_49.out.ext hx_56)
    have HB_59 := Lib.hid (HB_50.out.ext hx_56)
    clear hx_56 HX_48 HB_49 HB_50
    clear e0 e1 e2 e3 e4 e5 e6
    by_cases g3 : x.len < til
    · have HErr : Hid (d.addErr id fr til au tx = 2) := by show _ = _; rw [HR.out, if_pos (.inr (.inr g3))]
      have hc_60 := fun o => HB_58.out.cell o
      go_wp2_with (refine wpList_storeB rfl 27 (.tmp 12) (.tmp 77) rfl (w.heap.size + 1) 27 _ _ (by exact rfl) (by exact rfl) (by exact HB_59.out) (by exact rfl) (by exact size_docI) (by simp [Value.oneCell']) ?_)
      clear hc_60
      refine bodyPost_ret (v := .tuple #[.agg #[.string ⟨#[]⟩, .string ⟨#[]⟩, .int .u8 0, .bool false, .int .i64 0, .slice none 0 0, .slice none 0 0, .slice none 0 0], .int .i64 0, .int .i64 (2)]) ?_ rfl ?_
      · exact (HEnd.out _ _ HX_57.out HB_59.out HErr.out (by decide) _ rfl rfl rfl).1
      · exact (HEnd.out _ _ HX_57.out HB_59.out HErr.out (by decide) #[undef, undef, undef, undef, undef, undef, undef, undef, undef, undef, undef, undef, .pointer (some ⟨w.heap.size + 1, 0, none⟩), .int .i64 0, .int .i64 (2)] rfl rfl rfl).2
    have HA : Hid (¬ (fr < 0 ∨ til ≤ fr ∨ x.len < til)) := by show ¬ _; omega
    go_wp2_with fail
    clear g1 g2 g3
    refine (HNm.out _).mono ?_
    rintro en w_61 ⟨rfl, hx_62⟩
    have HX_63 := Lib.hid (HX_57.out.trans hx_62)
    have HB_64 := Lib.hid (HB_58.out.ext hx_62)
    have HB_65 := Lib.hid (HB_59.out.ext hx_62)
    clear hx_62 HX_57 HB_58 HB_59
    cases hnm : nameB au
    · have HN1 := Lib.hid hnm
      clear hnm
      have HErr : Hid (d.addErr id fr til au tx = 5) := by show _ = _; rw [HR.out, if_neg HA.out, if_pos HN1.out]
      have hc_66 := fun o => HB_64.out.cell o
      go_wp2_with (refine wpList_storeB rfl 27 (.tmp 12) (.tmp 77) rfl (w.heap.size + 1) 27 _ _ (by exact rfl) (by exact rfl) (by exact HB_65.out) (by exact rfl) (by exact size_docI) (by simp [Value.oneCell']) ?_)
      clear hc_66
      refine bodyPost_ret (v := .tuple #[.agg #[.string ⟨#[]⟩, .string ⟨#[]⟩, .int .u8 0, .bool false, .int .i64 0, .slice none 0 0, .slice none 0 0, .slice none 0 0], .int .i64 0, .int .i64 (5)]) ?_ rfl ?_
      · exact (HEnd.out _ _ HX_63.out HB_65.out HErr.out (by decide) _ rfl rfl rfl).1
      · exact (HEnd.out _ _ HX_63.out HB_65.out HErr.out (by decide) #[undef, undef, undef, undef, undef, undef, undef, undef, undef, undef, undef, undef, .pointer (some ⟨w.heap.size + 1, 0, none⟩), .int .i64 0, .int .i64 (5)] rfl rfl rfl).2
    have HA1 := Lib.hid hnm
    clear hnm
    go_wp2_with fail
    refine (HVl.out _ HX_63.out).mono ?_
    rintro en w_67 ⟨rfl, hx_68⟩
    have HX_69 := Lib.hid (HX_63.out.trans hx_68)
    have HB_70 := Lib.hid (HB_64.out.ext hx_68)
    have HB_71 := Lib.hid (HB_65.out.ext hx_68)
    clear hx_68 HX_63 HB_64 HB_65
    cases hvl : vld tx
    · have HN1 := Lib.hid hvl
      clear hvl
      have HErr : Hid (d.addErr id fr til au tx = 10) := by show _ = _; rw [HR.out, if_neg HA.out, if_neg (by rw [HA1.out]; decide), if_pos HN1.out]
      have hc_72 := fun o => HB_70.out.cell o
      go_wp2_with (refine wpList_storeB rfl 27 (.tmp 12) (.tmp 77) rfl (w.heap.size + 1) 27 _ _ (by exact rfl) (by exact rfl) (by exact HB_71.out) (by exact rfl) (by exact size_docI) (by simp [Value.oneCell']) ?_)
      clear hc_72
      refine bodyPost_ret (v := .tuple #[.agg #[.string ⟨#[]⟩, .string ⟨#[]⟩, .int .u8 0, .bool false, .int .i64 0, .slice none 0 0, .slice none 0 0, .slice none 0 0], .int .i64 0, .int .i64 (10)]) ?_ rfl ?_
      · exact (HEnd.out _ _ HX_69.out HB_71.out HErr.out (by decide) _ rfl rfl rfl).1
      · exact (HEnd.out _ _ HX_69.out HB_71.out HErr.out (by decide) #[undef, undef, undef, undef, undef, undef, undef, undef, undef, undef, undef, undef, .pointer (some ⟨w.heap.size + 1, 0, none⟩), .int .i64 0, .int .i64 (10)] rfl rfl rfl).2
    have HA2 := Lib.hid hvl
    clear hvl
    cases het : tx.toList.isEmpty
    case true =>
      have HErr : Hid (d.addErr id fr til au tx = 4) := by show _ = _; rw [HR.out, if_neg HA.out, if_neg (by rw [HA1.out]; decide), if_neg (by rw [HA2.out]; decide), if_pos het]
      have hc_73 := fun o => HB_70.out.cell o
      go_wp2_with (refine wpList_storeB rfl 27 (.tmp 12) (.tmp 77) rfl (w.heap.size + 1) 27 _ _ (by exact rfl) (by exact rfl) (by exact HB_71.out) (by exact rfl) (by exact size_docI) (by simp [Value.oneCell']) ?_)
      clear hc_73
      refine bodyPost_ret (v := .tuple #[.agg #[.string ⟨#[]⟩, .string ⟨#[]⟩, .int .u8 0, .bool false, .int .i64 0, .slice none 0 0, .slice none 0 0, .slice none 0 0], .int .i64 0, .int .i64 (4)]) ?_ rfl ?_
      · exact (HEnd.out _ _ HX_69.out HB_71.out HErr.out (by decide) _ rfl rfl rfl).1
      · exact (HEnd.out _ _ HX_69.out HB_71.out HErr.out (by decide) #[undef, undef, undef, undef, undef, undef, undef, undef, undef, undef, undef, undef, .pointer (some ⟨w.heap.size + 1, 0, none⟩), .int .i64 0, .int .i64 (4)] rfl rfl rfl).2
    by_cases q1 : 400 < tx.size
    · have q1i : (400 : Int) < (tx.size : Int) := by omega
      have HErr : Hid (d.addErr id fr til au tx = 9) := by show _ = _; rw [HR.out, if_neg HA.out, if_neg (by rw [HA1.out]; decide), if_neg (by rw [HA2.out]; decide), if_neg (by rw [het]; decide), if_pos (by rw [HCn.out]; omega)]
      have hc_74 := fun o => HB_70.out.cell o
      go_wp2_with (refine wpList_storeB rfl 27 (.tmp 12) (.tmp 77) rfl (w.heap.size + 1) 27 _ _ (by exact rfl) (by exact rfl) (by exact HB_71.out) (by exact rfl) (by exact size_docI) (by simp [Value.oneCell']) ?_)
      clear hc_74
      refine bodyPost_ret (v := .tuple #[.agg #[.string ⟨#[]⟩, .string ⟨#[]⟩, .int .u8 0, .bool false, .int .i64 0, .slice none 0 0, .slice none 0 0, .slice none 0 0], .int .i64 0, .int .i64 (9)]) ?_ rfl ?_
      · exact (HEnd.out _ _ HX_69.out HB_71.out HErr.out (by decide) _ rfl rfl rfl).1
      · exact (HEnd.out _ _ HX_69.out HB_71.out HErr.out (by decide) #[undef, undef, undef, undef, undef, undef, undef, undef, undef, undef, undef, undef, .pointer (some ⟨w.heap.size + 1, 0, none⟩), .int .i64 0, .int .i64 (9)] rfl rfl rfl).2
    have q1i : ¬ (400 : Int) < (tx.size : Int) := by omega
    by_cases q2 : 64 ≤ nc
    · have q2i : (64 : Int) ≤ (nc : Int) := by omega
      have HErr : Hid (d.addErr id fr til au tx = 9) := by show _ = _; rw [HR.out, if_neg HA.out, if_neg (by rw [HA1.out]; decide), if_neg (by rw [HA2.out]; decide), if_neg (by rw [het]; decide), if_pos (by rw [HCn.out]; omega)]
      have hc_75 := fun o => HB_70.out.cell o
      go_wp2_with (refine wpList_storeB rfl 27 (.tmp 12) (.tmp 77) rfl (w.heap.size + 1) 27 _ _ (by exact rfl) (by exact rfl) (by exact HB_71.out) (by exact rfl) (by exact size_docI) (by simp [Value.oneCell']) ?_)
      clear hc_75
      refine bodyPost_ret (v := .tuple #[.agg #[.string ⟨#[]⟩, .string ⟨#[]⟩, .int .u8 0, .bool false, .int .i64 0, .slice none 0 0, .slice none 0 0, .slice none 0 0], .int .i64 0, .int .i64 (9)]) ?_ rfl ?_
      · exact (HEnd.out _ _ HX_69.out HB_71.out HErr.out (by decide) _ rfl rfl rfl).1
      · exact (HEnd.out _ _ HX_69.out HB_71.out HErr.out (by decide) #[undef, undef, undef, undef, undef, undef, undef, undef, undef, undef, undef, undef, .pointer (some ⟨w.heap.size + 1, 0, none⟩), .int .i64 0, .int .i64 (9)] rfl rfl rfl).2
    have q2i : ¬ (64 : Int) ≤ (nc : Int) := by omega
    by_cases q3 : 1099511627776 ≤ d.last
    · have q3e : (d.last == 1099511627776) = true := by simp; omega
      have HErr : Hid (d.addErr id fr til au tx = 9) := by show _ = _; rw [HR.out, if_neg HA.out, if_neg (by rw [HA1.out]; decide), if_neg (by rw [HA2.out]; decide), if_neg (by rw [het]; decide), if_pos (by rw [HCn.out]; omega)]
      have hc_76 := fun o => HB_70.out.cell o
      go_wp2_with (refine wpList_storeB rfl 27 (.tmp 12) (.tmp 77) rfl (w.heap.size + 1) 27 _ _ (by exact rfl) (by exact rfl) (by exact HB_71.out) (by exact rfl) (by exact size_docI) (by simp [Value.oneCell']) ?_)
      clear hc_76
      refine bodyPost_ret (v := .tuple #[.agg #[.string ⟨#[]⟩, .string ⟨#[]⟩, .int .u8 0, .bool false, .int .i64 0, .slice none 0 0, .slice none 0 0, .slice none 0 0], .int .i64 0, .int .i64 (9)]) ?_ rfl ?_
      · exact (HEnd.out _ _ HX_69.out HB_71.out HErr.out (by decide) _ rfl rfl rfl).1
      · exact (HEnd.out _ _ HX_69.out HB_71.out HErr.out (by decide) #[undef, undef, undef, undef, undef, undef, undef, undef, undef, undef, undef, undef, .pointer (some ⟨w.heap.size + 1, 0, none⟩), .int .i64 0, .int .i64 (9)] rfl rfl rfl).2
    have q3e : (d.last == 1099511627776) = false := by simp; omega
    have HOk : Hid (d.addErr id fr til au tx = 0) := by show _ = _; rw [HR.out, if_neg HA.out, if_neg (by rw [HA1.out]; decide), if_neg (by rw [HA2.out]; decide), if_neg (by rw [het]; decide), if_neg (by rw [HCn.out]; omega)]
    clear HR HLx
    have hc_77 := fun o => HB_70.out.cell o
    go_wp2_with (refine wpList_loadB rfl 27 (.tmp 6) rfl w.heap.size 27 _ _ (by exact rfl) (by exact HB_70.out) Tryz.underlying27 rfl (by exact size_docI) ?_)
    clear hc_77
    refine (HCl.out _ HX_69.out).mono ?_
    rintro en w_78 ⟨⟨ra, rn, rc, ea, en', ec, ca, cn, cc⟩, rfl, ho5, hx_79⟩
    dsimp only
    have hszw := HX_69.out.size
    have HO5 := Lib.hid (ho5.le hszw)
    have hcn9 : cn < 64 := by
      have h1 := ho5.clen
      have h2 := HCn.out
      dsimp only at h1
      omega
    clear ho5 q1 q2
    have HX_80 := Lib.hid (HX_69.out.trans hx_79)
    have HB_81 := Lib.hid (HB_70.out.ext hx_79)
    have HB_82 := Lib.hid (HB_71.out.ext hx_79)
    clear hx_79 HX_69 HB_70 HB_71
    go_upto_region 21 with (fail)
    obtain ⟨gO, hgO⟩ : ∃ gO, gO = w_78.heap.size := ⟨_, rfl⟩
    obtain ⟨W6, hW6⟩ : ∃ W6, W6 = w_78.alloc (.cells #[.string d.title, .string d.lang, .int .u8 d.rate, .bool d.drop, .int .i64 d.last, .slice ra rn rc, .slice ea en' ec, .slice ca cn cc] 27) := ⟨_, rfl⟩
    rw [← hW6, ← hgO]
    have hzlt := HB_82.out.lt
    have HB6 : Hid (Blk W6 gO 27 #[.string d.title, .string d.lang, .int .u8 d.rate, .bool d.drop, .int .i64 d.last, .slice ra rn rc, .slice ea en' ec, .slice ca cn cc]) := by show Blk _ _ _ _; rw [hW6]; exact Blk.new' hgO
    have HZ6 : Hid (Blk W6 (w.heap.size + 1) 27 #[.string ⟨#[]⟩, .string ⟨#[]⟩, .int .u8 0, .bool false, .int .i64 0, .slice none 0 0, .slice none 0 0, .slice none 0 0]) := by show Blk _ _ _ _; rw [hW6]; exact HB_82.out.alloc _
    have HX6 : Hid (Ext w W6) := by show Ext _ _; rw [hW6]; exact HX_80.out.alloc _
    have HO6 : Hid (DocOwn W6 w.heap.size d ⟨ra, rn, rc, ea, en', ec, ca, cn, cc⟩) := by show DocOwn _ _ _ _; rw [hW6]; exact HO5.out.ext ((Ext.refl _).alloc _)
    have hgne : gO ≠ w.heap.size + 1 := by omega
    have hgle : w.heap.size ≤ gO := by omega
    clear hW6 HO5 hzlt hgO
    clear HB_81 HB_82 HX_80
    have hs6 := fun u => setCell_put HB6.out 4 u
    have hc6 := HB6.out.cell 4
    have hf6 := HB6.out.frozen 4
    simp at hs6 hc6
    go_upto_region 22 with (fail)
    clear hs6 hc6 hf6
    obtain ⟨W7, hW7⟩ : ∃ W7, W7 = putB W6 gO 27 #[.string d.title, .string d.lang, .int .u8 d.rate, .bool d.drop, .int .i64 (d.last + 1), .slice ra rn rc, .slice ea en' ec, .slice ca cn cc] := ⟨_, rfl⟩
    rw [← hW7]
    have HB7 : Hid (Blk W7 gO 27 #[.string d.title, .string d.lang, .int .u8 d.rate, .bool d.drop, .int .i64 (d.last + 1), .slice ra rn rc, .slice ea en' ec, .slice ca cn cc]) := by show Blk _ _ _ _; rw [hW7]; exact HB6.out.put _
    have HZ7 : Hid (Blk W7 (w.heap.size + 1) 27 #[.string ⟨#[]⟩, .string ⟨#[]⟩, .int .u8 0, .bool false, .int .i64 0, .slice none 0 0, .slice none 0 0, .slice none 0 0]) := by show Blk _ _ _ _; rw [hW7]; exact HZ6.out.put_other (by omega) _
    have HX7 : Hid (Ext w W7) := by show Ext _ _; rw [hW7]; exact HX6.out.put hgle _ _
    have HO7 : Hid (DocOwn W7 w.heap.size d ⟨ra, rn, rc, ea, en', ec, ca, cn, cc⟩) := by show DocOwn _ _ _ _; rw [hW7]; exact HO6.out.put HB6.out _
    have hsz7 := HX7.out.size
    clear hW7 HB6 HZ6 HX6 HO6
    have hc7 := fun o => HB7.out.cell o
    have hown0 := HO7.out.coms
    dsimp only at hown0
    go_upto_region 23 with (at_builtin; refine wpList_append1 rfl (.tmp 86) (.tmp 95) 25 rfl info_comI Tryz.underlying25 rfl (by decide) (hown0.alloc _) (by exact rfl) W7.heap.size _ (by exact rfl) (by exact Blk.new' (by simp)) (by exact rfl) (by simp [Value.oneCell']) (by omega) (by simp [maxLen]; omega) (by simp; omega) ?_; intro v8 w8 hown hgr; have hty := own_typed (hown0.alloc (.cells #[.int .i64 (d.last + 1), .int .i64 id, .int .i64 fr, .int .i64 til, .string au, .string tx, .bool false, .bool false] 78)); have hlt := own_lt (hown0.alloc (.cells #[.int .i64 (d.last + 1), .int .i64 id, .int .i64 fr, .int .i64 til, .string au, .string tx, .bool false, .bool false] 78)); have HB8 := Lib.hid ((HB7.out.alloc (.cells #[.int .i64 (d.last + 1), .int .i64 id, .int .i64 fr, .int .i64 til, .string au, .string tx, .bool false, .bool false] 78)).kb (KB.grown hgr hty (by decide))); have HZ8 := Lib.hid ((HZ7.out.alloc (.cells #[.int .i64 (d.last + 1), .int .i64 id, .int .i64 fr, .int .i64 til, .string au, .string tx, .bool false, .bool false] 78)).kb (KB.grown hgr hty (by decide))); have HX8 := Lib.hid ((HX7.out.alloc (.cells #[.int .i64 (d.last + 1), .int .i64 id, .int .i64 fr, .int .i64 til, .string au, .string tx, .bool false, .bool false] 78)).grown hgr hlt); have HO8 := Lib.hid hown; have HR8 := Lib.hid (own_kb (own_ext HO7.out.regs ((Ext.refl W7).alloc (.cells #[.int .i64 (d.last + 1), .int .i64 id, .int .i64 fr, .int .i64 til, .string au, .string tx, .bool false, .bool false] 78))) (KB.grown hgr hty (by decide))); have HE8 := Lib.hid ((HO7.out.evs.ext ((Ext.refl W7).alloc (.cells #[.int .i64 (d.last + 1), .int .i64 id, .int .i64 fr, .int .i64 til, .string au, .string tx, .bool false, .bool false] 78))).kb (KB.grown hgr hty (by decide)) (KB.grown hgr hty (by decide)) (KB.grown hgr hty (by decide))); obtain ⟨A8, c8, rfl⟩ := own_isSlice hown; have hs8 := fun u => setCell_put HB8.out 7 u; have hc8 := HB8.out.cell 7; have hf8 := HB8.out.frozen 7; simp at hs8 hc8; clear hown hgr hty hlt)
    clear hs8 hc8 hf8 hc7 hown0
    obtain ⟨W9, hW9⟩ : ∃ W9, W9 = putB w8 gO 27 #[.string d.title, .string d.lang, .int .u8 d.rate, .bool d.drop, .int .i64 (d.last + 1), .slice ra rn rc, .slice ea en' ec, .slice A8 (cn + 1) c8] := ⟨_, rfl⟩
    rw [← hW9]
    have HB9 : Hid (Blk W9 gO 27 #[.string d.title, .string d.lang, .int .u8 d.rate, .bool d.drop, .int .i64 (d.last + 1), .slice ra rn rc, .slice ea en' ec, .slice A8 (cn + 1) c8]) := by show Blk _ _ _ _; rw [hW9]; exact HB8.out.put _
    have HZ9 : Hid (Blk W9 (w.heap.size + 1) 27 #[.string ⟨#[]⟩, .string ⟨#[]⟩, .int .u8 0, .bool false, .int .i64 0, .slice none 0 0, .slice none 0 0, .slice none 0 0]) := by show Blk _ _ _ _; rw [hW9]; exact HZ8.out.put_other (by omega) _
    have HX9 : Hid (Ext w W9) := by show Ext _ _; rw [hW9]; exact HX8.out.put hgle _ _
    have HO9 : Hid (DocOwn W9 w.heap.size (d.addD id fr til au tx) ⟨ra, rn, rc, ea, en', ec, A8, cn + 1, c8⟩) := by
      show DocOwn _ _ _ _
      rw [hW9]
      refine DocOwn.mk (own_kb HR8.out (KB.put HB8.out (by decide))) HO7.out.rlen (HE8.out.kb (KB.put HB8.out (by decide)) (KB.put HB8.out (by decide)) (KB.put HB8.out (by decide))) ?_ ?_
      · have := own_kb HO8.out (KB.put HB8.out (cs' := #[.string d.title, .string d.lang, .int .u8 d.rate, .bool d.drop, .int .i64 (d.last + 1), .slice ra rn rc, .slice ea en' ec, .slice A8 (cn + 1) c8]) (by decide))
        show World.ownsRow _ _ _ _ _ _ ((d.coms ++ [_]).flatMap Com.vals)
        rw [List.flatMap_append]
        simpa [Com.vals] using this
      · show (d.coms ++ [_]).length = cn + 1
        have := HO7.out.clen
        dsimp only at this
        simp; omega
    clear hW9 HB7 HZ7 HX7 HO7 HB8 HZ8 HX8 HO8 HR8 HE8
    refine wp_region_links [some 98, some 99, some 100, none, some 13, some 14] [[], [], [1], [0, 0], [2, 3, 0, 1, 2, 3], [4, 0, 1, 2, 3, 4]] [3] [.agg #[.string d.title, .string d.lang, .int .u8 d.rate, .bool d.drop, .int .i64 (d.last + 1), .slice ra rn rc, .slice ea en' ec, .slice A8 (cn + 1) c8], .pointer (some ⟨gO, 4, none⟩), .int .i64 (d.last + 1), undef, .int .i64 (d.last + 1), .int .i64 0] (RdJ (w.heap.size + 1) #[.string d.title, .string d.lang, .int .u8 d.rate, .bool d.drop, .int .i64 (d.last + 1), .slice ra rn rc, .slice ea en' ec, .slice A8 (cn + 1) c8] W9) (by kernel_rfl) (by kernel_rfl) (by kernel_rfl) (by kernel_rfl) (by kernel_rfl) (by kernel_rfl) (by kernel_rfl) (by decide) ?_ ?_ ?_ ?_
    · exact RdJ.start _ _ W9
    · intro i o ho hc a w' us K' hJ hF hlim hk
      match i, ho with
      | 0, ho =>
        simp only [List.getElem?_toArray, List.getElem?_cons_zero, List.getElem?_cons_succ, Option.some.injEq] at ho
        subst ho
        have e18 := hF.old 18 (.pointer (some ⟨gO, 0, none⟩)) rfl rfl
        exact wp_loadBk 27 (.tmp 18) rfl _ 27 _ _ e18 (hJ.blk HB9.out hgne) Tryz.underlying27 rfl (by exact size_docI) hk
      | 1, ho =>
        simp only [List.getElem?_toArray, List.getElem?_cons_zero, List.getElem?_cons_succ, Option.some.injEq] at ho
        subst ho
        have e18 := hF.old 18 (.pointer (some ⟨gO, 0, none⟩)) rfl rfl
        simp only [Act.eval] at e18
        clear hF hlim hJ
        go_simp
        exact hk
      | 2, ho =>
        simp only [List.getElem?_toArray, List.getElem?_cons_zero, List.getElem?_cons_succ, Option.some.injEq] at ho
        subst ho
        have e99 := hF.pure 1 99 (.pointer (some ⟨gO, 4, none⟩)) rfl rfl rfl rfl
        have hcl : w'.cell? ⟨gO, 4, none⟩ = some (.int .i64 (d.last + 1)) := (hJ.blk HB9.out hgne).cell 4
        simp only [Act.eval] at e99
        clear hF hlim hJ
        go_simp
        exact hk
      | 3, ho => simp at hc
      | 4, ho =>
        simp only [List.getElem?_toArray, List.getElem?_cons_zero, List.getElem?_cons_succ, Option.some.injEq] at ho
        subst ho
        have e100 := hF.pure 2 100 (.int .i64 (d.last + 1)) rfl rfl rfl rfl
        simp only [Act.eval] at e100
        clear hF hlim hJ
        go_simp
        exact hk
      | 5, ho =>
        simp only [List.getElem?_toArray, List.getElem?_cons_zero, List.getElem?_cons_succ, Option.some.injEq] at ho
        subst ho
        clear hF hlim hJ
        go_simp
        exact hk
      | i + 6, ho => simp at ho
    · intro p c' o hp ho a w' us K' hl hJ hF hk
      match p, hp with
      | 0, hp =>
        obtain rfl : 3 = c' := by simpa using hp
        simp only [List.getElem?_toArray, List.getElem?_cons_zero, List.getElem?_cons_succ, Option.some.injEq] at ho
        subst ho
        obtain rfl : us = [] := List.eq_nil_of_length_eq_zero hl
        have e12 := hF.old 12 (.pointer (some ⟨w.heap.size + 1, 0, none⟩)) rfl rfl
        have e98 := hF.pure 0 98 (.agg #[.string d.title, .string d.lang, .int .u8 d.rate, .bool d.drop, .int .i64 (d.last + 1), .slice ra rn rc, .slice ea en' ec, .slice A8 (cn + 1) c8]) rfl rfl rfl rfl
        exact wp_storeB 27 (.tmp 12) (.tmp 98) rfl (w.heap.size + 1) 27 _ _ e12 e98 (by exact size_docI) (by simp [Value.oneCell']) (hJ.blk_nil HZ9.out) rfl (hk undef _ hJ.store)
      | p + 1, hp => simp at hp
    intro us w10 hl hJ
    obtain ⟨u0, rfl⟩ := list_1 hl
    first | (rename_i hK; refine hK _ _ ?_; clear hK) | (rename_i hK hK_1; refine hK _ _ ?_; clear hK) | (rename_i hK hK_1 hK_2; refine hK _ _ ?_; clear hK) | (rename_i hK hK_1 hK_2 hK_3; refine hK _ _ ?_; clear hK)
    generalize hL : frameL _ _ _ _ = L
    obtain rfl : L = [(98, .agg #[.string d.title, .string d.lang, .int .u8 d.rate, .bool d.drop, .int .i64 (d.last + 1), .slice ra rn rc, .slice ea en' ec, .slice A8 (cn + 1) c8]), (99, .pointer (some ⟨gO, 4, none⟩)), (100, .int .i64 (d.last + 1)), (13, .int .i64 (d.last + 1)), (14, .int .i64 0)] := hL.symm.trans (by kernel_rfl)
    clear hL hl
    simp only [Act.put, List.foldl_cons, List.foldl_nil, List.setIfInBounds_toArray, List.set_cons_zero, List.set_cons_succ]
    obtain ⟨w11, hx11, rfl⟩ := hJ.one
    go_wp2_with fail
    have hD : d.added id fr til au tx = d.addD id fr til au tx := by unfold Doc.added; rw [if_pos HOk.out]
    have hI : d.addId id fr til au tx = d.last + 1 := by unfold Doc.addId; rw [if_pos HOk.out]
    refine bodyPost_ret (v := .tuple #[.agg #[.string d.title, .string d.lang, .int .u8 d.rate, .bool d.drop, .int .i64 (d.last + 1), .slice ra rn rc, .slice ea en' ec, .slice A8 (cn + 1) c8], .int .i64 (d.last + 1), .int .i64 0]) ?_ rfl ⟨⟨ra, rn, rc, ea, en', ec, A8, cn + 1, c8⟩, ?_, ?_, ?_⟩
    · exact results_B_tmp2 (P := Tryz.prog) Tryz.results13 (g := w.heap.size + 1) rfl (by exact (HZ9.out.ext hx11).put _) Tryz.underlying27 rfl size_docI
    · rw [hD, hI, HOk.out]; rfl
    · rw [hD]; exact (HO9.out.ext hx11).put (HZ9.out.ext hx11) _
    · exact (HX9.out.trans hx11).put (by omega) _ _
end Go.Proofs.YtagfedbdakmlgaaGreatDoor

/-! HeadD -/
namespace Go.Proofs.YtagfedbdakmlgaaGreatDoor
set_option linter.unusedVariables false
set_option linter.unusedSimpArgs false
open Go.RowKit

def Doc.head (d : Doc) : Value := .agg #[.string d.title, .string d.lang, .int .u8 d.rate, .bool d.drop, .int .i64 d.last]
set_option maxRecDepth 100000 in
set_option maxHeartbeats 1000000 in
theorem DHead_any (d : Doc) (h : DocH) (w : World) : Calls Tryz.prog 36 #[.agg (d.cells h)] w fun e w' => e = .returned d.head ∧ Ext w w' := by
  have HX := Lib.hid (((Ext.refl w).alloc (.cells (d.cells h) 27)))
  unfold Doc.cells at *
  go_enter Tryz.func36, Tryz.ntmps36
  go_wp2
  exact bodyPost_ret (v := d.head) (by simp [results, Tryz.results36, go_sem, Doc.head]) rfl ⟨rfl, HX.out.alloc _⟩
end Go.Proofs.YtagfedbdakmlgaaGreatDoor

/-! Same -/
namespace Go.Proofs.YtagfedbdakmlgaaGreatDoor
set_option linter.unusedVariables false
set_option linter.unusedSimpArgs false
open Go.RowKit

theorem neq_run (a b : Run) (w : World) : (binOp .neq 84 a.val b.val).run Tryz.prog w = .ok (.bool (!decide (a = b))) w := by
  obtain ⟨t1, c1, i1, u1, r1⟩ := a
  obtain ⟨t2, c2, i2, u2, r2⟩ := b
  unfold Run.val
  dsimp only
  go_simp
  simp only [toList_inj]
  repeat' split
  all_goals simp_all
theorem neq_run_yes (a b : Run) (h : ¬ a = b) (w : World) : (binOp .neq 84 a.val b.val).run Tryz.prog w = .ok (.bool true) w := by rw [neq_run, decide_eq_false h]; rfl
theorem neq_run_no (a : Run) (w : World) : (binOp .neq 84 a.val a.val).run Tryz.prog w = .ok (.bool false) w := by rw [neq_run, decide_eq_true rfl]; rfl

def EqRel {α : Type} (w : World) (n : Nat) (l1 l2 : List α) (i : Value) (wr : World) : Prop := ∃ k : Nat, k ≤ n ∧ i = .int .i64 k ∧ Ext w wr ∧ l1.take k = l2.take k
theorem eq_of_take {α : Type} {l1 l2 : List α} {n : Nat} (h1 : l1.length = n) (h2 : l2.length = n) (h : l1.take n = l2.take n) : l1 = l2 := by
  rw [List.take_of_length_le (by omega), List.take_of_length_le (by omega)] at h
  exact h
theorem take_eq_succ {α : Type} {l1 l2 : List α} {k : Nat} {x : α} (h : l1.take k = l2.take k) (h1 : l1[k]? = some x) (h2 : l2[k]? = some x) : l1.take (k + 1) = l2.take (k + 1) := by
  rw [List.take_add_one, List.take_add_one, h, h1, h2]
theorem ne_at {α : Type} {l1 l2 : List α} {k : Nat} {x y : α} (h1 : l1[k]? = some x) (h2 : l2[k]? = some y) (h : ¬ x = y) : ¬ l1 = l2 := by
  rintro rfl
  rw [h1] at h2
  exact h (Option.some.inj h2)

set_option maxRecDepth 100000 in
set_option maxHeartbeats 2000000 in
theorem EqualRuns_any (A : Option Addr) (n c : Nat) (B : Option Addr) (m d : Nat) (l1 l2 : Row) (w : World) (h1 : RunsAt w A n l1) (h2 : RunsAt w B m l2) (hn : n ≤ 4611686018427387904) :
    Calls Tryz.prog 206 #[.slice A n c, .slice B m d] w fun e w' => e = .returned (.bool (decide (l1 = l2))) ∧ Ext w w' := by
  have L1 := Lib.hid h1.len
  have L2 := Lib.hid h2.len
  have H1 := Lib.hid h1
  have H2 := Lib.hid h2
  clear h1 h2
  by_cases hnm : n = m
  · subst hnm
    go_enter Tryz.func206, Tryz.ntmps206
    go_wp2_with fail
    go_loopw [13] (fun i wr => EqRel w n l1 l2 i wr) (fun i _ => n - (intOf i).toNat)
    case atStart => exact ⟨0, Nat.zero_le _, rfl, Ext.refl _, rfl⟩
    case round =>
      obtain ⟨k, hk, rfl, hx, hp⟩ := hrel
      have HP := Lib.hid hp
      clear hp
      by_cases hlt : k < n
      · obtain ⟨b1, o1, r, rfl, hr, c0, c1, c2, c3, c4⟩ := (H1.out.ext hx).at_ hlt
        obtain ⟨b2, o2, s, rfl, hs, d0, d1, d2, d3, d4⟩ := (H2.out.ext hx).at_ hlt
        have HR := Lib.hid hr
        have HS := Lib.hid hs
        clear hr hs
        have hk0 : (0 : Int) ≤ (k : Int) := by omega
        have hk1 : (k : Int) < (n : Int) := by omega
        by_cases hq : r = s
        · subst hq
          have HT := Lib.hid (take_eq_succ HP.out HR.out HS.out)
          have hne := fun w => neq_run_no r w
          unfold Run.val at hne
          go_wp2_with fail
          go_quiet (fail)
          go_wp2_with fail
          exact ⟨⟨k + 1, by omega, by go_num, hx.drewN _, HT.out⟩, by simp [intOf]; omega⟩
        · have hne := fun w => neq_run_yes r s hq w
          have HN := Lib.hid (ne_at HR.out HS.out hq)
          unfold Run.val at hne
          clear hq
          go_wp2_with fail
          go_quiet (fail)
          go_wp2_with fail
          go_ret
          exact ⟨ret_bool (decide_eq_false HN.out).symm, hx.drewN _⟩
      · have hkn : k = n := by omega
        subst hkn
        have HQ := Lib.hid (eq_of_take L1.out L2.out HP.out)
        go_wp2_with fail
        go_ret
        exact ⟨ret_bool (decide_eq_true HQ.out).symm, hx⟩
  · have hb : ((n : Int) != (m : Int)) = true := by simp; omega
    have HN : Hid (¬ l1 = l2) := by
      show ¬ _
      intro h
      apply hnm
      rw [← L1.out, ← L2.out, h]
    go_enter Tryz.func206, Tryz.ntmps206
    go_wp2_with fail
    go_ret
    exact ⟨ret_bool (decide_eq_false HN.out).symm, Ext.refl _⟩

set_option maxHeartbeats 1000000 in
theorem SSame_any (A : Option Addr) (n c : Nat) (B : Option Addr) (m d : Nat) (l1 l2 : Row) (w : World) (h1 : RunsAt w A n l1) (h2 : RunsAt w B m l2) (hn : n ≤ 4611686018427387904) :
    Calls Tryz.prog 176 #[.agg #[.slice A n c], .agg #[.slice B m d]] w fun e w' => e = .returned (.bool (decide (l1 = l2))) ∧ Ext w w' := by
  have H1 := Lib.hid h1
  have H2 := Lib.hid h2
  clear h1 h2
  have hx := ((Ext.refl w).alloc (.cells #[.slice A n c] 87)).alloc (.cells #[.slice B m d] 87)
  have HX := Lib.hid hx
  clear hx
  go_enter Tryz.func176, Tryz.ntmps176
  go_wp2_with fail
  refine (EqualRuns_any A n c B m d l1 l2 _ (H1.out.ext HX.out) (H2.out.ext HX.out) hn).mono ?_
  rintro e w1 ⟨rfl, hx1⟩
  go_wp2_with fail
  go_ret
  exact ⟨rfl, HX.out.trans hx1⟩

set_option maxRecDepth 100000 in
set_option maxHeartbeats 2000000 in
theorem EqualFunc_any (A : Option Addr) (n c : Nat) (B : Option Addr) (m d : Nat) (l1 l2 : List Row) (w : World) (h1 : RowsAt w A n l1) (h2 : RowsAt w B m l2) (hn : n ≤ 4611686018427387904) :
    Calls Tryz.prog 175 #[.slice A n c, .slice B m d, .func (.func 176) #[] #[]] w fun e w' => e = .returned (.bool (decide (l1 = l2))) ∧ Ext w w' := by
  have L1 := Lib.hid h1.len
  have L2 := Lib.hid h2.len
  have H1 := Lib.hid h1
  have H2 := Lib.hid h2
  clear h1 h2
  by_cases hnm : n = m
  · subst hnm
    go_enter Tryz.func175, Tryz.ntmps175
    go_wp2_with fail
    go_loopw [17] (fun i wr => EqRel w n l1 l2 i wr) (fun i _ => n - (intOf i).toNat)
    case atStart => exact ⟨0, Nat.zero_le _, rfl, Ext.refl _, rfl⟩
    case round =>
      obtain ⟨k, hk, rfl, hx, hp⟩ := hrel
      have HP := Lib.hid hp
      clear hp
      by_cases hlt : k < n
      · obtain ⟨b1, o1, r, rfl, hr, A1, n1, c1, e1, f1, g1, u1⟩ := (H1.out.ext hx).at_ hlt
        obtain ⟨b2, o2, s, rfl, hs, A2, n2, c2, e2, f2, g2, u2⟩ := (H2.out.ext hx).at_ hlt
        simp only [Nat.mul_one] at e1 e2
        have U1 := Lib.hid u1
        have U2 := Lib.hid u2
        have HR := Lib.hid hr
        have HS := Lib.hid hs
        clear hr hs u1 u2
        have hb2 : b2 < wr.heap.size := World.block_lt_of_cell? wr _ e2
        have hxa := ((Ext.refl wr).alloc (.cells #[.slice A1 n1 c1] 87)).alloc (.cells #[.slice A2 n2 c2] 87)
        have HX := Lib.hid hxa
        clear hxa
        go_wp2_with fail
        refine (SSame_any A1 n1 c1 A2 n2 c2 r s _ (U1.out.ext HX.out) (U2.out.ext HX.out) (by omega)).mono ?_
        rintro e w1 ⟨rfl, hx1⟩
        have hxw1 : Ext w w1 := (hx.trans HX.out).trans hx1
        by_cases hq : r = s
        · subst hq
          have HT := Lib.hid (take_eq_succ HP.out HR.out HS.out)
          rw [decide_eq_true rfl]
          go_wp2_with fail
          exact ⟨⟨k + 1, by omega, by go_num, hxw1, HT.out⟩, by simp [intOf]; omega⟩
        · have HN := Lib.hid (ne_at HR.out HS.out hq)
          rw [decide_eq_false hq]
          clear hq
          go_wp2_with fail
          go_ret
          exact ⟨ret_bool (decide_eq_false HN.out).symm, hxw1⟩
      · have hkn : k = n := by omega
        subst hkn
        have HQ := Lib.hid (eq_of_take L1.out L2.out HP.out)
        go_wp2_with fail
        go_ret
        exact ⟨ret_bool (decide_eq_true HQ.out).symm, hx⟩
  · have hb : ((n : Int) != (m : Int)) = true := by simp; omega
    have HN : Hid (¬ l1 = l2) := by
      show ¬ _
      intro h
      apply hnm
      rw [← L1.out, ← L2.out, h]
    go_enter Tryz.func175, Tryz.ntmps175
    go_wp2_with fail
    go_ret
    exact ⟨ret_bool (decide_eq_false HN.out).symm, Ext.refl _⟩

theorem SameRows_any (A : Option Addr) (n c : Nat) (B : Option Addr) (m d : Nat) (l1 l2 : List Row) (w : World) (h1 : RowsAt w A n l1) (h2 : RowsAt w B m l2) (hn : n ≤ 4611686018427387904) :
    Calls Tryz.prog 134 #[.slice A n c, .slice B m d] w fun e w' => e = .returned (.bool (decide (l1 = l2))) ∧ Ext w w' := by
  have H1 := Lib.hid h1
  have H2 := Lib.hid h2
  clear h1 h2
  go_enter Tryz.func134, Tryz.ntmps134
  go_wp2_with fail
  refine (EqualFunc_any A n c B m d l1 l2 _ H1.out H2.out hn).mono ?_
  rintro e w1 ⟨rfl, hx1⟩
  go_wp2_with fail
  go_ret
  exact ⟨rfl, hx1⟩

set_option maxRecDepth 100000 in
set_option maxHeartbeats 2000000 in
theorem RSame_any (A : Option Addr) (n c : Nat) (B : Option Addr) (m d : Nat) (l1 l2 : Row) (w : World) (h1 : RunsAt w A n l1) (h2 : RunsAt w B m l2) (hn : n ≤ 4611686018427387904) :
    Calls Tryz.prog 154 #[.agg #[.slice A n c], .agg #[.slice B m d]] w fun e w' => e = .returned (.bool (decide (l1 = l2))) ∧ Ext w w' := by
  have L1 := Lib.hid h1.len
  have L2 := Lib.hid h2.len
  have H1 := Lib.hid h1
  have H2 := Lib.hid h2
  clear h1 h2
  have hx0 := ((Ext.refl w).alloc (.cells #[.slice A n c] 87)).alloc (.cells #[.slice B m d] 87)
  have HX0 := Lib.hid hx0
  clear hx0
  by_cases hnm : n = m
  · subst hnm
    go_enter Tryz.func154, Tryz.ntmps154
    go_wp2_with fail
    go_loopw [16] (fun i wr => EqRel ((w.alloc (.cells #[.slice A n c] 87)).alloc (.cells #[.slice B n d] 87)) n l1 l2 i wr) (fun i _ => n - (intOf i).toNat)
    case atStart => exact ⟨0, Nat.zero_le _, rfl, Ext.refl _, rfl⟩
    case round =>
      obtain ⟨k, hk, rfl, hx, hp⟩ := hrel
      have HP := Lib.hid hp
      clear hp
      have hxw : Ext w wr := HX0.out.trans hx
      have hca := (((Blk.new w _ _).alloc _).ext hx).cell 0
      have hcb := ((Blk.new' (g := w.heap.size + 1) (w := w.alloc _) (by simp)).ext hx).cell 0
      simp at hca hcb
      by_cases hlt : k < n
      · obtain ⟨b1, o1, r, rfl, hr, c0, c1, c2, c3, c4⟩ := (H1.out.ext hxw).at_ hlt
        obtain ⟨b2, o2, s, rfl, hs, d0, d1, d2, d3, d4⟩ := (H2.out.ext hxw).at_ hlt
        have HR := Lib.hid hr
        have HS := Lib.hid hs
        clear hr hs
        have hk0 : (0 : Int) ≤ (k : Int) := by omega
        have hk1 : (k : Int) < (n : Int) := by omega
        by_cases hq : r = s
        · subst hq
          have HT := Lib.hid (take_eq_succ HP.out HR.out HS.out)
          have hne := fun w => neq_run_no r w
          unfold Run.val at hne
          go_wp2_with fail
          go_quiet (fail)
          go_wp2_with fail
          exact ⟨⟨k + 1, by omega, by go_num, hx.drewN _, HT.out⟩, by simp [intOf]; omega⟩
        · have hne := fun w => neq_run_yes r s hq w
          have HN := Lib.hid (ne_at HR.out HS.out hq)
          unfold Run.val at hne
          clear hq
          go_wp2_with fail
          go_quiet (fail)
          go_wp2_with fail
          go_ret
          exact ⟨ret_bool (decide_eq_false HN.out).symm, hxw.drewN _⟩
      · have hkn : k = n := by omega
        subst hkn
        have HQ := Lib.hid (eq_of_take L1.out L2.out HP.out)
        go_wp2_with fail
        go_ret
        exact ⟨ret_bool (decide_eq_true HQ.out).symm, hxw⟩
  · have hb : ((n : Int) != (m : Int)) = true := by simp; omega
    have HN : Hid (¬ l1 = l2) := by
      show ¬ _
      intro h
      apply hnm
      rw [← L1.out, ← L2.out, h]
    go_enter Tryz.func154, Tryz.ntmps154
    go_wp2_with fail
    go_ret
    exact ⟨ret_bool (decide_eq_false HN.out).symm, HX0.out⟩

set_option maxRecDepth 100000 in
set_option maxHeartbeats 2000000 in
theorem RSameRows_any (A : Option Addr) (n c : Nat) (B : Option Addr) (m d : Nat) (l1 l2 : List Row) (w : World) (h1 : RowsAt w A n l1) (h2 : RowsAt w B m l2) (hn : n ≤ 4611686018427387904) :
    Calls Tryz.prog 110 #[.slice A n c, .slice B m d] w fun e w' => e = .returned (.bool (decide (l1 = l2))) ∧ Ext w w' := by
  have L1 := Lib.hid h1.len
  have L2 := Lib.hid h2.len
  have H1 := Lib.hid h1
  have H2 := Lib.hid h2
  clear h1 h2
  by_cases hnm : n = m
  · subst hnm
    go_enter Tryz.func110, Tryz.ntmps110
    go_wp2_with fail
    go_loopw [13] (fun i wr => EqRel w n l1 l2 i wr) (fun i _ => n - (intOf i).toNat)
    case atStart => exact ⟨0, Nat.zero_le _, rfl, Ext.refl _, rfl⟩
    case round =>
      obtain ⟨k, hk, rfl, hx, hp⟩ := hrel
      have HP := Lib.hid hp
      clear hp
      by_cases hlt : k < n
      · obtain ⟨b1, o1, r, rfl, hr, A1, n1, c1, e1, f1, g1, u1⟩ := (H1.out.ext hx).at_ hlt
        obtain ⟨b2, o2, s, rfl, hs, A2, n2, c2, e2, f2, g2, u2⟩ := (H2.out.ext hx).at_ hlt
        simp only [Nat.mul_one] at e1 e2
        have U1 := Lib.hid u1
        have U2 := Lib.hid u2
        have HR := Lib.hid hr
        have HS := Lib.hid hs
        clear hr hs u1 u2
        have hk0 : (0 : Int) ≤ (k : Int) := by omega
        have hk1 : (k : Int) < (n : Int) := by omega
        go_wp2_with fail
        go_region_held3 (fun w' => w'.cell? ⟨b1, o1 + k, none⟩ = some (.slice A1 n1 c1) ∧ w'.cell? ⟨b2, o2 + k, none⟩ = some (.slice A2 n2 c2)) (first | go_keep | (go_split_ands; refine ⟨?_, ?_⟩ <;> (apply hx1.cell; assumption))) (first | (go_at_call 154; refine (RSame_any A1 n1 c1 A2 n2 c2 r s _ (U1.out.ext (by exact (Ext.refl wr).drew)) (U2.out.ext (by exact (Ext.refl wr).drew)) (by omega)).mono ?_; rintro e w1 ⟨rfl, hx1⟩))
        have hxw1 : Ext w w1 := hx.drew.trans hx1
        by_cases hq : r = s
        · subst hq
          have HT := Lib.hid (take_eq_succ HP.out HR.out HS.out)
          rw [decide_eq_true rfl]
          go_wp2_with fail
          exact ⟨⟨k + 1, by omega, by go_num, hxw1, HT.out⟩, by simp [intOf]; omega⟩
        · have HN := Lib.hid (ne_at HR.out HS.out hq)
          rw [decide_eq_false hq]
          clear hq
          go_wp2_with fail
          go_ret
          exact ⟨ret_bool (decide_eq_false HN.out).symm, hxw1⟩
      · have hkn : k = n := by omega
        subst hkn
        have HQ := Lib.hid (eq_of_take L1.out L2.out HP.out)
        go_wp2_with fail
        go_ret
        exact ⟨ret_bool (decide_eq_true HQ.out).symm, hx⟩
  · have hb : ((n : Int) != (m : Int)) = true := by simp; omega
    have HN : Hid (¬ l1 = l2) := by
      show ¬ _
      intro h
      apply hnm
      rw [← L1.out, ← L2.out, h]
    go_enter Tryz.func110, Tryz.ntmps110
    go_wp2_with fail
    go_ret
    exact ⟨ret_bool (decide_eq_false HN.out).symm, Ext.refl _⟩
end Go.Proofs.YtagfedbdakmlgaaGreatDoor

/-! EqualD -/
namespace Go.Proofs.YtagfedbdakmlgaaGreatDoor
set_option linter.unusedVariables false
set_option linter.unusedSimpArgs false
open Go.RowKit

theorem neq_reg (a b : Reg) (w : World) : (binOp .neq 94 a.val b.val).run Tryz.prog w = .ok (.bool (!decide (a = b))) w := by
  obtain ⟨nm, top, hgt, lft, wid, al, bot⟩ := a
  obtain ⟨nm', top', hgt', lft', wid', al', bot'⟩ := b
  unfold Reg.val
  dsimp only
  go_simp
  simp only [toList_inj]
  repeat' split
  all_goals simp_all
theorem neq_reg_yes (a b : Reg) (h : ¬ a = b) (w : World) : (binOp .neq 94 a.val b.val).run Tryz.prog w = .ok (.bool true) w := by rw [neq_reg, decide_eq_false h]; rfl
theorem neq_reg_no (a : Reg) (w : World) : (binOp .neq 94 a.val a.val).run Tryz.prog w = .ok (.bool false) w := by rw [neq_reg, decide_eq_true rfl]; rfl

set_option maxRecDepth 100000 in
set_option maxHeartbeats 2000000 in
theorem EqualRegs_any (A : Option Addr) (n c : Nat) (B : Option Addr) (m d : Nat) (l1 l2 : List Reg) (w : World) (h1 : RegsAt w A n l1) (h2 : RegsAt w B m l2) (hn : n ≤ 4611686018427387904) :
    Calls Tryz.prog 79 #[.slice A n c, .slice B m d] w fun e w' => e = .returned (.bool (decide (l1 = l2))) ∧ Ext w w' := by
  have L1 := Lib.hid h1.len
  have L2 := Lib.hid h2.len
  have H1 := Lib.hid h1
  have H2 := Lib.hid h2
  clear h1 h2
  by_cases hnm : n = m
  · subst hnm
    go_enter Tryz.func79, Tryz.ntmps79
    go_wp2_with fail
    go_loopw [13] (fun i wr => EqRel w n l1 l2 i wr) (fun i _ => n - (intOf i).toNat)
    case atStart => exact ⟨0, Nat.zero_le _, rfl, Ext.refl _, rfl⟩
    case round =>
      obtain ⟨k, hk, rfl, hx, hp⟩ := hrel
      have HP := Lib.hid hp
      clear hp
      by_cases hlt : k < n
      · obtain ⟨b1, o1, r, rfl, hr, c0, c1, c2, c3, c4, c5, c6⟩ := (H1.out.ext hx).at_ hlt
        obtain ⟨b2, o2, s, rfl, hs, d0, d1, d2, d3, d4, d5, d6⟩ := (H2.out.ext hx).at_ hlt
        have HR := Lib.hid hr
        have HS := Lib.hid hs
        clear hr hs
        have hk0 : (0 : Int) ≤ (k : Int) := by omega
        have hk1 : (k : Int) < (n : Int) := by omega
        by_cases hq : r = s
        · subst hq
          have HT := Lib.hid (take_eq_succ HP.out HR.out HS.out)
          have hne := fun w => neq_reg_no r w
          unfold Reg.val at hne
          go_wp2_with fail
          go_quiet (fail)
          go_wp2_with fail
          exact ⟨⟨k + 1, by omega, by go_num, hx.drewN _, HT.out⟩, by simp [intOf]; omega⟩
        · have hne := fun w => neq_reg_yes r s hq w
          have HN := Lib.hid (ne_at HR.out HS.out hq)
          unfold Reg.val at hne
          clear hq
          go_wp2_with fail
          go_quiet (fail)
          go_wp2_with fail
          go_ret
          exact ⟨ret_bool (decide_eq_false HN.out).symm, hx.drewN _⟩
      · have hkn : k = n := by omega
        subst hkn
        have HQ := Lib.hid (eq_of_take L1.out L2.out HP.out)
        go_wp2_with fail
        go_ret
        exact ⟨ret_bool (decide_eq_true HQ.out).symm, hx⟩
  · have hb : ((n : Int) != (m : Int)) = true := by simp; omega
    have HN : Hid (¬ l1 = l2) := by
      show ¬ _
      intro h
      apply hnm
      rw [← L1.out, ← L2.out, h]
    go_enter Tryz.func79, Tryz.ntmps79
    go_wp2_with fail
    go_ret
    exact ⟨ret_bool (decide_eq_false HN.out).symm, Ext.refl _⟩

end Go.Proofs.YtagfedbdakmlgaaGreatDoor

/-! EqualC -/
namespace Go.Proofs.YtagfedbdakmlgaaGreatDoor
set_option linter.unusedVariables false
set_option linter.unusedSimpArgs false
open Go.RowKit

def Com.aggV (c : Com) : Value := .agg #[.int .i64 c.id, .int .i64 c.ev, .int .i64 c.fr, .int .i64 c.til, .string c.author, .string c.text, .bool c.done, .bool c.lost]
theorem neq_com (a b : Com) (w : World) : (binOp .neq 78 a.aggV b.aggV).run Tryz.prog w = .ok (.bool (!decide (a = b))) w := by
  obtain ⟨id, ev, fr, tl, au, tx, dn, lo⟩ := a
  obtain ⟨id', ev', fr', tl', au', tx', dn', lo'⟩ := b
  unfold Com.aggV
  dsimp only
  go_simp
  simp only [toList_inj]
  repeat' split
  all_goals simp_all
theorem neq_com_yes (a b : Com) (h : ¬ a = b) (w : World) : (binOp .neq 78 a.aggV b.aggV).run Tryz.prog w = .ok (.bool true) w := by rw [neq_com, decide_eq_false h]; rfl
theorem neq_com_no (a : Com) (w : World) : (binOp .neq 78 a.aggV a.aggV).run Tryz.prog w = .ok (.bool false) w := by rw [neq_com, decide_eq_true rfl]; rfl

set_option maxRecDepth 100000 in
set_option maxHeartbeats 2000000 in
theorem EqualComs_any (A : Option Addr) (n c : Nat) (B : Option Addr) (m d : Nat) (l1 l2 : List Com) (w : World) (h1 : ComsAt w A n l1) (h2 : ComsAt w B m l2) (hn : n ≤ 4611686018427387904) :
    Calls Tryz.prog 82 #[.slice A n c, .slice B m d] w fun e w' => e = .returned (.bool (decide (l1 = l2))) ∧ Ext w w' := by
  have L1 := Lib.hid h1.len
  have L2 := Lib.hid h2.len
  have H1 := Lib.hid h1
  have H2 := Lib.hid h2
  clear h1 h2
  by_cases hnm : n = m
  · subst hnm
    go_enter Tryz.func82, Tryz.ntmps82
    go_wp2_with fail
    go_loopw [13] (fun i wr => EqRel w n l1 l2 i wr) (fun i _ => n - (intOf i).toNat)
    case atStart => exact ⟨0, Nat.zero_le _, rfl, Ext.refl _, rfl⟩
    case round =>
      obtain ⟨k, hk, rfl, hx, hp⟩ := hrel
      have HP := Lib.hid hp
      clear hp
      by_cases hlt : k < n
      · obtain ⟨b1, o1, r, rfl, hr, c0, c1, c2, c3, c4, c5, c6, c7⟩ := (H1.out.ext hx).at8 hlt
        obtain ⟨b2, o2, s, rfl, hs, d0, d1, d2, d3, d4, d5, d6, d7⟩ := (H2.out.ext hx).at8 hlt
        have HR := Lib.hid hr
        have HS := Lib.hid hs
        clear hr hs
        have hk0 : (0 : Int) ≤ (k : Int) := by omega
        have hk1 : (k : Int) < (n : Int) := by omega
        by_cases hq : r = s
        · subst hq
          have HT := Lib.hid (take_eq_succ HP.out HR.out HS.out)
          have hne := fun w => neq_com_no r w
          unfold Com.aggV at hne
          go_wp2_with fail
          go_quiet (fail)
          go_wp2_with fail
          exact ⟨⟨k + 1, by omega, by go_num, hx.drewN _, HT.out⟩, by simp [intOf]; omega⟩
        · have hne := fun w => neq_com_yes r s hq w
          have HN := Lib.hid (ne_at HR.out HS.out hq)
          unfold Com.aggV at hne
          clear hq
          go_wp2_with fail
          go_quiet (fail)
          go_wp2_with fail
          go_ret
          exact ⟨ret_bool (decide_eq_false HN.out).symm, hx.drewN _⟩
      · have hkn : k = n := by omega
        subst hkn
        have HQ := Lib.hid (eq_of_take L1.out L2.out HP.out)
        go_wp2_with fail
        go_ret
        exact ⟨ret_bool (decide_eq_true HQ.out).symm, hx⟩
  · have hb : ((n : Int) != (m : Int)) = true := by simp; omega
    have HN : Hid (¬ l1 = l2) := by
      show ¬ _
      intro h
      apply hnm
      rw [← L1.out, ← L2.out, h]
    go_enter Tryz.func82, Tryz.ntmps82
    go_wp2_with fail
    go_ret
    exact ⟨ret_bool (decide_eq_false HN.out).symm, Ext.refl _⟩

end Go.Proofs.YtagfedbdakmlgaaGreatDoor
