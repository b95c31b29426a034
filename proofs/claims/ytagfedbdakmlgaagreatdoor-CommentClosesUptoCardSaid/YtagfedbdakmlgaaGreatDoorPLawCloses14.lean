/- The walk of the law CommentCloses. -/
import Derived.Test.YtagfedbdakmlgaaGreatDoorPk16
import Derived.Test.YtagfedbdakmlgaaGreatDoorPCloseD
import Derived.Test.YtagfedbdakmlgaaGreatDoorPCloseR
import Derived.Test.YtagfedbdakmlgaaGreatDoorPRemD
import Derived.Test.YtagfedbdakmlgaaGreatDoorPRemR
import Derived.Test.YtagfedbdakmlgaaGreatDoorPQuoteR
import Derived.Test.YtagfedbdakmlgaaGreatDoorPk21
import Derived.Test.YtagfedbdakmlgaaGreatDoorPk22
namespace Go.Proofs.YtagfedbdakmlgaaGreatDoor
set_option linter.unusedVariables false
set_option linter.unusedSimpArgs false
open Go.RowKit

theorem clX_short (d : Doc) (id : Int) : DocShort (d.clX id).1 := by
  unfold Doc.clX
  split
  · exact zero_short
  · rename_i h
    have hs := valid_short (d := d) (by simpa using h)
    split
    · exact zero_short
    · split
      · exact zero_short
      · split
        · exact zero_short
        · exact ⟨hs.1, hs.2.1, by show (d.coms.set _ _).length ≤ _; rw [List.length_set]; exact hs.2.2⟩
theorem rmX_short (d : Doc) (id : Int) : DocShort (d.rmX id).1 := by
  unfold Doc.rmX
  split
  · exact zero_short
  · rename_i h
    have hs := valid_short (d := d) (by simpa using h)
    split
    · exact zero_short
    · exact ⟨hs.1, hs.2.1, by show (d.coms.take _ ++ d.coms.drop _).length ≤ _; have := hs.2.2; rw [List.length_append, List.length_take, List.length_drop]; omega⟩
set_option maxRecDepth 100000 in
set_option maxHeartbeats 8000000 in
theorem CommentCloses_any (d : Doc) (h : DocH) (id : Int) (w : World) (hE : Env w) (hat : DocAt w d h) (hi : DocIn d h) :
    Calls Tryz.prog 5 #[.agg (d.cells h), .int .i64 id] w fun en w' => en = .returned (.bool true) ∧ Ext w w' := by
  have HX : Hid (Ext w (w.alloc (.cells (d.cells h) 27))) := (Ext.refl w).alloc _
  have HB : Hid (Blk (w.alloc (.cells (d.cells h) 27)) w.heap.size 27 (d.cells h)) := Blk.new w _ _
  have HEn := Lib.hid hE
  have HCa := Lib.hid (fun w' (hx : Ext w w') => CClose_any d h id w' (hE.ext hx) (hat.ext hx) hi.fit hi.rn hi.rc.2 hi.en hi.cn)
  have HCb := Lib.hid (fun w' (hx : Ext w w') => R14Close_any d h id w' (hE.ext hx) (hat.ext hx) hi.fit hi.rn hi.rc.2 hi.en hi.cn)
  have HRa := Lib.hid (fun w' (hx : Ext w w') => CRemove_any d h id w' (hE.ext hx) (hat.ext hx) hi.fit hi.rn hi.rc.2 hi.en hi.cn)
  have HRb := Lib.hid (fun w' (hx : Ext w w') => R14Remove_any d h id w' (hE.ext hx) (hat.ext hx) hi.fit hi.rn hi.rc.2 hi.en hi.cn)
  have HQa := Lib.hid (fun w' (hx : Ext w w') => Quoted_any d h id w' (hE.ext hx) (hat.ext hx) hi.fit hi.rn hi.en hi.cn)
  have HQb := Lib.hid (fun w' (hx : Ext w w') => R14Quoted_any d h id w' (hE.ext hx) (hat.ext hx) hi.fit hi.rn hi.en hi.cn)
  have HFa := Lib.hid (fun w' (hx : Ext w w') => CFind_any d h id w' (hat.coms.ext hx) (by have := hi.cn; omega))
  have HFb := Lib.hid (fun w' (hx : Ext w w') => R14Find_any d h id w' (hat.coms.ext hx) hi.cn)
  have HSc : Hid (DocShort (d.clX id).1) := clX_short d id
  have HSr : Hid (DocShort (d.rmX id).1) := rmX_short d id
  clear hE hat hi
  unfold DEPost at HCa HCb HRa HRb
  unfold Doc.cells at HX HB HCa HCb HRa HRb HQa HQb HFa HFb
  generalize hC1 : (d.clX id).1 = C at *
  generalize (d.clX id).2 = ce at *
  generalize hR1 : (d.rmX id).1 = R at *
  generalize (d.rmX id).2 = re at *
  generalize (d.quX id).1 = qs at *
  generalize (d.quX id).2 = qe at *
  generalize findCI d.coms id = fi at *
  clear hC1 hR1
  obtain ⟨hra, nr, hrc, hea, hen, hec, hca, nc, hcc⟩ := h
  dsimp only at *
  unfold Doc.cells
  dsimp only
  go_enter Tryz.func5, Tryz.ntmps5
  go_wp2_with fail
  refine (awake14_any _ (HEn.out.ext HX.out)).mono ?_
  rintro en w_38 ⟨rfl, hx_39⟩
  have HX_40 := Lib.hid (HX.out.trans hx_39)
  have HB_41 := Lib.hid (HB.out.ext hx_39)
  clear hx_39 HX HB
  go_wp2_with (refine wpList_loadB rfl 27 (.tmp 2) rfl (w.heap.size) 27 _ _ (by exact rfl) (by exact HB_41.out) Tryz.underlying27 rfl (by exact size_docI) ?_)
  refine (HCa.out _ HX_40.out).mono ?_
  rintro en w_42 ⟨⟨ra5, rn5, rc5, ea5, en5, ec5, ca5, cn5, cc5⟩, rfl, ho5, hx_43⟩
  dsimp only
  have HO5 := Lib.hid ho5
  have HS5 := Lib.hid (ho5.short HSc.out)
  clear ho5
  have HX_44 := Lib.hid (HX_40.out.trans hx_43)
  have HB_45 := Lib.hid (HB_41.out.ext hx_43)
  clear hx_43 HX_40 HB_41
  have hl5 := HB_45.out.lt
  have HB_46 := Lib.hid (Blk.new w_42 27 #[.string C.title, .string C.lang, .int .u8 C.rate, .bool C.drop, .int .i64 C.last, .slice ra5 rn5 rc5, .slice ea5 en5 ec5, .slice ca5 cn5 cc5])
  have ha_47 := (Ext.refl w_42).alloc (.cells #[.string C.title, .string C.lang, .int .u8 C.rate, .bool C.drop, .int .i64 C.last, .slice ra5 rn5 rc5, .slice ea5 en5 ec5, .slice ca5 cn5 cc5] 27)
  have HX_48 := Lib.hid (HX_44.out.trans ha_47)
  have HB_49 := Lib.hid (HB_45.out.ext ha_47)
  have HF_50 := Lib.hid (HO5.out.ext ha_47)
  clear ha_47 HX_44 HB_45 HO5
  go_wp2_with (refine wpList_loadB rfl 27 (.tmp 2) rfl (w.heap.size) 27 _ _ (by exact rfl) (by exact HB_49.out) Tryz.underlying27 rfl (by exact size_docI) ?_)
  refine (HCb.out _ HX_48.out).mono ?_
  rintro en w_51 ⟨⟨ra7, rn7, rc7, ea7, en7, ec7, ca7, cn7, cc7⟩, rfl, ho7, hx_52⟩
  dsimp only
  have HO7 := Lib.hid ho7
  have HS7 := Lib.hid (ho7.short HSc.out)
  clear ho7
  have HX_53 := Lib.hid (HX_48.out.trans hx_52)
  have HB_54 := Lib.hid (HB_49.out.ext hx_52)
  have HB_55 := Lib.hid (HB_46.out.ext hx_52)
  have HF_56 := Lib.hid (HF_50.out.ext hx_52)
  clear hx_52 HX_48 HB_49 HB_46 HF_50
  have hl7 := HB_55.out.lt
  have HB_57 := Lib.hid (Blk.new w_51 27 #[.string C.title, .string C.lang, .int .u8 C.rate, .bool C.drop, .int .i64 C.last, .slice ra7 rn7 rc7, .slice ea7 en7 ec7, .slice ca7 cn7 cc7])
  have ha_58 := (Ext.refl w_51).alloc (.cells #[.string C.title, .string C.lang, .int .u8 C.rate, .bool C.drop, .int .i64 C.last, .slice ra7 rn7 rc7, .slice ea7 en7 ec7, .slice ca7 cn7 cc7] 27)
  have HX_59 := Lib.hid (HX_53.out.trans ha_58)
  have HB_60 := Lib.hid (HB_54.out.ext ha_58)
  have HB_61 := Lib.hid (HB_55.out.ext ha_58)
  have HF_62 := Lib.hid (HF_56.out.ext ha_58)
  have HF_63 := Lib.hid (HO7.out.ext ha_58)
  clear ha_58 HX_53 HB_54 HB_55 HF_56 HO7
  have HSa5 := Lib.hid (fun w' hx => R12Same_any C C ⟨ra5, rn5, rc5, ea5, en5, ec5, ca5, cn5, cc5⟩ ⟨ra7, rn7, rc7, ea7, en7, ec7, ca7, cn7, cc7⟩ w' (HF_62.out.at_.ext hx) (HF_63.out.at_.ext hx) HS5.out HS7.out)
  rw [sameDoc_self] at HSa5
  unfold Doc.cells at HSa5
  dsimp only at HSa5
  have hc_64 := fun o => HB_61.out.cell o
  have hc_65 := fun o => HB_57.out.cell o
  go_wp2_with fail
  clear hc_64 hc_65
  refine (HSa5.out _ (Ext.refl _)).mono ?_
  rintro en w_66 ⟨rfl, hx_67⟩
  clear HSa5
  have HX_68 := Lib.hid (HX_59.out.trans hx_67)
  have HB_69 := Lib.hid (HB_60.out.ext hx_67)
  have HB_70 := Lib.hid (HB_61.out.ext hx_67)
  have HB_71 := Lib.hid (HB_57.out.ext hx_67)
  clear hx_67 HX_59 HB_60 HB_61 HB_57
  go_wp2_with (first | (refine wpList_loadB rfl 27 (.tmp 2) rfl (w.heap.size) 27 _ _ (by exact rfl) (by exact HB_69.out) Tryz.underlying27 rfl (by exact size_docI) ?_) | fail)
  refine (HRa.out _ HX_68.out).mono ?_
  rintro en w_72 ⟨⟨ra34, rn34, rc34, ea34, en34, ec34, ca34, cn34, cc34⟩, rfl, ho34, hx_73⟩
  dsimp only
  have HO34 := Lib.hid ho34
  have HS34 := Lib.hid (ho34.short HSr.out)
  clear ho34
  have HX_74 := Lib.hid (HX_68.out.trans hx_73)
  have HB_75 := Lib.hid (HB_69.out.ext hx_73)
  have HB_76 := Lib.hid (HB_70.out.ext hx_73)
  have HB_77 := Lib.hid (HB_71.out.ext hx_73)
  clear hx_73 HX_68 HB_69 HB_70 HB_71
  have HX_78 := Lib.hid (HX_74.out.put (g := w_42.heap.size) (by omega) 27 #[.string R.title, .string R.lang, .int .u8 R.rate, .bool R.drop, .int .i64 R.last, .slice ra34 rn34 rc34, .slice ea34 en34 ec34, .slice ca34 cn34 cc34])
  have HF_79 := Lib.hid (DocOwn.put HO34.out HB_76.out #[.string R.title, .string R.lang, .int .u8 R.rate, .bool R.drop, .int .i64 R.last, .slice ra34 rn34 rc34, .slice ea34 en34 ec34, .slice ca34 cn34 cc34])
  have HB_80 := Lib.hid (HB_75.out.put_other (g' := w_42.heap.size) (t' := 27) (by omega) #[.string R.title, .string R.lang, .int .u8 R.rate, .bool R.drop, .int .i64 R.last, .slice ra34 rn34 rc34, .slice ea34 en34 ec34, .slice ca34 cn34 cc34])
  have HB_81 := Lib.hid (HB_76.out.put #[.string R.title, .string R.lang, .int .u8 R.rate, .bool R.drop, .int .i64 R.last, .slice ra34 rn34 rc34, .slice ea34 en34 ec34, .slice ca34 cn34 cc34])
  have HB_82 := Lib.hid (HB_77.out.put_other (g' := w_42.heap.size) (t' := 27) (by omega) #[.string R.title, .string R.lang, .int .u8 R.rate, .bool R.drop, .int .i64 R.last, .slice ra34 rn34 rc34, .slice ea34 en34 ec34, .slice ca34 cn34 cc34])
  clear HX_74 HB_75 HB_77 HO34
  go_wp2_with (first | (refine wpList_loadB rfl 27 (.tmp 2) rfl (w.heap.size) 27 _ _ (by exact rfl) (by exact HB_80.out) Tryz.underlying27 rfl (by exact size_docI) ?_) | (refine wpList_storeB rfl 27 (.tmp 5) _ rfl (w_42.heap.size) 27 _ _ (by exact rfl) (by exact rfl) (by exact HB_76.out) (by exact rfl) (by exact size_docI) (by simp [Value.oneCell']) ?_))
  refine (HRb.out _ HX_78.out).mono ?_
  rintro en w_83 ⟨⟨ra40, rn40, rc40, ea40, en40, ec40, ca40, cn40, cc40⟩, rfl, ho40, hx_84⟩
  dsimp only
  have HO40 := Lib.hid ho40
  have HS40 := Lib.hid (ho40.short HSr.out)
  clear ho40
  have HX_85 := Lib.hid (HX_78.out.trans hx_84)
  have HB_86 := Lib.hid (HB_80.out.ext hx_84)
  have HB_87 := Lib.hid (HB_81.out.ext hx_84)
  have HB_88 := Lib.hid (HB_82.out.ext hx_84)
  have HF_89 := Lib.hid (HF_79.out.ext hx_84)
  clear hx_84 HX_78 HB_80 HB_81 HB_82 HF_79
  have HX_90 := Lib.hid (HX_85.out.put (g := w_51.heap.size) (by omega) 27 #[.string R.title, .string R.lang, .int .u8 R.rate, .bool R.drop, .int .i64 R.last, .slice ra40 rn40 rc40, .slice ea40 en40 ec40, .slice ca40 cn40 cc40])
  have HF_91 := Lib.hid (DocOwn.put HF_89.out HB_88.out #[.string R.title, .string R.lang, .int .u8 R.rate, .bool R.drop, .int .i64 R.last, .slice ra40 rn40 rc40, .slice ea40 en40 ec40, .slice ca40 cn40 cc40])
  have HF_92 := Lib.hid (DocOwn.put HO40.out HB_88.out #[.string R.title, .string R.lang, .int .u8 R.rate, .bool R.drop, .int .i64 R.last, .slice ra40 rn40 rc40, .slice ea40 en40 ec40, .slice ca40 cn40 cc40])
  have HB_93 := Lib.hid (HB_86.out.put_other (g' := w_51.heap.size) (t' := 27) (by omega) #[.string R.title, .string R.lang, .int .u8 R.rate, .bool R.drop, .int .i64 R.last, .slice ra40 rn40 rc40, .slice ea40 en40 ec40, .slice ca40 cn40 cc40])
  have HB_94 := Lib.hid (HB_87.out.put_other (g' := w_51.heap.size) (t' := 27) (by omega) #[.string R.title, .string R.lang, .int .u8 R.rate, .bool R.drop, .int .i64 R.last, .slice ra40 rn40 rc40, .slice ea40 en40 ec40, .slice ca40 cn40 cc40])
  have HB_95 := Lib.hid (HB_88.out.put #[.string R.title, .string R.lang, .int .u8 R.rate, .bool R.drop, .int .i64 R.last, .slice ra40 rn40 rc40, .slice ea40 en40 ec40, .slice ca40 cn40 cc40])
  clear HX_85 HB_86 HB_87 HF_89 HO40
  have HSa9 := Lib.hid (fun w' hx => R12Same_any R R ⟨ra34, rn34, rc34, ea34, en34, ec34, ca34, cn34, cc34⟩ ⟨ra40, rn40, rc40, ea40, en40, ec40, ca40, cn40, cc40⟩ w' (HF_91.out.at_.ext hx) (HF_92.out.at_.ext hx) HS34.out HS40.out)
  rw [sameDoc_self] at HSa9
  unfold Doc.cells at HSa9
  dsimp only at HSa9
  have hc_96 := fun o => HB_94.out.cell o
  have hc_97 := fun o => HB_95.out.cell o
  go_wp2_with (refine wpList_storeB rfl 27 (.tmp 7) _ rfl (w_51.heap.size) 27 _ _ (by exact rfl) (by exact rfl) (by exact HB_88.out) (by exact rfl) (by exact size_docI) (by simp [Value.oneCell']) ?_)
  clear hc_96 hc_97
  refine (HSa9.out _ (Ext.refl _)).mono ?_
  rintro en w_98 ⟨rfl, hx_99⟩
  clear HSa9
  have HX_100 := Lib.hid (HX_90.out.trans hx_99)
  have HB_101 := Lib.hid (HB_93.out.ext hx_99)
  have HB_102 := Lib.hid (HB_94.out.ext hx_99)
  have HB_103 := Lib.hid (HB_95.out.ext hx_99)
  clear hx_99 HX_90 HB_93 HB_94 HB_95
  clear HB_102
  clear HB_103
  go_wp2_with (refine wpList_loadB rfl 27 (.tmp 2) rfl (w.heap.size) 27 _ _ (by exact rfl) (by exact HB_101.out) Tryz.underlying27 rfl (by exact size_docI) ?_)
  refine (HQa.out _ HX_100.out).mono ?_
  rintro en w_104 ⟨rfl, hx_105⟩
  have HX_106 := Lib.hid (HX_100.out.trans hx_105)
  have HB_107 := Lib.hid (HB_101.out.ext hx_105)
  clear hx_105 HX_100 HB_101
  go_wp2_with (refine wpList_loadB rfl 27 (.tmp 2) rfl (w.heap.size) 27 _ _ (by exact rfl) (by exact HB_107.out) Tryz.underlying27 rfl (by exact size_docI) ?_)
  refine (HQb.out _ HX_106.out).mono ?_
  rintro en w_108 ⟨rfl, hx_109⟩
  have HX_110 := Lib.hid (HX_106.out.trans hx_109)
  have HB_111 := Lib.hid (HB_107.out.ext hx_109)
  clear hx_109 HX_106 HB_107
  have HFa2 := Lib.hid (fun (y : EW w_108) => HFa.out y.w (HX_110.out.trans y.ext))
  have HFb2 := Lib.hid (fun (y : EW w_108) => HFb.out y.w (HX_110.out.trans y.ext))
  clear HFa HFb HQa HQb HRa HRb HCa HCb
  go_wp2_with fail
  have hr_112 := fun (x : EW w_108) (o : Nat) => (HB_111.out.ext x.ext).cell o
  refine wp_region_ew w_108 (Ext.refl _) (by kernel_rfl) (by kernel_rfl) ?_
  repeat (go_big_quiet_step ((first | (go_at_call 27; exact EW.calls _ (HFa2.out _)) | (go_at_call 28; exact EW.calls _ (HFb2.out _)))))
  refine wpQuiet_nil ?_
  rintro w_113 ⟨⟨_, hx_114⟩, rfl⟩
  try dsimp only
  clear hr_112
  have HX_115 := Lib.hid (HX_110.out.trans hx_114)
  have HB_116 := Lib.hid (HB_111.out.ext hx_114)
  clear hx_114 HX_110 HB_111
  go_wp2_with fail
  go_ret
  exact ⟨by simp, HX_115.out⟩
end Go.Proofs.YtagfedbdakmlgaaGreatDoor
