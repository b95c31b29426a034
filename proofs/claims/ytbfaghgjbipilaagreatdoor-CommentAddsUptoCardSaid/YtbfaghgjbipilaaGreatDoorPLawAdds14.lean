/- The walk of the law CommentAdds. -/
import Derived.Test.YtbfaghgjbipilaaGreatDoorPk16
import Derived.Test.YtbfaghgjbipilaaGreatDoorPk20
import Derived.Test.YtbfaghgjbipilaaGreatDoorPk21
import Derived.Test.YtbfaghgjbipilaaGreatDoorPk22
namespace Go.Proofs.YtbfaghgjbipilaaGreatDoor
set_option linter.unusedVariables false
set_option linter.unusedSimpArgs false
open Go.RowKit

theorem added_short (d : Doc) (ev fr til : Int) (au tx : ByteArray) : DocShort (d.added ev fr til au tx) := by
  unfold Doc.added
  split
  · rename_i h
    have he : d.err = 0 := by
      by_cases he : d.err = 0
      · exact he
      · rw [add_1 he] at h; exact absurd h he
    have hs := valid_short he
    have hd := doc_ok he
    refine ⟨hs.1, hs.2.1, ?_⟩
    show (d.coms ++ [_]).length ≤ _
    simp; omega
  · exact zero_short
set_option maxRecDepth 100000 in
set_option maxHeartbeats 8000000 in
theorem CommentAdds_any (d : Doc) (h : DocH) (ev fr til : Int) (au tx : ByteArray) (w : World) (hE : Env w) (hat : DocAt w d h) (hi : DocIn d h) (ha : au.size ≤ 140737488351232) (ht : tx.size ≤ 140737488351232) :
    Calls Tryz.prog 6 #[.agg (d.cells h), .agg #[.int .i64 ev, .int .i64 fr, .int .i64 til, .string au, .string tx]] w fun en w' => en = .returned (.bool true) ∧ Ext w w' := by
  have HX : Hid (Ext w ((w.alloc (.cells (d.cells h) 27)).alloc (.cells #[.int .i64 ev, .int .i64 fr, .int .i64 til, .string au, .string tx] 59))) := ((Ext.refl w).alloc _).alloc _
  have HB : Hid (Blk ((w.alloc (.cells (d.cells h) 27)).alloc (.cells #[.int .i64 ev, .int .i64 fr, .int .i64 til, .string au, .string tx] 59)) w.heap.size 27 (d.cells h)) := (Blk.new w _ _).alloc _
  have HR : Hid (Blk ((w.alloc (.cells (d.cells h) 27)).alloc (.cells #[.int .i64 ev, .int .i64 fr, .int .i64 til, .string au, .string tx] 59)) (w.heap.size + 1) 59 #[.int .i64 ev, .int .i64 fr, .int .i64 til, .string au, .string tx]) := Blk.new' (by simp)
  have HEn := Lib.hid hE
  have HAd := Lib.hid (fun w' (hx : Ext w w') => DAdd_any d h ev fr til au tx w' (hE.ext hx) (hat.ext hx) hi.fit hi.rn hi.rc.2 hi.en hi.cn (by omega) (by omega))
  have HRd := Lib.hid (fun w' (hx : Ext w w') => R14Add_any d h ev fr til au tx w' (hE.ext hx) (hat.ext hx) hi.fit hi.rn hi.rc.2 hi.en hi.cn (by omega) (by omega))
  have HSh : Hid (DocShort (d.added ev fr til au tx)) := added_short d ev fr til au tx
  clear hE hat hi
  unfold AddPost at HAd HRd
  unfold Doc.cells at HX HB HAd HRd
  generalize d.added ev fr til au tx = D at *
  generalize d.addId ev fr til au tx = I at *
  generalize d.addErr ev fr til au tx = er at *
  obtain ⟨hra, nr, hrc, hea, hen, hec, hca, nc, hcc⟩ := h
  dsimp only at *
  unfold Doc.cells
  dsimp only
  go_enter Tryz.func6, Tryz.ntmps6
  go_wp2_with fail
  refine (awake14_any _ (HEn.out.ext HX.out)).mono ?_
  rintro en w_1 ⟨rfl, hx_2⟩
  have HX_3 := Lib.hid (HX.out.trans hx_2)
  have HB_4 := Lib.hid (HB.out.ext hx_2)
  have HB_5 := Lib.hid (HR.out.ext hx_2)
  clear hx_2 HX HB HR
  have hc_6 := fun o => HB_5.out.cell o
  go_wp2_with (refine wpList_loadB rfl 27 (.tmp 2) rfl (w.heap.size) 27 _ _ (by exact rfl) (by exact HB_4.out) Tryz.underlying27 rfl (by exact size_docI) ?_)
  clear hc_6
  refine (HAd.out _ HX_3.out).mono ?_
  rintro en w_7 ⟨⟨ra5, rn5, rc5, ea5, en5, ec5, ca5, cn5, cc5⟩, rfl, ho5, hx_8⟩
  dsimp only
  have HO5 := Lib.hid ho5
  have HS5 := Lib.hid (ho5.short HSh.out)
  clear ho5
  have HX_9 := Lib.hid (HX_3.out.trans hx_8)
  have HB_10 := Lib.hid (HB_4.out.ext hx_8)
  have HB_11 := Lib.hid (HB_5.out.ext hx_8)
  clear hx_8 HX_3 HB_4 HB_5
  have HB_12 := Lib.hid (Blk.new w_7 27 #[.string D.title, .string D.lang, .int .u8 D.rate, .bool D.drop, .int .i64 D.last, .slice ra5 rn5 rc5, .slice ea5 en5 ec5, .slice ca5 cn5 cc5])
  have ha_13 := (Ext.refl w_7).alloc (.cells #[.string D.title, .string D.lang, .int .u8 D.rate, .bool D.drop, .int .i64 D.last, .slice ra5 rn5 rc5, .slice ea5 en5 ec5, .slice ca5 cn5 cc5] 27)
  have HX_14 := Lib.hid (HX_9.out.trans ha_13)
  have HB_15 := Lib.hid (HB_10.out.ext ha_13)
  have HB_16 := Lib.hid (HB_11.out.ext ha_13)
  have HF_17 := Lib.hid (HO5.out.ext ha_13)
  clear ha_13 HX_9 HB_10 HB_11 HO5
  have hc_18 := fun o => HB_16.out.cell o
  go_wp2_with (refine wpList_loadB rfl 27 (.tmp 2) rfl (w.heap.size) 27 _ _ (by exact rfl) (by exact HB_15.out) Tryz.underlying27 rfl (by exact size_docI) ?_)
  clear hc_18
  refine (HRd.out _ HX_14.out).mono ?_
  rintro en w_19 ⟨⟨ra8, rn8, rc8, ea8, en8, ec8, ca8, cn8, cc8⟩, rfl, ho8, hx_20⟩
  dsimp only
  have HO8 := Lib.hid ho8
  have HS8 := Lib.hid (ho8.short HSh.out)
  clear ho8
  have HX_21 := Lib.hid (HX_14.out.trans hx_20)
  have HB_22 := Lib.hid (HB_15.out.ext hx_20)
  have HB_23 := Lib.hid (HB_16.out.ext hx_20)
  have HB_24 := Lib.hid (HB_12.out.ext hx_20)
  have HF_25 := Lib.hid (HF_17.out.ext hx_20)
  clear hx_20 HX_14 HB_15 HB_16 HB_12 HF_17
  have HB_26 := Lib.hid (Blk.new w_19 27 #[.string D.title, .string D.lang, .int .u8 D.rate, .bool D.drop, .int .i64 D.last, .slice ra8 rn8 rc8, .slice ea8 en8 ec8, .slice ca8 cn8 cc8])
  have ha_27 := (Ext.refl w_19).alloc (.cells #[.string D.title, .string D.lang, .int .u8 D.rate, .bool D.drop, .int .i64 D.last, .slice ra8 rn8 rc8, .slice ea8 en8 ec8, .slice ca8 cn8 cc8] 27)
  have HX_28 := Lib.hid (HX_21.out.trans ha_27)
  have HB_29 := Lib.hid (HB_22.out.ext ha_27)
  have HB_30 := Lib.hid (HB_23.out.ext ha_27)
  have HB_31 := Lib.hid (HB_24.out.ext ha_27)
  have HF_32 := Lib.hid (HF_25.out.ext ha_27)
  have HF_33 := Lib.hid (HO8.out.ext ha_27)
  clear ha_27 HX_21 HB_22 HB_23 HB_24 HF_25 HO8
  have HSa := Lib.hid (fun w' hx => R12Same_any D D ⟨ra5, rn5, rc5, ea5, en5, ec5, ca5, cn5, cc5⟩ ⟨ra8, rn8, rc8, ea8, en8, ec8, ca8, cn8, cc8⟩ w' (HF_32.out.at_.ext hx) (HF_33.out.at_.ext hx) HS5.out HS8.out)
  rw [sameDoc_self] at HSa
  unfold Doc.cells at HSa
  dsimp only at HSa
  have hc_34 := fun o => HB_31.out.cell o
  have hc_35 := fun o => HB_26.out.cell o
  go_wp2_with fail
  clear hc_34 hc_35
  refine (HSa.out _ (Ext.refl _)).mono ?_
  rintro en w_36 ⟨rfl, hx_37⟩
  go_wp2_with fail
  go_ret
  exact ⟨by simp, HX_28.out.trans hx_37⟩
end Go.Proofs.YtbfaghgjbipilaaGreatDoor
