/- The walk of the law RetimeDocuments. -/
import Derived.Test.YtbfaghgjbipilaaGreatDoorPAwake47
import Derived.Test.YtbfaghgjbipilaaGreatDoorPLawDrifts47
import Derived.Test.YtbfaghgjbipilaaGreatDoorPRetR
import Derived.Test.YtbfaghgjbipilaaGreatDoorPRetW
import Derived.Test.YtbfaghgjbipilaaGreatDoorPk21
import Derived.Test.YtbfaghgjbipilaaGreatDoorPSame47
import Derived.Test.YtbfaghgjbipilaaGreatDoorPk22
namespace Go.Proofs.YtbfaghgjbipilaaGreatDoor
set_option linter.unusedVariables false
set_option linter.unusedSimpArgs false
open Go.RowKit

theorem retD_short (d : Doc) (b : Int) (drop : Bool) (m : Int) : DocShort (d.retD b drop m) := by
  unfold Doc.retD
  split
  · rename_i h
    exact valid_short (ret_ok h)
  · exact zero_short
theorem retL_len (d : Doc) (b : Int) (drop : Bool) (m : Int) : (d.retL b drop m).length ≤ d.evs.length := by
  unfold Doc.retL
  split
  · unfold retDris; simp
  · simp
theorem DocAt.short {w : World} {d : Doc} {h : DocH} (o : DocAt w d h) (s : DocShort d) : h.rn ≤ 1000000000 ∧ h.en ≤ 1000000000 ∧ h.cn ≤ 1000000000 := by
  have h1 := o.regs.len
  have h2 := o.evs.len
  have h3 := o.coms.len
  obtain ⟨s1, s2, s3⟩ := s
  omega
set_option maxRecDepth 100000 in
set_option maxHeartbeats 8000000 in
theorem RetimeDocuments_any (d : Doc) (h : DocH) (b m : Int) (w : World) (hE : Env w) (hat : DocAt w d h) (hi : DocIn d h) (b0 : 0 ≤ b) (b1 : b ≤ 255) (m0 : 0 ≤ m) (m1 : m ≤ 255) :
    Calls Tryz.prog 10 #[.agg (d.cells h), .int .u8 b, .int .u8 m] w fun en w' => en = .returned (.bool true) ∧ Ext w w' := by
  have HX : Hid (Ext w (w.alloc (.cells (d.cells h) 27))) := (Ext.refl w).alloc _
  have HB : Hid (Blk (w.alloc (.cells (d.cells h) 27)) w.heap.size 27 (d.cells h)) := Blk.new w _ _
  have HEn := Lib.hid hE
  have HSm := Lib.hid (fun w => small47_any d h w)
  have HAd := Lib.hid (fun drop m w' (hx : Ext w w') => Retime_any d h b m drop w' (hE.ext hx) (hat.ext hx) hi.fit hi.rn hi.en (by have := hi.cn; omega) b0 b1)
  have HRd := Lib.hid (fun drop m w' (hx : Ext w w') => R47Retime_any d h b m drop w' (hE.ext hx) (hat.ext hx) hi.fit hi.rn hi.en (by have := hi.cn; omega) b0 b1)
  have HEl := Lib.hid hat.evs.len
  clear hE hat hi
  unfold RetPost at HAd HRd
  unfold Doc.cells at HX HB HAd HRd HSm
  obtain ⟨hra, nr, hrc, hea, hen, hec, hca, nc, hcc⟩ := h
  dsimp only at *
  unfold Doc.cells
  dsimp only
  go_enter Tryz.func10, Tryz.ntmps10
  go_wp2_with fail
  refine (awake47_any _ (HEn.out.ext HX.out)).mono ?_
  rintro en w_1 ⟨rfl, hx_2⟩
  have HX_3 := Lib.hid (HX.out.trans hx_2)
  have HB_4 := Lib.hid (HB.out.ext hx_2)
  clear hx_2 HX HB
  go_wp2_with (refine wpList_loadB rfl 27 (.tmp 3) rfl (w.heap.size) 27 _ _ (by exact rfl) (by exact HB_4.out) Tryz.underlying27 rfl (by exact size_docI) ?_)
  refine (HSm.out _).mono ?_
  rintro en w_5 ⟨rfl, hx_6⟩
  have HX_7 := Lib.hid (HX_3.out.trans hx_6)
  have HB_8 := Lib.hid (HB_4.out.ext hx_6)
  clear hx_6 HX_3 HB_4
  cases hc : decide (hen ≤ 60 ∧ nr ≤ 40 ∧ nc ≤ 100)
  case false =>
    have HC := Lib.hid hc
    clear hc
    go_wp2_with fail
    go_ret
    exact ⟨rfl, HX_7.out⟩
  have hc1 := of_decide_eq_true hc
  clear hc
  go_wp2_with (refine wpList_loadB rfl 27 (.tmp 3) rfl (w.heap.size) 27 _ _ (by exact rfl) (by exact HB_8.out) Tryz.underlying27 rfl (by exact size_docI) ?_)
  refine (HAd.out _ _ _ HX_7.out).mono ?_
  rintro en w_9 ⟨⟨ra7, rn7, rc7, ea7, en7, ec7, ca7, cn7, cc7⟩, A7, n7, c7, rfl, ho7, hd7, hn7, hx_10⟩
  dsimp only
  have HO7 := Lib.hid ho7
  have HDr7 := Lib.hid hd7
  clear ho7 hd7
  have HX_11 := Lib.hid (HX_7.out.trans hx_10)
  have HB_12 := Lib.hid (HB_8.out.ext hx_10)
  clear hx_10 HX_7 HB_8
  generalize hgD : d.retD b _ _ = DD at *
  generalize hgL : d.retL b _ _ = LL at *
  generalize hgE : d.retE b _ _ = EE at *
  have HSh : Hid (DocShort DD) := by
    show DocShort DD
    rw [← hgD]
    exact retD_short d b _ _
  have HLl : Hid (LL.length ≤ hen) := by
    show LL.length ≤ hen
    rw [← hgL, ← HEl.out]
    exact retL_len d b _ _
  have HgD := Lib.hid hgD
  have HgL := Lib.hid hgL
  have HgE := Lib.hid hgE
  clear hgD hgL hgE
  have HB_13 := Lib.hid (Blk.new w_9 27 #[.string DD.title, .string DD.lang, .int .u8 DD.rate, .bool DD.drop, .int .i64 DD.last, .slice ra7 rn7 rc7, .slice ea7 en7 ec7, .slice ca7 cn7 cc7])
  have ha_14 := (Ext.refl w_9).alloc (.cells #[.string DD.title, .string DD.lang, .int .u8 DD.rate, .bool DD.drop, .int .i64 DD.last, .slice ra7 rn7 rc7, .slice ea7 en7 ec7, .slice ca7 cn7 cc7] 27)
  have HX_15 := Lib.hid (HX_11.out.trans ha_14)
  have HB_16 := Lib.hid (HB_12.out.ext ha_14)
  have HF_17 := Lib.hid (HO7.out.ext ha_14)
  have HF_18 := Lib.hid (HDr7.out.ext ha_14)
  clear ha_14 HX_11 HB_12 HO7 HDr7
  go_wp2_with (refine wpList_loadB rfl 27 (.tmp 3) rfl (w.heap.size) 27 _ _ (by exact rfl) (by exact HB_16.out) Tryz.underlying27 rfl (by exact size_docI) ?_)
  refine (HRd.out _ _ _ HX_15.out).mono ?_
  rintro en w_19 ⟨⟨ra10, rn10, rc10, ea10, en10, ec10, ca10, cn10, cc10⟩, A10, n10, c10, rfl, ho10, hd10, hn10, hx_20⟩
  dsimp only
  rw [HgD.out] at ho10 ⊢
  rw [HgL.out] at hd10
  rw [HgE.out]
  have HO10 := Lib.hid ho10
  have HDr10 := Lib.hid hd10
  clear ho10 hd10
  have HX_21 := Lib.hid (HX_15.out.trans hx_20)
  have HB_22 := Lib.hid (HB_16.out.ext hx_20)
  have HB_23 := Lib.hid (HB_13.out.ext hx_20)
  have HF_24 := Lib.hid (HF_17.out.ext hx_20)
  have HF_25 := Lib.hid (HF_18.out.ext hx_20)
  clear hx_20 HX_15 HB_16 HB_13 HF_17 HF_18
  have HB_26 := Lib.hid (Blk.new w_19 27 #[.string DD.title, .string DD.lang, .int .u8 DD.rate, .bool DD.drop, .int .i64 DD.last, .slice ra10 rn10 rc10, .slice ea10 en10 ec10, .slice ca10 cn10 cc10])
  have ha_27 := (Ext.refl w_19).alloc (.cells #[.string DD.title, .string DD.lang, .int .u8 DD.rate, .bool DD.drop, .int .i64 DD.last, .slice ra10 rn10 rc10, .slice ea10 en10 ec10, .slice ca10 cn10 cc10] 27)
  have HX_28 := Lib.hid (HX_21.out.trans ha_27)
  have HB_29 := Lib.hid (HB_22.out.ext ha_27)
  have HB_30 := Lib.hid (HB_23.out.ext ha_27)
  have HF_31 := Lib.hid (HF_24.out.ext ha_27)
  have HF_32 := Lib.hid (HF_25.out.ext ha_27)
  have HF_33 := Lib.hid (HO10.out.ext ha_27)
  have HF_34 := Lib.hid (HDr10.out.ext ha_27)
  clear ha_27 HX_21 HB_22 HB_23 HF_24 HF_25 HO10 HDr10
  have hn7 : n7 ≤ 4611686018427387904 := by have h1 := HF_32.out.len; have h2 := HLl.out; omega
  have HSa := Lib.hid (fun w' hx => DSame_any DD DD ⟨ra7, rn7, rc7, ea7, en7, ec7, ca7, cn7, cc7⟩ ⟨ra10, rn10, rc10, ea10, en10, ec10, ca10, cn10, cc10⟩ w' (HF_31.out.ext hx) (HF_33.out.ext hx) (HF_31.out.short HSh.out))
  have HSl := Lib.hid (fun w' hx => same47_any A7 n7 c7 A10 n10 c10 LL LL w' (HF_32.out.ext hx) (HF_34.out.ext hx) hn7)
  rw [sameDoc_self] at HSa
  rw [decide_eq_true (rfl : LL = LL)] at HSl
  unfold Doc.cells at HSa
  dsimp only at HSa
  have hc_35 := fun o => HB_30.out.cell o
  have hc_36 := fun o => HB_26.out.cell o
  go_wp2_with fail
  clear hc_35 hc_36
  refine (HSa.out _ (Ext.refl _)).mono ?_
  rintro en w_37 ⟨rfl, hx_38⟩
  go_wp2_with fail
  refine (HSl.out _ hx_38).mono ?_
  rintro en w_39 ⟨rfl, hx_40⟩
  go_wp2_with fail
  go_ret
  exact ⟨by simp, (HX_28.out.trans hx_38).trans hx_40⟩
end Go.Proofs.YtbfaghgjbipilaaGreatDoor
