/- Laid together: The walk of the law DocumentInserts. Arguments that are rates, spans, small numbers, booleans and lists of drifts, opened. -/
import Derived.Test.YtagfedbdakmlgaaGreatDoorIn16
import Derived.Test.YtagfedbdakmlgaaGreatDoorIn14
import Derived.Test.YtagfedbdakmlgaaGreatDoorIn21
import Derived.Test.YtagfedbdakmlgaaGreatDoorIn22
import Derived.Test.YtagfedbdakmlgaaGreatDoorIn24
import Derived.Test.YtagfedbdakmlgaaGreatDoorIn25
import Derived.Test.YtagfedbdakmlgaaGreatDoorIn09
import Derived.Test.YtagfedbdakmlgaaGreatDoorIn01
import Derived.Test.YtagfedbdakmlgaaGreatDoorIn13
import Derived.OpenShut

/-! LawIns12 -/
namespace Go.Proofs.YtagfedbdakmlgaaGreatDoor
set_option linter.unusedVariables false
set_option linter.unusedSimpArgs false
open Go.RowKit
theorem insX_short (d : Doc) (e : Ev) : DocShort (d.insX e).1 := by
  unfold Doc.insX
  split
  · rename_i h
    unfold Doc.insErr at h
    split at h
    · rename_i h1; exact absurd h h1
    rename_i h1
    have hs := valid_short (d := d) (by simpa using h1)
    split at h
    · rename_i h2; exact absurd h h2
    split at h
    · rename_i h2; exact absurd h h2
    split at h
    · simp at h
    exact ⟨hs.1, by show (srtE (d.evs ++ [_])).length ≤ _; unfold srtE; rw [Stb.sortS_len, List.length_append, List.length_singleton]; omega, hs.2.2⟩
  · exact zero_short
theorem putX_short (d : Doc) (e : Ev) : DocShort (d.putX e).1 := by
  unfold Doc.putX
  split
  · exact zero_short
  rename_i h
  have hs := valid_short (d := d) (by simpa using h)
  split
  · exact zero_short
  split
  · exact zero_short
  split
  · exact zero_short
  exact ⟨hs.1, by show (srtE (d.evs.set _ _)).length ≤ _; unfold srtE; rw [Stb.sortS_len, List.length_set]; exact hs.2.1, by show (d.coms.map _).length ≤ _; rw [List.length_map]; exact hs.2.2⟩
set_option maxRecDepth 100000 in
set_option maxHeartbeats 8000000 in
theorem DocumentInserts_any (d : Doc) (h : DocH) (e : Ev) (A : Option Addr) (n c : Nat) (w : World) (hE : Env w) (hat : DocAt w d h) (hi : DocIn d h) (he : EvAt w e A n c) (hes : EvSmall e) (hby : e.bytes ≤ 1099511627776) :
    Calls Tryz.prog 8 #[.agg (d.cells h), .agg (e.cells A n c)] w fun en w' => en = .returned (.bool true) ∧ Ext w w' := by
  have HX : Hid (Ext w ((w.alloc (.cells (d.cells h) 27)).alloc (.cells (e.cells A n c) 66))) := ((Ext.refl w).alloc _).alloc _
  have HB : Hid (Blk ((w.alloc (.cells (d.cells h) 27)).alloc (.cells (e.cells A n c) 66)) w.heap.size 27 (d.cells h)) := (Blk.new w _ _).alloc _
  have HT : Hid (Blk ((w.alloc (.cells (d.cells h) 27)).alloc (.cells (e.cells A n c) 66)) (w.heap.size + 1) 66 (e.cells A n c)) := Blk.new' (by simp)
  have HEn := Lib.hid hE
  have HCa := Lib.hid (fun w' (hx : Ext w w') => DInsert_any d h e A n c w' (hE.ext hx) (hat.ext hx) hi.fit hi.rn hi.rc.2 hi.en hi.cn (he.ext hx) hes)
  have HCb := Lib.hid (fun w' (hx : Ext w w') => R12Insert_any d h e A n c w' (hE.ext hx) (hat.ext hx) hi.fit hi.rn hi.rc.2 hi.en hi.cn (he.ext hx) hes hby)
  have HRa := Lib.hid (fun w' (hx : Ext w w') => DPut_any d h e A n c w' (hE.ext hx) (hat.ext hx) hi.fit hi.rn hi.rc.2 hi.en hi.cn (he.ext hx) hes hby)
  have HRb := Lib.hid (fun w' (hx : Ext w w') => R12Put_any d h e A n c w' (hE.ext hx) (hat.ext hx) hi.fit hi.rn hi.rc.2 hi.en hi.cn (he.ext hx) hes hby)
  have HAt := Lib.hid hat
  have HSh : Hid (h.rn ≤ 4611686018427387904 ∧ h.en ≤ 4611686018427387904 ∧ h.cn ≤ 4611686018427387904) := by
    have h1 := hi.rc.2
    have h2 := hi.en
    have h3 := hi.cn
    show _ ∧ _
    omega
  have HSc : Hid (DocShort (d.insX e).1) := insX_short d e
  have HSr : Hid (DocShort (d.putX e).1) := putX_short d e
  clear hE hat hi he hes hby
  unfold DIEPost at HCa HCb
  unfold DEPost at HRa HRb
  unfold Doc.cells Ev.cells at HX HB HT HCa HCb HRa HRb
  generalize hC1 : (d.insX e).1 = C at *
  generalize (d.insX e).2.1 = ci at *
  generalize (d.insX e).2.2 = ce at *
  generalize hR1 : (d.putX e).1 = R at *
  generalize (d.putX e).2 = re at *
  clear hC1 hR1
  obtain ⟨hra, nr, hrc, hea, hen, hec, hca, nc, hcc⟩ := h
  dsimp only at *
  unfold Doc.cells Ev.cells
  dsimp only
  go_enter Tryz.func8, Tryz.ntmps8
  go_wp2_with fail
  refine (awake12_any _ (HEn.out.ext HX.out)).mono ?_
  rintro en w_1 ⟨rfl, hx_2⟩
  have HX_3 := Lib.hid (HX.out.trans hx_2)
  have HB_4 := Lib.hid (HB.out.ext hx_2)
  have HB_5 := Lib.hid (HT.out.ext hx_2)
  clear hx_2 HX HB HT
  go_wp2_with (first | (refine wpList_loadB rfl 27 (.tmp 2) rfl (w.heap.size) 27 _ _ (by exact rfl) (by exact HB_4.out) Tryz.underlying27 rfl (by exact size_docI) ?_) | (refine wpList_loadB rfl 66 (.tmp 3) rfl (w.heap.size + 1) 66 _ _ (by exact rfl) (by exact HB_5.out) Tryz.underlying66 rfl (by exact size_event) ?_))
  refine (HCa.out _ HX_3.out).mono ?_
  rintro en w_6 ⟨⟨ra5, rn5, rc5, ea5, en5, ec5, ca5, cn5, cc5⟩, rfl, ho5, hx_7⟩
  dsimp only
  have HO5 := Lib.hid ho5
  have HS5 := Lib.hid (ho5.short HSc.out)
  clear ho5
  have HX_8 := Lib.hid (HX_3.out.trans hx_7)
  have HB_9 := Lib.hid (HB_4.out.ext hx_7)
  have HB_10 := Lib.hid (HB_5.out.ext hx_7)
  clear hx_7 HX_3 HB_4 HB_5
  have hl5 := HB_10.out.lt
  have HB_11 := Lib.hid (Blk.new w_6 27 #[.string C.title, .string C.lang, .int .u8 C.rate, .bool C.drop, .int .i64 C.last, .slice ra5 rn5 rc5, .slice ea5 en5 ec5, .slice ca5 cn5 cc5])
  have ha_12 := (Ext.refl w_6).alloc (.cells #[.string C.title, .string C.lang, .int .u8 C.rate, .bool C.drop, .int .i64 C.last, .slice ra5 rn5 rc5, .slice ea5 en5 ec5, .slice ca5 cn5 cc5] 27)
  have HX_13 := Lib.hid (HX_8.out.trans ha_12)
  have HB_14 := Lib.hid (HB_9.out.ext ha_12)
  have HB_15 := Lib.hid (HB_10.out.ext ha_12)
  have HF_16 := Lib.hid (HO5.out.ext ha_12)
  clear ha_12 HX_8 HB_9 HB_10 HO5
  go_wp2_with (first | (refine wpList_loadB rfl 27 (.tmp 2) rfl (w.heap.size) 27 _ _ (by exact rfl) (by exact HB_14.out) Tryz.underlying27 rfl (by exact size_docI) ?_) | (refine wpList_loadB rfl 66 (.tmp 3) rfl (w.heap.size + 1) 66 _ _ (by exact rfl) (by exact HB_15.out) Tryz.underlying66 rfl (by exact size_event) ?_))
  refine (HCb.out _ HX_13.out).mono ?_
  rintro en w_17 ⟨⟨ra8, rn8, rc8, ea8, en8, ec8, ca8, cn8, cc8⟩, rfl, ho8, hx_18⟩
  dsimp only
  have HO8 := Lib.hid ho8
  have HS8 := Lib.hid (ho8.short HSc.out)
  clear ho8
  have HX_19 := Lib.hid (HX_13.out.trans hx_18)
  have HB_20 := Lib.hid (HB_14.out.ext hx_18)
  have HB_21 := Lib.hid (HB_15.out.ext hx_18)
  have HB_22 := Lib.hid (HB_11.out.ext hx_18)
  have HF_23 := Lib.hid (HF_16.out.ext hx_18)
  clear hx_18 HX_13 HB_14 HB_15 HB_11 HF_16
  have hl8 := HB_22.out.lt
  have HB_24 := Lib.hid (Blk.new w_17 27 #[.string C.title, .string C.lang, .int .u8 C.rate, .bool C.drop, .int .i64 C.last, .slice ra8 rn8 rc8, .slice ea8 en8 ec8, .slice ca8 cn8 cc8])
  have ha_25 := (Ext.refl w_17).alloc (.cells #[.string C.title, .string C.lang, .int .u8 C.rate, .bool C.drop, .int .i64 C.last, .slice ra8 rn8 rc8, .slice ea8 en8 ec8, .slice ca8 cn8 cc8] 27)
  have HX_26 := Lib.hid (HX_19.out.trans ha_25)
  have HB_27 := Lib.hid (HB_20.out.ext ha_25)
  have HB_28 := Lib.hid (HB_21.out.ext ha_25)
  have HB_29 := Lib.hid (HB_22.out.ext ha_25)
  have HF_30 := Lib.hid (HF_23.out.ext ha_25)
  have HF_31 := Lib.hid (HO8.out.ext ha_25)
  clear ha_25 HX_19 HB_20 HB_21 HB_22 HF_23 HO8
  have HSa5 := Lib.hid (fun w' hx => R12Same_any C C ⟨ra5, rn5, rc5, ea5, en5, ec5, ca5, cn5, cc5⟩ ⟨ra8, rn8, rc8, ea8, en8, ec8, ca8, cn8, cc8⟩ w' (HF_30.out.at_.ext hx) (HF_31.out.at_.ext hx) HS5.out HS8.out)
  rw [sameDoc_self] at HSa5
  unfold Doc.cells at HSa5
  dsimp only at HSa5
  have hc_32 := fun o => HB_29.out.cell o
  have hc_33 := fun o => HB_24.out.cell o
  go_wp2_with fail
  clear hc_32 hc_33
  refine (HSa5.out _ (Ext.refl _)).mono ?_
  rintro en w_34 ⟨rfl, hx_35⟩
  clear HSa5
  have HX_36 := Lib.hid (HX_26.out.trans hx_35)
  have HB_37 := Lib.hid (HB_27.out.ext hx_35)
  have HB_38 := Lib.hid (HB_28.out.ext hx_35)
  have HB_39 := Lib.hid (HB_29.out.ext hx_35)
  have HB_40 := Lib.hid (HB_24.out.ext hx_35)
  clear hx_35 HX_26 HB_27 HB_28 HB_29 HB_24
  go_wp2_with (first | (refine wpList_loadB rfl 27 (.tmp 2) rfl (w.heap.size) 27 _ _ (by exact rfl) (by exact HB_37.out) Tryz.underlying27 rfl (by exact size_docI) ?_) | (refine wpList_loadB rfl 66 (.tmp 3) rfl (w.heap.size + 1) 66 _ _ (by exact rfl) (by exact HB_38.out) Tryz.underlying66 rfl (by exact size_event) ?_))
  refine (HRa.out _ HX_36.out).mono ?_
  rintro en w_41 ⟨⟨ra41, rn41, rc41, ea41, en41, ec41, ca41, cn41, cc41⟩, rfl, ho41, hx_42⟩
  dsimp only
  have HO41 := Lib.hid ho41
  have HS41 := Lib.hid (ho41.short HSr.out)
  clear ho41
  have HX_43 := Lib.hid (HX_36.out.trans hx_42)
  have HB_44 := Lib.hid (HB_37.out.ext hx_42)
  have HB_45 := Lib.hid (HB_38.out.ext hx_42)
  have HB_46 := Lib.hid (HB_39.out.ext hx_42)
  have HB_47 := Lib.hid (HB_40.out.ext hx_42)
  clear hx_42 HX_36 HB_37 HB_38 HB_39 HB_40
  have HX_48 := Lib.hid (HX_43.out.put (g := w_6.heap.size) (by omega) 27 #[.string R.title, .string R.lang, .int .u8 R.rate, .bool R.drop, .int .i64 R.last, .slice ra41 rn41 rc41, .slice ea41 en41 ec41, .slice ca41 cn41 cc41])
  have HF_49 := Lib.hid (DocOwn.put HO41.out HB_46.out #[.string R.title, .string R.lang, .int .u8 R.rate, .bool R.drop, .int .i64 R.last, .slice ra41 rn41 rc41, .slice ea41 en41 ec41, .slice ca41 cn41 cc41])
  have HB_50 := Lib.hid (HB_44.out.put_other (g' := w_6.heap.size) (t' := 27) (by omega) #[.string R.title, .string R.lang, .int .u8 R.rate, .bool R.drop, .int .i64 R.last, .slice ra41 rn41 rc41, .slice ea41 en41 ec41, .slice ca41 cn41 cc41])
  have HB_51 := Lib.hid (HB_45.out.put_other (g' := w_6.heap.size) (t' := 27) (by omega) #[.string R.title, .string R.lang, .int .u8 R.rate, .bool R.drop, .int .i64 R.last, .slice ra41 rn41 rc41, .slice ea41 en41 ec41, .slice ca41 cn41 cc41])
  have HB_52 := Lib.hid (HB_46.out.put #[.string R.title, .string R.lang, .int .u8 R.rate, .bool R.drop, .int .i64 R.last, .slice ra41 rn41 rc41, .slice ea41 en41 ec41, .slice ca41 cn41 cc41])
  have HB_53 := Lib.hid (HB_47.out.put_other (g' := w_6.heap.size) (t' := 27) (by omega) #[.string R.title, .string R.lang, .int .u8 R.rate, .bool R.drop, .int .i64 R.last, .slice ra41 rn41 rc41, .slice ea41 en41 ec41, .slice ca41 cn41 cc41])
  clear HX_43 HB_44 HB_45 HB_47 HO41
  go_wp2_with (first | (refine wpList_loadB rfl 27 (.tmp 2) rfl (w.heap.size) 27 _ _ (by exact rfl) (by exact HB_50.out) Tryz.underlying27 rfl (by exact size_docI) ?_) | (refine wpList_loadB rfl 66 (.tmp 3) rfl (w.heap.size + 1) 66 _ _ (by exact rfl) (by exact HB_51.out) Tryz.underlying66 rfl (by exact size_event) ?_) | (refine wpList_storeB rfl 27 (.tmp 5) _ rfl (w_6.heap.size) 27 _ _ (by exact rfl) (by exact rfl) (by exact HB_46.out) (by exact rfl) (by exact size_docI) (by simp [Value.oneCell']) ?_))
  refine (HRb.out _ HX_48.out).mono ?_
  rintro en w_54 ⟨⟨ra47, rn47, rc47, ea47, en47, ec47, ca47, cn47, cc47⟩, rfl, ho47, hx_55⟩
  dsimp only
  have HO47 := Lib.hid ho47
  have HS47 := Lib.hid (ho47.short HSr.out)
  clear ho47
  have HX_56 := Lib.hid (HX_48.out.trans hx_55)
  have HB_57 := Lib.hid (HB_50.out.ext hx_55)
  have HB_58 := Lib.hid (HB_51.out.ext hx_55)
  have HB_59 := Lib.hid (HB_52.out.ext hx_55)
  have HB_60 := Lib.hid (HB_53.out.ext hx_55)
  have HF_61 := Lib.hid (HF_49.out.ext hx_55)
  clear hx_55 HX_48 HB_50 HB_51 HB_52 HB_53 HF_49
  have HX_62 := Lib.hid (HX_56.out.put (g := w_17.heap.size) (by omega) 27 #[.string R.title, .string R.lang, .int .u8 R.rate, .bool R.drop, .int .i64 R.last, .slice ra47 rn47 rc47, .slice ea47 en47 ec47, .slice ca47 cn47 cc47])
  have HF_63 := Lib.hid (DocOwn.put HF_61.out HB_60.out #[.string R.title, .string R.lang, .int .u8 R.rate, .bool R.drop, .int .i64 R.last, .slice ra47 rn47 rc47, .slice ea47 en47 ec47, .slice ca47 cn47 cc47])
  have HF_64 := Lib.hid (DocOwn.put HO47.out HB_60.out #[.string R.title, .string R.lang, .int .u8 R.rate, .bool R.drop, .int .i64 R.last, .slice ra47 rn47 rc47, .slice ea47 en47 ec47, .slice ca47 cn47 cc47])
  have HB_65 := Lib.hid (HB_57.out.put_other (g' := w_17.heap.size) (t' := 27) (by omega) #[.string R.title, .string R.lang, .int .u8 R.rate, .bool R.drop, .int .i64 R.last, .slice ra47 rn47 rc47, .slice ea47 en47 ec47, .slice ca47 cn47 cc47])
  have HB_66 := Lib.hid (HB_58.out.put_other (g' := w_17.heap.size) (t' := 27) (by omega) #[.string R.title, .string R.lang, .int .u8 R.rate, .bool R.drop, .int .i64 R.last, .slice ra47 rn47 rc47, .slice ea47 en47 ec47, .slice ca47 cn47 cc47])
  have HB_67 := Lib.hid (HB_59.out.put_other (g' := w_17.heap.size) (t' := 27) (by omega) #[.string R.title, .string R.lang, .int .u8 R.rate, .bool R.drop, .int .i64 R.last, .slice ra47 rn47 rc47, .slice ea47 en47 ec47, .slice ca47 cn47 cc47])
  have HB_68 := Lib.hid (HB_60.out.put #[.string R.title, .string R.lang, .int .u8 R.rate, .bool R.drop, .int .i64 R.last, .slice ra47 rn47 rc47, .slice ea47 en47 ec47, .slice ca47 cn47 cc47])
  clear HX_56 HB_57 HB_58 HB_59 HF_61 HO47
  have hl48 := HB_68.out.lt
  go_wp2_with (refine wpList_storeB rfl 27 (.tmp 8) _ rfl (w_17.heap.size) 27 _ _ (by exact rfl) (by exact rfl) (by exact HB_60.out) (by exact rfl) (by exact size_docI) (by simp [Value.oneCell']) ?_)
  obtain ⟨W9, hW9⟩ : ∃ W9, W9 = putB w_54 (w_17.heap.size) 27 #[.string R.title, .string R.lang, .int .u8 R.rate, .bool R.drop, .int .i64 R.last, .slice ra47 rn47 rc47, .slice ea47 en47 ec47, .slice ca47 cn47 cc47] := ⟨_, rfl⟩
  rw [← hW9] at HX_62 HB_65 HB_66 HB_67 HB_68 HF_63 HF_64 ⊢
  clear hW9
  have HSa := Lib.hid (fun (y : EW W9) => R12Same_any R R ⟨ra41, rn41, rc41, ea41, en41, ec41, ca41, cn41, cc41⟩ ⟨ra47, rn47, rc47, ea47, en47, ec47, ca47, cn47, cc47⟩ y.w (HF_63.out.at_.ext y.ext) (HF_64.out.at_.ext y.ext) HS41.out HS47.out)
  have HSb := Lib.hid (fun (y : EW W9) => DSame_any R d ⟨ra41, rn41, rc41, ea41, en41, ec41, ca41, cn41, cc41⟩ ⟨hra, nr, hrc, hea, hen, hec, hca, nc, hcc⟩ y.w (HF_63.out.at_.ext y.ext) (HAt.out.ext (HX_62.out.trans y.ext)) HS41.out)
  have HSc := Lib.hid (fun (y : EW W9) => R12Same_big R d ⟨ra47, rn47, rc47, ea47, en47, ec47, ca47, cn47, cc47⟩ ⟨hra, nr, hrc, hea, hen, hec, hca, nc, hcc⟩ y.w (HF_64.out.at_.ext y.ext) (HAt.out.ext (HX_62.out.trans y.ext)) HS47.out HSh.out)
  rw [sameDoc_self] at HSa
  unfold Doc.cells at HSa HSb HSc
  dsimp only at HSa HSb HSc
  generalize sameDoc R d = Q at *
  clear HAt HSh HCa HCb HRa HRb
  have hr_69 := fun (x : EW W9) (o : Nat) => (HB_65.out.ext x.ext).cell o
  have hr_70 := fun (x : EW W9) (o : Nat) => (HB_67.out.ext x.ext).cell o
  have hr_71 := fun (x : EW W9) (o : Nat) => (HB_68.out.ext x.ext).cell o
  refine wp_region_ew W9 (Ext.refl _) (by kernel_rfl) (by kernel_rfl) ?_
  repeat (go_big_quiet_step ((first | (go_at_call 14; first | (with_reducible exact EW.calls _ (HSa.out _)) | (with_reducible exact EW.calls _ (HSc.out _))) | (go_at_call 19; exact EW.calls _ (HSb.out _)))))
  refine wpQuiet_nil ?_
  rintro w_72 ⟨⟨_, hx_73⟩, rfl⟩
  try dsimp only
  clear hr_69 hr_70 hr_71
  have HX_74 := Lib.hid (HX_62.out.trans hx_73)
  have HB_75 := Lib.hid (HB_65.out.ext hx_73)
  have HB_76 := Lib.hid (HB_66.out.ext hx_73)
  have HB_77 := Lib.hid (HB_67.out.ext hx_73)
  have HB_78 := Lib.hid (HB_68.out.ext hx_73)
  clear hx_73 HX_62 HB_65 HB_66 HB_67 HB_68
  go_wp2_with fail
  go_ret
  exact ⟨by simp, HX_74.out⟩
end Go.Proofs.YtagfedbdakmlgaaGreatDoor

/-! OpenR -/
namespace Go.Proofs.YtagfedbdakmlgaaGreatDoor
set_option linter.unusedVariables false
set_option linter.unusedSimpArgs false
open Go.RowKit Go.ChangeShapes Go.WideShapes Go.ChangeAt
set_option maxRecDepth 100000
end Go.Proofs.YtagfedbdakmlgaaGreatDoor
