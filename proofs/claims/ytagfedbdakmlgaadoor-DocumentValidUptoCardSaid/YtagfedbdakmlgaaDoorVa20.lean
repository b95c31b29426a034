/- Laid together: The walk of the law DocumentValid. -/
import Derived.Test.YtagfedbdakmlgaaDoorVa15
import Derived.Test.YtagfedbdakmlgaaDoorVa14
import Derived.Test.YtagfedbdakmlgaaDoorVa17
import Derived.Test.YtagfedbdakmlgaaDoorVa16
import Derived.Test.YtagfedbdakmlgaaDoorVa18
import Derived.Test.YtagfedbdakmlgaaDoorVa19
import Derived.Test.YtagfedbdakmlgaaDoorVa09

/-! LawVal12 -/
namespace Go.Proofs.YtagfedbdakmlgaaDoor
set_option linter.unusedVariables false
set_option linter.unusedSimpArgs false
open Go.RowKit
set_option maxRecDepth 100000 in
set_option maxHeartbeats 16000000 in
theorem DocumentValid_any (d : Doc) (h : DocH) (e : Ev) (A : Option Addr) (n c : Nat) (sh : Int) (w : World) (hE : Env w) (hat : DocAt w d h) (hi : DocIn d h) (he : EvAt w e A n c) (hes : EvSmall e) (hby : e.bytes ≤ 1099511627776) :
    Calls Tryd.prog 6 #[.agg (d.cells h), .agg (e.cells A n c), .int .i64 sh] w fun en w' => en = .returned (.bool true) ∧ Ext w w' := by
  have HX : Hid (Ext w ((w.alloc (.cells (d.cells h) 39)).alloc (.cells (e.cells A n c) 45))) := ((Ext.refl w).alloc _).alloc _
  have HB : Hid (Blk ((w.alloc (.cells (d.cells h) 39)).alloc (.cells (e.cells A n c) 45)) w.heap.size 39 (d.cells h)) := (Blk.new w _ _).alloc _
  have HT : Hid (Blk ((w.alloc (.cells (d.cells h) 39)).alloc (.cells (e.cells A n c) 45)) (w.heap.size + 1) 45 (e.cells A n c)) := Blk.new' (by simp)
  have HEn := Lib.hid hE
  have HCa := Lib.hid (fun w' (hx : Ext w w') => DInsert_any d h e A n c w' (hE.ext hx) (hat.ext hx) hi.fit hi.rn hi.rc.2 hi.en hi.cn (he.ext hx) hes)
  have HCb := Lib.hid (fun w' (hx : Ext w w') => DPut_any d h e A n c w' (hE.ext hx) (hat.ext hx) hi.fit hi.rn hi.rc.2 hi.en hi.cn (he.ext hx) hes hby)
  have HCc := Lib.hid (fun w' (hx : Ext w w') => DRemove_any d h e.id w' (hE.ext hx) (hat.ext hx) hi.fit hi.rn hi.rc.2 hi.en hi.cn)
  have HCs := Lib.hid (fun w' (hx : Ext w w') => DShift_any d h e.inn sh w' (hE.ext hx) (hat.ext hx) hi.fit hi.rn hi.rc.2 hi.en hi.cn)
  have HVa := Lib.hid (fun hz => val_ins (d := d) (e := e) hi.fit hes hby hz)
  have HVb := Lib.hid (fun hz => val_put (d := d) (e := e) hi.fit hes hby hz)
  have HVc := Lib.hid (fun hz => val_rem (d := d) (id := e.id) hi.fit hz)
  have HVs := Lib.hid (fun hz => val_sh (d := d) (fr := e.inn) (sh := sh) hi.fit hz)
  have HAt := Lib.hid hat
  have HEs := Lib.hid hi.fit.evs
  have hnE := hi.en
  clear hE hat hi he hes hby
  unfold DIEPost at HCa
  unfold DEPost at HCb HCc HCs
  unfold Doc.cells at HX HB HT HCa HCb HCc HCs
  unfold Ev.cells at HX HB HT HCa HCb
  generalize hC1 : (d.insX e).1 = D5 at *
  generalize (d.insX e).2.1 = ci at *
  generalize (d.insX e).2.2 = f5 at *
  generalize hC2 : (d.putX e).1 = D6 at *
  generalize (d.putX e).2 = f6 at *
  generalize hC3 : (d.remX e.id).1 = D7 at *
  generalize (d.remX e.id).2 = f7 at *
  generalize hC4 : (d.shX e.inn sh).1 = D8 at *
  generalize (d.shX e.inn sh).2 = f8 at *
  clear hC1 hC2 hC3 hC4
  obtain ⟨hra, nr, hrc, hea, hen, hec, hca, nc, hcc⟩ := h
  dsimp only at *
  have hLe := HAt.out.evs.len
  dsimp only at hLe
  unfold Doc.cells Ev.cells
  dsimp only
  go_enter Tryd.func6, Tryd.ntmps6
  go_wp2_with fail
  refine (awake12_any _ (HEn.out.ext HX.out)).mono ?_
  rintro en w_1 ⟨rfl, hx_2⟩
  have HX_3 := Lib.hid (HX.out.trans hx_2)
  have HB_4 := Lib.hid (HB.out.ext hx_2)
  have HB_5 := Lib.hid (HT.out.ext hx_2)
  clear hx_2 HX HB HT
  go_wp2_with (first | (refine wpList_loadB rfl 39 (.tmp 3) rfl (w.heap.size) 39 _ _ (by exact rfl) (by exact HB_4.out) Tryd.underlying39 rfl (by exact size_docI) ?_) | (refine wpList_loadB rfl 45 (.tmp 4) rfl (w.heap.size + 1) 45 _ _ (by exact rfl) (by exact HB_5.out) Tryd.underlying45 rfl (by exact size_event) ?_))
  refine (HCa.out _ HX_3.out).mono ?_
  rintro en w_6 ⟨⟨ra5, rn5, rc5, ea5, en5, ec5, ca5, cn5, cc5⟩, rfl, ho5, hx_7⟩
  dsimp only
  have HO5 := Lib.hid ho5.at_
  have HL5 := Lib.hid (And.intro ho5.rlen (And.intro ho5.evs.len ho5.clen))
  dsimp only at HL5
  clear ho5
  have HX_8 := Lib.hid (HX_3.out.trans hx_7)
  have HB_9 := Lib.hid (HB_4.out.ext hx_7)
  have HB_10 := Lib.hid (HB_5.out.ext hx_7)
  clear hx_7 HX_3 HB_4 HB_5
  have hl5 := HB_10.out.lt
  have HB_11 := Lib.hid (Blk.new w_6 39 #[.string D5.title, .string D5.lang, .int .u8 D5.rate, .bool D5.drop, .int .i64 D5.last, .slice ra5 rn5 rc5, .slice ea5 en5 ec5, .slice ca5 cn5 cc5])
  have ha_12 := (Ext.refl w_6).alloc (.cells #[.string D5.title, .string D5.lang, .int .u8 D5.rate, .bool D5.drop, .int .i64 D5.last, .slice ra5 rn5 rc5, .slice ea5 en5 ec5, .slice ca5 cn5 cc5] 39)
  have HX_13 := Lib.hid (HX_8.out.trans ha_12)
  have HB_14 := Lib.hid (HB_9.out.ext ha_12)
  have HB_15 := Lib.hid (HB_10.out.ext ha_12)
  have HF_16 := Lib.hid (HO5.out.ext ha_12)
  clear ha_12 HX_8 HB_9 HB_10 HO5
  go_wp2_with (first | (refine wpList_loadB rfl 39 (.tmp 3) rfl (w.heap.size) 39 _ _ (by exact rfl) (by exact HB_14.out) Tryd.underlying39 rfl (by exact size_docI) ?_) | (refine wpList_loadB rfl 45 (.tmp 4) rfl (w.heap.size + 1) 45 _ _ (by exact rfl) (by exact HB_15.out) Tryd.underlying45 rfl (by exact size_event) ?_))
  refine (HCb.out _ HX_13.out).mono ?_
  rintro en w_17 ⟨⟨ra6, rn6, rc6, ea6, en6, ec6, ca6, cn6, cc6⟩, rfl, ho6, hx_18⟩
  dsimp only
  have HO6 := Lib.hid ho6.at_
  have HL6 := Lib.hid (And.intro ho6.rlen (And.intro ho6.evs.len ho6.clen))
  dsimp only at HL6
  clear ho6
  have HX_19 := Lib.hid (HX_13.out.trans hx_18)
  have HB_20 := Lib.hid (HB_14.out.ext hx_18)
  have HB_21 := Lib.hid (HB_15.out.ext hx_18)
  have HB_22 := Lib.hid (HB_11.out.ext hx_18)
  have HF_23 := Lib.hid (HF_16.out.ext hx_18)
  clear hx_18 HX_13 HB_14 HB_15 HB_11 HF_16
  have hl6 := HB_22.out.lt
  have HB_24 := Lib.hid (Blk.new w_17 39 #[.string D6.title, .string D6.lang, .int .u8 D6.rate, .bool D6.drop, .int .i64 D6.last, .slice ra6 rn6 rc6, .slice ea6 en6 ec6, .slice ca6 cn6 cc6])
  have ha_25 := (Ext.refl w_17).alloc (.cells #[.string D6.title, .string D6.lang, .int .u8 D6.rate, .bool D6.drop, .int .i64 D6.last, .slice ra6 rn6 rc6, .slice ea6 en6 ec6, .slice ca6 cn6 cc6] 39)
  have HX_26 := Lib.hid (HX_19.out.trans ha_25)
  have HB_27 := Lib.hid (HB_20.out.ext ha_25)
  have HB_28 := Lib.hid (HB_21.out.ext ha_25)
  have HB_29 := Lib.hid (HB_22.out.ext ha_25)
  have HF_30 := Lib.hid (HF_23.out.ext ha_25)
  have HF_31 := Lib.hid (HO6.out.ext ha_25)
  clear ha_25 HX_19 HB_20 HB_21 HB_22 HF_23 HO6
  have hc_32 := fun o => HB_28.out.cell o
  go_wp2_with (first | (refine wpList_loadB rfl 39 (.tmp 3) rfl (w.heap.size) 39 _ _ (by exact rfl) (by exact HB_27.out) Tryd.underlying39 rfl (by exact size_docI) ?_) | (refine wpList_loadB rfl 45 (.tmp 4) rfl (w.heap.size + 1) 45 _ _ (by exact rfl) (by exact HB_28.out) Tryd.underlying45 rfl (by exact size_event) ?_))
  clear hc_32
  refine (HCc.out _ HX_26.out).mono ?_
  rintro en w_33 ⟨⟨ra7, rn7, rc7, ea7, en7, ec7, ca7, cn7, cc7⟩, rfl, ho7, hx_34⟩
  dsimp only
  have HO7 := Lib.hid ho7.at_
  have HL7 := Lib.hid (And.intro ho7.rlen (And.intro ho7.evs.len ho7.clen))
  dsimp only at HL7
  clear ho7
  have HX_35 := Lib.hid (HX_26.out.trans hx_34)
  have HB_36 := Lib.hid (HB_27.out.ext hx_34)
  have HB_37 := Lib.hid (HB_28.out.ext hx_34)
  have HB_38 := Lib.hid (HB_29.out.ext hx_34)
  have HB_39 := Lib.hid (HB_24.out.ext hx_34)
  have HF_40 := Lib.hid (HF_30.out.ext hx_34)
  have HF_41 := Lib.hid (HF_31.out.ext hx_34)
  clear hx_34 HX_26 HB_27 HB_28 HB_29 HB_24 HF_30 HF_31
  have hl7 := HB_39.out.lt
  have HB_42 := Lib.hid (Blk.new w_33 39 #[.string D7.title, .string D7.lang, .int .u8 D7.rate, .bool D7.drop, .int .i64 D7.last, .slice ra7 rn7 rc7, .slice ea7 en7 ec7, .slice ca7 cn7 cc7])
  have ha_43 := (Ext.refl w_33).alloc (.cells #[.string D7.title, .string D7.lang, .int .u8 D7.rate, .bool D7.drop, .int .i64 D7.last, .slice ra7 rn7 rc7, .slice ea7 en7 ec7, .slice ca7 cn7 cc7] 39)
  have HX_44 := Lib.hid (HX_35.out.trans ha_43)
  have HB_45 := Lib.hid (HB_36.out.ext ha_43)
  have HB_46 := Lib.hid (HB_37.out.ext ha_43)
  have HB_47 := Lib.hid (HB_38.out.ext ha_43)
  have HB_48 := Lib.hid (HB_39.out.ext ha_43)
  have HF_49 := Lib.hid (HF_40.out.ext ha_43)
  have HF_50 := Lib.hid (HF_41.out.ext ha_43)
  have HF_51 := Lib.hid (HO7.out.ext ha_43)
  clear ha_43 HX_35 HB_36 HB_37 HB_38 HB_39 HF_40 HF_41 HO7
  have hc_52 := fun o => HB_46.out.cell o
  go_wp2_with (first | (refine wpList_loadB rfl 39 (.tmp 3) rfl (w.heap.size) 39 _ _ (by exact rfl) (by exact HB_45.out) Tryd.underlying39 rfl (by exact size_docI) ?_) | (refine wpList_loadB rfl 45 (.tmp 4) rfl (w.heap.size + 1) 45 _ _ (by exact rfl) (by exact HB_46.out) Tryd.underlying45 rfl (by exact size_event) ?_))
  clear hc_52
  refine (HCs.out _ HX_44.out).mono ?_
  rintro en w_53 ⟨⟨ra8, rn8, rc8, ea8, en8, ec8, ca8, cn8, cc8⟩, rfl, ho8, hx_54⟩
  dsimp only
  have HO8 := Lib.hid ho8.at_
  have HL8 := Lib.hid (And.intro ho8.rlen (And.intro ho8.evs.len ho8.clen))
  dsimp only at HL8
  clear ho8
  have HX_55 := Lib.hid (HX_44.out.trans hx_54)
  have HB_56 := Lib.hid (HB_45.out.ext hx_54)
  have HB_57 := Lib.hid (HB_46.out.ext hx_54)
  have HB_58 := Lib.hid (HB_47.out.ext hx_54)
  have HB_59 := Lib.hid (HB_48.out.ext hx_54)
  have HB_60 := Lib.hid (HB_42.out.ext hx_54)
  have HF_61 := Lib.hid (HF_49.out.ext hx_54)
  have HF_62 := Lib.hid (HF_50.out.ext hx_54)
  have HF_63 := Lib.hid (HF_51.out.ext hx_54)
  clear hx_54 HX_44 HB_45 HB_46 HB_47 HB_48 HB_42 HF_49 HF_50 HF_51
  have hl8 := HB_60.out.lt
  have HB_64 := Lib.hid (Blk.new w_53 39 #[.string D8.title, .string D8.lang, .int .u8 D8.rate, .bool D8.drop, .int .i64 D8.last, .slice ra8 rn8 rc8, .slice ea8 en8 ec8, .slice ca8 cn8 cc8])
  have ha_65 := (Ext.refl w_53).alloc (.cells #[.string D8.title, .string D8.lang, .int .u8 D8.rate, .bool D8.drop, .int .i64 D8.last, .slice ra8 rn8 rc8, .slice ea8 en8 ec8, .slice ca8 cn8 cc8] 39)
  have HX_66 := Lib.hid (HX_55.out.trans ha_65)
  have HB_67 := Lib.hid (HB_56.out.ext ha_65)
  have HB_68 := Lib.hid (HB_57.out.ext ha_65)
  have HB_69 := Lib.hid (HB_58.out.ext ha_65)
  have HB_70 := Lib.hid (HB_59.out.ext ha_65)
  have HB_71 := Lib.hid (HB_60.out.ext ha_65)
  have HF_72 := Lib.hid (HF_61.out.ext ha_65)
  have HF_73 := Lib.hid (HF_62.out.ext ha_65)
  have HF_74 := Lib.hid (HF_63.out.ext ha_65)
  have HF_75 := Lib.hid (HO8.out.ext ha_65)
  clear ha_65 HX_55 HB_56 HB_57 HB_58 HB_59 HB_60 HF_61 HF_62 HF_63 HO8
  clear HCa HCb HCc HCs
  go_upto_region 7 with fail
  obtain ⟨W0, hW0⟩ : ∃ W0, W0 = (w_53.alloc (.cells #[.string D8.title, .string D8.lang, .int .u8 D8.rate, .bool D8.drop, .int .i64 D8.last, .slice ra8 rn8 rc8, .slice ea8 en8 ec8, .slice ca8 cn8 cc8] 39)) := ⟨_, rfl⟩
  rw [← hW0] at HX_66 HB_67 HB_68 HB_69 HB_70 HB_71 HB_64 HF_72 HF_73 HF_74 HF_75 ⊢
  clear hW0
  go_cut [78] from 50 to 78 (fun s78 wr => s78 = .bool false ∧ Ext W0 wr)
  case first =>
    have HXc := Lib.hid (Ext.refl W0)
    by_cases hf : f5 = 0
    case neg =>
      have hb : (f5 == 0) = false := by simpa using hf
      clear hf
      go_wp2_with fail
      go_meet
      case rel => exact ⟨rfl, HXc.out⟩
    subst hf
    obtain ⟨v1, v2, v3, v4, v5, -⟩ := HVa.out rfl
    have hsh := valid_short v1
    obtain ⟨l1, l2, l3⟩ := HL5.out
    have HCk := Lib.hid (fun w' (hx : Ext W0 w') => DCheck_any D5 ⟨ra5, rn5, rc5, ea5, en5, ec5, ca5, cn5, cc5⟩ w' (HEn.out.ext (HX_66.out.trans hx)) (HF_72.out.ext hx) v5 (by have := hsh.1; dsimp only; omega) (by have := hsh.2.1; have := (doc_ok v1).2.2.1; dsimp only; omega) (by have := hsh.2.2; dsimp only; omega))
    rw [v1] at HCk
    unfold Doc.cells at HCk
    dsimp only at HCk
    have HFa := Lib.hid (fun w' (hx : Ext W0 w') => DFind_any D5 ⟨ra5, rn5, rc5, ea5, en5, ec5, ca5, cn5, cc5⟩ ci w' (HF_72.out.evs.ext hx) (by dsimp only; have := (doc_ok v1).2.2.1; omega))
    have HFd := Lib.hid (fun w' (hx : Ext W0 w') => DFind_any d ⟨hra, nr, hrc, hea, hen, hec, hca, nc, hcc⟩ ci w' (HAt.out.evs.ext (HX_66.out.trans hx)) (by dsimp only; omega))
    unfold Doc.cells at HFa HFd
    dsimp only at HFa HFd
    generalize findI D5.evs ci = q1 at *
    generalize findI d.evs ci = q2 at *
    have hq1 : ¬ q1 < 0 := by omega
    have hq2 : ¬ 0 ≤ q2 := by omega
    have hle : en5 = hen + 1 := by omega
    clear v1 v2 v5 v3 v4 hsh l1 l2 l3
    have hli : (en5 : Int) = (hen : Int) + 1 := by omega
    clear hle
    have hc_76 := fun o => HB_69.out.cell o
    have hc_77 := fun o => HB_67.out.cell o
    go_wp2_with fail
    clear hc_76 hc_77
    refine (HCk.out _ HXc.out).mono ?_
    rintro en w_78 ⟨rfl, hx_79⟩
    replace HXc := Lib.hid (HXc.out.trans hx_79)
    have HX_80 := Lib.hid (HX_66.out.trans hx_79)
    have HB_81 := Lib.hid (HB_67.out.ext hx_79)
    have HB_82 := Lib.hid (HB_68.out.ext hx_79)
    have HB_83 := Lib.hid (HB_69.out.ext hx_79)
    have HB_84 := Lib.hid (HB_70.out.ext hx_79)
    have HB_85 := Lib.hid (HB_71.out.ext hx_79)
    have HB_86 := Lib.hid (HB_64.out.ext hx_79)
    have HF_87 := Lib.hid (HF_72.out.ext hx_79)
    have HF_88 := Lib.hid (HF_73.out.ext hx_79)
    have HF_89 := Lib.hid (HF_74.out.ext hx_79)
    have HF_90 := Lib.hid (HF_75.out.ext hx_79)
    clear hx_79 HX_66 HB_67 HB_68 HB_69 HB_70 HB_71 HB_64 HF_72 HF_73 HF_74 HF_75
    have hc_91 := fun o => HB_83.out.cell o
    have hc_92 := fun o => HB_81.out.cell o
    go_wp2_with fail
    clear hc_91 hc_92
    refine (HFa.out _ HXc.out).mono ?_
    rintro en w_93 ⟨rfl, hx_94⟩
    replace HXc := Lib.hid (HXc.out.trans hx_94)
    have HX_95 := Lib.hid (HX_80.out.trans hx_94)
    have HB_96 := Lib.hid (HB_81.out.ext hx_94)
    have HB_97 := Lib.hid (HB_82.out.ext hx_94)
    have HB_98 := Lib.hid (HB_83.out.ext hx_94)
    have HB_99 := Lib.hid (HB_84.out.ext hx_94)
    have HB_100 := Lib.hid (HB_85.out.ext hx_94)
    have HB_101 := Lib.hid (HB_86.out.ext hx_94)
    have HF_102 := Lib.hid (HF_87.out.ext hx_94)
    have HF_103 := Lib.hid (HF_88.out.ext hx_94)
    have HF_104 := Lib.hid (HF_89.out.ext hx_94)
    have HF_105 := Lib.hid (HF_90.out.ext hx_94)
    clear hx_94 HX_80 HB_81 HB_82 HB_83 HB_84 HB_85 HB_86 HF_87 HF_88 HF_89 HF_90
    have hc_106 := fun o => HB_98.out.cell o
    have hc_107 := fun o => HB_96.out.cell o
    go_wp2_with fail
    clear hc_106 hc_107
    refine (HFd.out _ HXc.out).mono ?_
    rintro en w_108 ⟨rfl, hx_109⟩
    replace HXc := Lib.hid (HXc.out.trans hx_109)
    have HX_110 := Lib.hid (HX_95.out.trans hx_109)
    have HB_111 := Lib.hid (HB_96.out.ext hx_109)
    have HB_112 := Lib.hid (HB_97.out.ext hx_109)
    have HB_113 := Lib.hid (HB_98.out.ext hx_109)
    have HB_114 := Lib.hid (HB_99.out.ext hx_109)
    have HB_115 := Lib.hid (HB_100.out.ext hx_109)
    have HB_116 := Lib.hid (HB_101.out.ext hx_109)
    have HF_117 := Lib.hid (HF_102.out.ext hx_109)
    have HF_118 := Lib.hid (HF_103.out.ext hx_109)
    have HF_119 := Lib.hid (HF_104.out.ext hx_109)
    have HF_120 := Lib.hid (HF_105.out.ext hx_109)
    clear hx_109 HX_95 HB_96 HB_97 HB_98 HB_99 HB_100 HB_101 HF_102 HF_103 HF_104 HF_105
    have hc_121 := fun o => HB_113.out.cell o
    have hc_122 := fun o => HB_111.out.cell o
    go_wp2_with fail
    clear hc_121 hc_122
    go_meet
    case rel => exact ⟨by simp [hq1, hq2], HXc.out⟩
  case rest =>
  obtain ⟨rfl, hxc⟩ := hcut
  obtain ⟨wk7, rfl⟩ : ∃ wk : World, wk = wc := ⟨_, rfl⟩
  have HX_123 := Lib.hid (HX_66.out.trans hxc)
  have HB_124 := Lib.hid (HB_67.out.ext hxc)
  have HB_125 := Lib.hid (HB_68.out.ext hxc)
  have HB_126 := Lib.hid (HB_69.out.ext hxc)
  have HB_127 := Lib.hid (HB_70.out.ext hxc)
  have HB_128 := Lib.hid (HB_71.out.ext hxc)
  have HB_129 := Lib.hid (HB_64.out.ext hxc)
  have HF_130 := Lib.hid (HF_72.out.ext hxc)
  have HF_131 := Lib.hid (HF_73.out.ext hxc)
  have HF_132 := Lib.hid (HF_74.out.ext hxc)
  have HF_133 := Lib.hid (HF_75.out.ext hxc)
  clear hxc HX_66 HB_67 HB_68 HB_69 HB_70 HB_71 HB_64 HF_72 HF_73 HF_74 HF_75
  go_upto_region 9 with fail
  go_cut [94] from 79 to 94 (fun s94 wr => s94 = .bool false ∧ Ext wk7 wr)
  case first =>
    have HXc := Lib.hid (Ext.refl wk7)
    by_cases hf : f6 = 0
    case neg =>
      have hb : (f6 == 0) = false := by simpa using hf
      clear hf
      go_wp2_with fail
      go_meet
      case rel => exact ⟨rfl, HXc.out⟩
    subst hf
    obtain ⟨v1, v2, v5, -⟩ := HVb.out rfl
    have hsh := valid_short v1
    obtain ⟨l1, l2, l3⟩ := HL6.out
    have HCk := Lib.hid (fun w' (hx : Ext wk7 w') => DCheck_any D6 ⟨ra6, rn6, rc6, ea6, en6, ec6, ca6, cn6, cc6⟩ w' (HEn.out.ext (HX_123.out.trans hx)) (HF_131.out.ext hx) v5 (by have := hsh.1; dsimp only; omega) (by have := hsh.2.1; have := (doc_ok v1).2.2.1; dsimp only; omega) (by have := hsh.2.2; dsimp only; omega))
    rw [v1] at HCk
    unfold Doc.cells at HCk
    dsimp only at HCk
    have hle : en6 = hen := by omega
    clear v1 v2 v5 hsh l1 l2 l3
    have hli : (en6 : Int) = (hen : Int) := by omega
    clear hle
    have hc_134 := fun o => HB_127.out.cell o
    have hc_135 := fun o => HB_124.out.cell o
    go_wp2_with fail
    clear hc_134 hc_135
    refine (HCk.out _ HXc.out).mono ?_
    rintro en w_136 ⟨rfl, hx_137⟩
    replace HXc := Lib.hid (HXc.out.trans hx_137)
    have HX_138 := Lib.hid (HX_123.out.trans hx_137)
    have HB_139 := Lib.hid (HB_124.out.ext hx_137)
    have HB_140 := Lib.hid (HB_125.out.ext hx_137)
    have HB_141 := Lib.hid (HB_126.out.ext hx_137)
    have HB_142 := Lib.hid (HB_127.out.ext hx_137)
    have HB_143 := Lib.hid (HB_128.out.ext hx_137)
    have HB_144 := Lib.hid (HB_129.out.ext hx_137)
    have HF_145 := Lib.hid (HF_130.out.ext hx_137)
    have HF_146 := Lib.hid (HF_131.out.ext hx_137)
    have HF_147 := Lib.hid (HF_132.out.ext hx_137)
    have HF_148 := Lib.hid (HF_133.out.ext hx_137)
    clear hx_137 HX_123 HB_124 HB_125 HB_126 HB_127 HB_128 HB_129 HF_130 HF_131 HF_132 HF_133
    have hc_149 := fun o => HB_142.out.cell o
    have hc_150 := fun o => HB_139.out.cell o
    go_wp2_with fail
    clear hc_149 hc_150
    go_meet
    case rel => exact ⟨by simp, HXc.out⟩
  case rest =>
  obtain ⟨rfl, hxc⟩ := hcut
  obtain ⟨wk9, rfl⟩ : ∃ wk : World, wk = wc := ⟨_, rfl⟩
  have HX_151 := Lib.hid (HX_123.out.trans hxc)
  have HB_152 := Lib.hid (HB_124.out.ext hxc)
  have HB_153 := Lib.hid (HB_125.out.ext hxc)
  have HB_154 := Lib.hid (HB_126.out.ext hxc)
  have HB_155 := Lib.hid (HB_127.out.ext hxc)
  have HB_156 := Lib.hid (HB_128.out.ext hxc)
  have HB_157 := Lib.hid (HB_129.out.ext hxc)
  have HF_158 := Lib.hid (HF_130.out.ext hxc)
  have HF_159 := Lib.hid (HF_131.out.ext hxc)
  have HF_160 := Lib.hid (HF_132.out.ext hxc)
  have HF_161 := Lib.hid (HF_133.out.ext hxc)
  clear hxc HX_123 HB_124 HB_125 HB_126 HB_127 HB_128 HB_129 HF_130 HF_131 HF_132 HF_133
  go_upto_region 11 with fail
  go_cut [111] from 95 to 111 (fun s111 wr => s111 = .bool false ∧ Ext wk9 wr)
  case first =>
    have HXc := Lib.hid (Ext.refl wk9)
    by_cases hf : f7 = 0
    case neg =>
      have hb : (f7 == 0) = false := by simpa using hf
      clear hf
      go_wp2_with fail
      go_meet
      case rel => exact ⟨rfl, HXc.out⟩
    subst hf
    obtain ⟨v1, v2, v5, -⟩ := HVc.out rfl
    have hsh := valid_short v1
    obtain ⟨l1, l2, l3⟩ := HL7.out
    have HCk := Lib.hid (fun w' (hx : Ext wk9 w') => DCheck_any D7 ⟨ra7, rn7, rc7, ea7, en7, ec7, ca7, cn7, cc7⟩ w' (HEn.out.ext (HX_151.out.trans hx)) (HF_160.out.ext hx) v5 (by have := hsh.1; dsimp only; omega) (by have := hsh.2.1; have := (doc_ok v1).2.2.1; dsimp only; omega) (by have := hsh.2.2; dsimp only; omega))
    rw [v1] at HCk
    unfold Doc.cells at HCk
    dsimp only at HCk
    have hle : hen = en7 + 1 := by omega
    clear v1 v2 v5 hsh l1 l2 l3
    have hli : (hen : Int) - 1 = (en7 : Int) := by omega
    clear hle
    have hc_162 := fun o => HB_156.out.cell o
    have hc_163 := fun o => HB_152.out.cell o
    go_wp2_with fail
    clear hc_162 hc_163
    refine (HCk.out _ HXc.out).mono ?_
    rintro en w_164 ⟨rfl, hx_165⟩
    replace HXc := Lib.hid (HXc.out.trans hx_165)
    have HX_166 := Lib.hid (HX_151.out.trans hx_165)
    have HB_167 := Lib.hid (HB_152.out.ext hx_165)
    have HB_168 := Lib.hid (HB_153.out.ext hx_165)
    have HB_169 := Lib.hid (HB_154.out.ext hx_165)
    have HB_170 := Lib.hid (HB_155.out.ext hx_165)
    have HB_171 := Lib.hid (HB_156.out.ext hx_165)
    have HB_172 := Lib.hid (HB_157.out.ext hx_165)
    have HF_173 := Lib.hid (HF_158.out.ext hx_165)
    have HF_174 := Lib.hid (HF_159.out.ext hx_165)
    have HF_175 := Lib.hid (HF_160.out.ext hx_165)
    have HF_176 := Lib.hid (HF_161.out.ext hx_165)
    clear hx_165 HX_151 HB_152 HB_153 HB_154 HB_155 HB_156 HB_157 HF_158 HF_159 HF_160 HF_161
    have hc_177 := fun o => HB_171.out.cell o
    have hc_178 := fun o => HB_167.out.cell o
    go_wp2_with fail
    clear hc_177 hc_178
    go_meet
    case rel => exact ⟨by simp, HXc.out⟩
  case rest =>
  obtain ⟨rfl, hxc⟩ := hcut
  obtain ⟨wk11, rfl⟩ : ∃ wk : World, wk = wc := ⟨_, rfl⟩
  have HX_179 := Lib.hid (HX_151.out.trans hxc)
  have HB_180 := Lib.hid (HB_152.out.ext hxc)
  have HB_181 := Lib.hid (HB_153.out.ext hxc)
  have HB_182 := Lib.hid (HB_154.out.ext hxc)
  have HB_183 := Lib.hid (HB_155.out.ext hxc)
  have HB_184 := Lib.hid (HB_156.out.ext hxc)
  have HB_185 := Lib.hid (HB_157.out.ext hxc)
  have HF_186 := Lib.hid (HF_158.out.ext hxc)
  have HF_187 := Lib.hid (HF_159.out.ext hxc)
  have HF_188 := Lib.hid (HF_160.out.ext hxc)
  have HF_189 := Lib.hid (HF_161.out.ext hxc)
  clear hxc HX_151 HB_152 HB_153 HB_154 HB_155 HB_156 HB_157 HF_158 HF_159 HF_160 HF_161
  go_upto_region 13 with fail
  go_cut [127] from 112 to 127 (fun s127 wr => s127 = .bool false ∧ Ext wk11 wr)
  case first =>
    have HXc := Lib.hid (Ext.refl wk11)
    by_cases hf : f8 = 0
    case neg =>
      have hb : (f8 == 0) = false := by simpa using hf
      clear hf
      go_wp2_with fail
      go_meet
      case rel => exact ⟨rfl, HXc.out⟩
    subst hf
    obtain ⟨v1, v2, v5, -⟩ := HVs.out rfl
    have hsh := valid_short v1
    obtain ⟨l1, l2, l3⟩ := HL8.out
    have HCk := Lib.hid (fun w' (hx : Ext wk11 w') => DCheck_any D8 ⟨ra8, rn8, rc8, ea8, en8, ec8, ca8, cn8, cc8⟩ w' (HEn.out.ext (HX_179.out.trans hx)) (HF_189.out.ext hx) v5 (by have := hsh.1; dsimp only; omega) (by have := hsh.2.1; have := (doc_ok v1).2.2.1; dsimp only; omega) (by have := hsh.2.2; dsimp only; omega))
    rw [v1] at HCk
    unfold Doc.cells at HCk
    dsimp only at HCk
    have hle : en8 = hen := by omega
    clear v1 v2 v5 hsh l1 l2 l3
    have hli : (en8 : Int) = (hen : Int) := by omega
    clear hle
    have hc_190 := fun o => HB_185.out.cell o
    have hc_191 := fun o => HB_180.out.cell o
    go_wp2_with fail
    clear hc_190 hc_191
    refine (HCk.out _ HXc.out).mono ?_
    rintro en w_192 ⟨rfl, hx_193⟩
    replace HXc := Lib.hid (HXc.out.trans hx_193)
    have HX_194 := Lib.hid (HX_179.out.trans hx_193)
    have HB_195 := Lib.hid (HB_180.out.ext hx_193)
    have HB_196 := Lib.hid (HB_181.out.ext hx_193)
    have HB_197 := Lib.hid (HB_182.out.ext hx_193)
    have HB_198 := Lib.hid (HB_183.out.ext hx_193)
    have HB_199 := Lib.hid (HB_184.out.ext hx_193)
    have HB_200 := Lib.hid (HB_185.out.ext hx_193)
    have HF_201 := Lib.hid (HF_186.out.ext hx_193)
    have HF_202 := Lib.hid (HF_187.out.ext hx_193)
    have HF_203 := Lib.hid (HF_188.out.ext hx_193)
    have HF_204 := Lib.hid (HF_189.out.ext hx_193)
    clear hx_193 HX_179 HB_180 HB_181 HB_182 HB_183 HB_184 HB_185 HF_186 HF_187 HF_188 HF_189
    have hc_205 := fun o => HB_200.out.cell o
    have hc_206 := fun o => HB_195.out.cell o
    go_wp2_with fail
    clear hc_205 hc_206
    go_meet
    case rel => exact ⟨by simp, HXc.out⟩
  case rest =>
  obtain ⟨rfl, hxc⟩ := hcut
  obtain ⟨wk13, rfl⟩ : ∃ wk : World, wk = wc := ⟨_, rfl⟩
  have HX_207 := Lib.hid (HX_179.out.trans hxc)
  have HB_208 := Lib.hid (HB_180.out.ext hxc)
  have HB_209 := Lib.hid (HB_181.out.ext hxc)
  have HB_210 := Lib.hid (HB_182.out.ext hxc)
  have HB_211 := Lib.hid (HB_183.out.ext hxc)
  have HB_212 := Lib.hid (HB_184.out.ext hxc)
  have HB_213 := Lib.hid (HB_185.out.ext hxc)
  have HF_214 := Lib.hid (HF_186.out.ext hxc)
  have HF_215 := Lib.hid (HF_187.out.ext hxc)
  have HF_216 := Lib.hid (HF_188.out.ext hxc)
  have HF_217 := Lib.hid (HF_189.out.ext hxc)
  clear hxc HX_179 HB_180 HB_181 HB_182 HB_183 HB_184 HB_185 HF_186 HF_187 HF_188 HF_189
  have hc_218 := fun o => HB_208.out.cell o
  go_wp2_with fail
  clear hc_218
  go_loopw [131] (fun i wr => ∃ k : Nat, k ≤ hen ∧ i = .int .i64 k ∧ Ext wk13 wr) (fun i _ => hen - (intOf i).toNat)
  case atStart => exact ⟨0, Nat.zero_le _, rfl, Ext.refl _⟩
  case round =>
    obtain ⟨k, hk, rfl, hx⟩ := hrel
    have HXr := Lib.hid hx
    have HX_219 := Lib.hid (HX_207.out.trans hx)
    have HB_220 := Lib.hid (HB_208.out.ext hx)
    have HB_221 := Lib.hid (HB_209.out.ext hx)
    have HB_222 := Lib.hid (HB_210.out.ext hx)
    have HB_223 := Lib.hid (HB_211.out.ext hx)
    have HB_224 := Lib.hid (HB_212.out.ext hx)
    have HB_225 := Lib.hid (HB_213.out.ext hx)
    have HF_226 := Lib.hid (HF_214.out.ext hx)
    have HF_227 := Lib.hid (HF_215.out.ext hx)
    have HF_228 := Lib.hid (HF_216.out.ext hx)
    have HF_229 := Lib.hid (HF_217.out.ext hx)
    clear hx HX_207 HB_208 HB_209 HB_210 HB_211 HB_212 HB_213 HF_214 HF_215 HF_216 HF_217
    by_cases hlt : k < hen
    case neg =>
      go_wp2_with fail
      go_ret
      exact ⟨rfl, HX_219.out⟩
    obtain ⟨b1, o1, x, A1, n1, c1', hA1, hxx, hat1, c0, c1, c2, c3, c4, c5, c6⟩ := (HAt.out.evs.ext HX_219.out).at_ev hlt
    subst hA1
    have hxm := List.mem_of_getElem? hxx
    have hsm := HEs.out x hxm
    have HXm := Lib.hid hxm
    have HXa := Lib.hid hat1
    clear hxx hxm hat1
    have hk0 : (0 : Int) ≤ (k : Int) := by omega
    have hk1 : (k : Int) < (hen : Int) := by omega
    go_upto_region 18 with fail
    clear c0 c1 c2 c3 c4 c5 c6
    have HB_230 := Lib.hid (Blk.new wr 45 #[.int .i64 x.id, .int .i64 x.inn, .int .i64 x.out, .string x.region, .int .u8 x.kind, .string x.speaker, .slice A1 n1 c1'])
    have ha_231 := (Ext.refl wr).alloc (.cells #[.int .i64 x.id, .int .i64 x.inn, .int .i64 x.out, .string x.region, .int .u8 x.kind, .string x.speaker, .slice A1 n1 c1'] 45)
    have HX_232 := Lib.hid (HX_219.out.trans ha_231)
    have HB_233 := Lib.hid (HB_220.out.ext ha_231)
    have HB_234 := Lib.hid (HB_221.out.ext ha_231)
    have HB_235 := Lib.hid (HB_222.out.ext ha_231)
    have HB_236 := Lib.hid (HB_223.out.ext ha_231)
    have HB_237 := Lib.hid (HB_224.out.ext ha_231)
    have HB_238 := Lib.hid (HB_225.out.ext ha_231)
    have HF_239 := Lib.hid (HF_226.out.ext ha_231)
    have HF_240 := Lib.hid (HF_227.out.ext ha_231)
    have HF_241 := Lib.hid (HF_228.out.ext ha_231)
    have HF_242 := Lib.hid (HF_229.out.ext ha_231)
    have HF_243 := Lib.hid (HXr.out.ext ha_231)
    have HF_244 := Lib.hid (HXa.out.ext ha_231)
    clear ha_231 HX_219 HB_220 HB_221 HB_222 HB_223 HB_224 HB_225 HF_226 HF_227 HF_228 HF_229 HXr HXa
    obtain ⟨Wx, hWx⟩ : ∃ Wx, Wx = wr.alloc (.cells #[.int .i64 x.id, .int .i64 x.inn, .int .i64 x.out, .string x.region, .int .u8 x.kind, .string x.speaker, .slice A1 n1 c1'] 45) := ⟨_, rfl⟩
    rw [← hWx] at HX_232 HB_233 HB_234 HB_235 HB_236 HB_237 HB_238 HB_230 HF_239 HF_240 HF_241 HF_242 HF_243 HF_244 ⊢
    clear hWx
    have HXb := Lib.hid (Ext.refl Wx)
    go_cut [149] from 135 to 149 (fun s149 wr => s149 = .bool false ∧ Ext Wx wr)
    case first =>
      by_cases hf : f5 = 0
      case neg =>
        have hb : (f5 == 0) = false := by simpa using hf
        clear hf
        have hr_245 := fun (x : EW Wx) (o : Nat) => (HB_235.out.ext x.ext).cell o
        have hr_246 := fun (x : EW Wx) (o : Nat) => (HB_230.out.ext x.ext).cell o
        refine wp_region_ew Wx (Ext.refl _) (by kernel_rfl) (by kernel_rfl) ?_
        repeat (go_big_quiet_step ((fail)))
        refine wpQuiet_nil ?_
        rintro w_247 ⟨⟨_, hx_248⟩, rfl⟩
        have HXL := Lib.hid hx_248
        try dsimp only
        clear hr_245 hr_246
        have HX_249 := Lib.hid (HX_232.out.trans hx_248)
        have HB_250 := Lib.hid (HB_233.out.ext hx_248)
        have HB_251 := Lib.hid (HB_234.out.ext hx_248)
        have HB_252 := Lib.hid (HB_235.out.ext hx_248)
        have HB_253 := Lib.hid (HB_236.out.ext hx_248)
        have HB_254 := Lib.hid (HB_237.out.ext hx_248)
        have HB_255 := Lib.hid (HB_238.out.ext hx_248)
        have HB_256 := Lib.hid (HB_230.out.ext hx_248)
        have HF_257 := Lib.hid (HF_239.out.ext hx_248)
        have HF_258 := Lib.hid (HF_240.out.ext hx_248)
        have HF_259 := Lib.hid (HF_241.out.ext hx_248)
        have HF_260 := Lib.hid (HF_242.out.ext hx_248)
        have HF_261 := Lib.hid (HF_243.out.ext hx_248)
        have HF_262 := Lib.hid (HF_244.out.ext hx_248)
        clear hx_248 HX_232 HB_233 HB_234 HB_235 HB_236 HB_237 HB_238 HB_230 HF_239 HF_240 HF_241 HF_242 HF_243 HF_244
        go_wp2_with fail
        go_meet
        case rel => exact ⟨by simp, HXL.out⟩
      subst hf
      obtain ⟨v1, v2, -⟩ := HVa.out rfl
      obtain ⟨-, hla, -⟩ := HL5.out
      clear v1
      obtain ⟨ka, hkaa, hkab⟩ := (HVa.out rfl).2.2.2.2.2 x HXm.out
      have HFa := Lib.hid (fun (y : EW Wx) => DFind_any D5 ⟨ra5, rn5, rc5, ea5, en5, ec5, ca5, cn5, cc5⟩ x.id y.w (HF_239.out.evs.ext y.ext) (by dsimp only; omega))
      have hqa : findI D5.evs x.id = (ka : Int) := by unfold findI; rw [hkaa]
      rw [hqa] at HFa
      obtain ⟨ba9, oa9, ya9, Aa9, na9, ca9, hAa, hya, hata, pa0, pa1, pa2, pa3, pa4, pa5, pa6⟩ := (HF_239.out.evs).at_ev (i := ka) (show ka < en5 by have := (List.getElem?_eq_some_iff.1 hkab).1; omega)
      rw [hkab] at hya
      obtain rfl := Option.some.inj hya
      dsimp only at hAa
      subst hAa
      have hka0 : (0 : Int) ≤ (ka : Int) := by omega
      have hka1 : (ka : Int) < (en5 : Int) := by have := (List.getElem?_eq_some_iff.1 hkab).1; omega
      have HSa := Lib.hid (fun (y : EW Wx) => ESame_any x x Aa9 na9 ca9 A1 n1 c1' y.w (hata.ext y.ext) (HF_244.out.ext y.ext))
      rw [decide_eq_true rfl] at HSa
      unfold Ev.cells at HSa
      unfold Doc.cells at HFa
      dsimp only at HFa
      clear hqa hkaa hkab hata
      have hr_263 := fun (x : EW Wx) (o : Nat) => (HB_235.out.ext x.ext).cell o
      have hr_264 := fun (x : EW Wx) (o : Nat) => (HB_230.out.ext x.ext).cell o
      have hr_265 := fun (y : EW Wx) => y.ext.cell pa0
      have hr_266 := fun (y : EW Wx) => y.ext.cell pa1
      have hr_267 := fun (y : EW Wx) => y.ext.cell pa2
      have hr_268 := fun (y : EW Wx) => y.ext.cell pa3
      have hr_269 := fun (y : EW Wx) => y.ext.cell pa4
      have hr_270 := fun (y : EW Wx) => y.ext.cell pa5
      have hr_271 := fun (y : EW Wx) => y.ext.cell pa6
      refine wp_region_ew Wx (Ext.refl _) (by kernel_rfl) (by kernel_rfl) ?_
      repeat (go_big_quiet_step ((first | (go_at_call 23; exact EW.calls _ (HFa.out _)) | (go_at_call 24; exact EW.calls _ (HSa.out _)))))
      refine wpQuiet_nil ?_
      rintro w_272 ⟨⟨_, hx_273⟩, rfl⟩
      have HXL := Lib.hid hx_273
      try dsimp only
      clear hr_263 hr_264 hr_265 hr_266 hr_267 hr_268 hr_269 hr_270 hr_271
      have HX_274 := Lib.hid (HX_232.out.trans hx_273)
      have HB_275 := Lib.hid (HB_233.out.ext hx_273)
      have HB_276 := Lib.hid (HB_234.out.ext hx_273)
      have HB_277 := Lib.hid (HB_235.out.ext hx_273)
      have HB_278 := Lib.hid (HB_236.out.ext hx_273)
      have HB_279 := Lib.hid (HB_237.out.ext hx_273)
      have HB_280 := Lib.hid (HB_238.out.ext hx_273)
      have HB_281 := Lib.hid (HB_230.out.ext hx_273)
      have HF_282 := Lib.hid (HF_239.out.ext hx_273)
      have HF_283 := Lib.hid (HF_240.out.ext hx_273)
      have HF_284 := Lib.hid (HF_241.out.ext hx_273)
      have HF_285 := Lib.hid (HF_242.out.ext hx_273)
      have HF_286 := Lib.hid (HF_243.out.ext hx_273)
      have HF_287 := Lib.hid (HF_244.out.ext hx_273)
      clear hx_273 HX_232 HB_233 HB_234 HB_235 HB_236 HB_237 HB_238 HB_230 HF_239 HF_240 HF_241 HF_242 HF_243 HF_244
      go_wp2_with fail
      go_meet
      case rel => exact ⟨by simp, HXL.out⟩
    case rest =>
    obtain ⟨rfl, hxc⟩ := hcut
    obtain ⟨wk18, rfl⟩ : ∃ wk : World, wk = wc := ⟨_, rfl⟩
    have HX_288 := Lib.hid (HX_232.out.trans hxc)
    have HB_289 := Lib.hid (HB_233.out.ext hxc)
    have HB_290 := Lib.hid (HB_234.out.ext hxc)
    have HB_291 := Lib.hid (HB_235.out.ext hxc)
    have HB_292 := Lib.hid (HB_236.out.ext hxc)
    have HB_293 := Lib.hid (HB_237.out.ext hxc)
    have HB_294 := Lib.hid (HB_238.out.ext hxc)
    have HB_295 := Lib.hid (HB_230.out.ext hxc)
    have HF_296 := Lib.hid (HF_239.out.ext hxc)
    have HF_297 := Lib.hid (HF_240.out.ext hxc)
    have HF_298 := Lib.hid (HF_241.out.ext hxc)
    have HF_299 := Lib.hid (HF_242.out.ext hxc)
    have HF_300 := Lib.hid (HF_243.out.ext hxc)
    have HF_301 := Lib.hid (HF_244.out.ext hxc)
    clear hxc HX_232 HB_233 HB_234 HB_235 HB_236 HB_237 HB_238 HB_230 HF_239 HF_240 HF_241 HF_242 HF_243 HF_244
    go_upto_region 20 with fail
    go_cut [195] from 150 to 195 (fun s195 wr => s195 = .bool false ∧ Ext wk18 wr)
    case first =>
      by_cases hid : x.id = e.id
      case pos =>
        have hb : (x.id != e.id) = false := by simpa using hid
        clear hid
        have hr_302 := fun (x : EW wk18) (o : Nat) => (HB_292.out.ext x.ext).cell o
        have hr_303 := fun (x : EW wk18) (o : Nat) => (HB_293.out.ext x.ext).cell o
        have hr_304 := fun (x : EW wk18) (o : Nat) => (HB_290.out.ext x.ext).cell o
        have hr_305 := fun (x : EW wk18) (o : Nat) => (HB_295.out.ext x.ext).cell o
        refine wp_region_ew wk18 (Ext.refl _) (by kernel_rfl) (by kernel_rfl) ?_
        repeat (go_big_quiet_step ((fail)))
        refine wpQuiet_nil ?_
        rintro w_306 ⟨⟨_, hx_307⟩, rfl⟩
        have HXL := Lib.hid hx_307
        try dsimp only
        clear hr_302 hr_303 hr_304 hr_305
        have HX_308 := Lib.hid (HX_288.out.trans hx_307)
        have HB_309 := Lib.hid (HB_289.out.ext hx_307)
        have HB_310 := Lib.hid (HB_290.out.ext hx_307)
        have HB_311 := Lib.hid (HB_291.out.ext hx_307)
        have HB_312 := Lib.hid (HB_292.out.ext hx_307)
        have HB_313 := Lib.hid (HB_293.out.ext hx_307)
        have HB_314 := Lib.hid (HB_294.out.ext hx_307)
        have HB_315 := Lib.hid (HB_295.out.ext hx_307)
        have HF_316 := Lib.hid (HF_296.out.ext hx_307)
        have HF_317 := Lib.hid (HF_297.out.ext hx_307)
        have HF_318 := Lib.hid (HF_298.out.ext hx_307)
        have HF_319 := Lib.hid (HF_299.out.ext hx_307)
        have HF_320 := Lib.hid (HF_300.out.ext hx_307)
        have HF_321 := Lib.hid (HF_301.out.ext hx_307)
        clear hx_307 HX_288 HB_289 HB_290 HB_291 HB_292 HB_293 HB_294 HB_295 HF_296 HF_297 HF_298 HF_299 HF_300 HF_301
        go_wp2_with fail
        go_meet
        case rel => exact ⟨by simp, HXL.out⟩
      have hb : (x.id != e.id) = true := by simpa using hid
      by_cases hf6 : f6 = 0
      case neg =>
        have hb6 : (f6 == 0) = false := by simpa using hf6
        clear hf6
        by_cases hf7 : f7 = 0
        case neg =>
          have hb7 : (f7 == 0) = false := by simpa using hf7
          clear hf7
          clear hid
          have hr_322 := fun (x : EW wk18) (o : Nat) => (HB_292.out.ext x.ext).cell o
          have hr_323 := fun (x : EW wk18) (o : Nat) => (HB_293.out.ext x.ext).cell o
          have hr_324 := fun (x : EW wk18) (o : Nat) => (HB_290.out.ext x.ext).cell o
          have hr_325 := fun (x : EW wk18) (o : Nat) => (HB_295.out.ext x.ext).cell o
          refine wp_region_ew wk18 (Ext.refl _) (by kernel_rfl) (by kernel_rfl) ?_
          repeat (go_big_quiet_step ((fail)))
          refine wpQuiet_nil ?_
          rintro w_326 ⟨⟨_, hx_327⟩, rfl⟩
          have HXL := Lib.hid hx_327
          try dsimp only
          clear hr_322 hr_323 hr_324 hr_325
          have HX_328 := Lib.hid (HX_288.out.trans hx_327)
          have HB_329 := Lib.hid (HB_289.out.ext hx_327)
          have HB_330 := Lib.hid (HB_290.out.ext hx_327)
          have HB_331 := Lib.hid (HB_291.out.ext hx_327)
          have HB_332 := Lib.hid (HB_292.out.ext hx_327)
          have HB_333 := Lib.hid (HB_293.out.ext hx_327)
          have HB_334 := Lib.hid (HB_294.out.ext hx_327)
          have HB_335 := Lib.hid (HB_295.out.ext hx_327)
          have HF_336 := Lib.hid (HF_296.out.ext hx_327)
          have HF_337 := Lib.hid (HF_297.out.ext hx_327)
          have HF_338 := Lib.hid (HF_298.out.ext hx_327)
          have HF_339 := Lib.hid (HF_299.out.ext hx_327)
          have HF_340 := Lib.hid (HF_300.out.ext hx_327)
          have HF_341 := Lib.hid (HF_301.out.ext hx_327)
          clear hx_327 HX_288 HB_289 HB_290 HB_291 HB_292 HB_293 HB_294 HB_295 HF_296 HF_297 HF_298 HF_299 HF_300 HF_301
          go_wp2_with fail
          go_meet
          case rel => exact ⟨by simp, HXL.out⟩
        subst hf7
        obtain ⟨w1, w2, -⟩ := HVc.out rfl
        obtain ⟨-, hlc, -⟩ := HL7.out
        clear w1
        obtain ⟨kc, hkca, hkcb⟩ := (HVc.out rfl).2.2.2 x HXm.out hid
        have HFc := Lib.hid (fun (y : EW wk18) => DFind_any D7 ⟨ra7, rn7, rc7, ea7, en7, ec7, ca7, cn7, cc7⟩ x.id y.w (HF_298.out.evs.ext y.ext) (by dsimp only; omega))
        have hqc : findI D7.evs x.id = (kc : Int) := by unfold findI; rw [hkca]
        rw [hqc] at HFc
        obtain ⟨bc9, oc9, yc9, Ac9, nc9, cc9, hAc, hyc, hatc, pc0, pc1, pc2, pc3, pc4, pc5, pc6⟩ := (HF_298.out.evs).at_ev (i := kc) (show kc < en7 by have := (List.getElem?_eq_some_iff.1 hkcb).1; omega)
        rw [hkcb] at hyc
        obtain rfl := Option.some.inj hyc
        dsimp only at hAc
        subst hAc
        have hkc0 : (0 : Int) ≤ (kc : Int) := by omega
        have hkc1 : (kc : Int) < (en7 : Int) := by have := (List.getElem?_eq_some_iff.1 hkcb).1; omega
        have HSc := Lib.hid (fun (y : EW wk18) => ESame_any x x Ac9 nc9 cc9 A1 n1 c1' y.w (hatc.ext y.ext) (HF_301.out.ext y.ext))
        rw [decide_eq_true rfl] at HSc
        unfold Ev.cells at HSc
        unfold Doc.cells at HFc
        dsimp only at HFc
        clear hqc hkca hkcb hatc
        clear hid
        have hr_342 := fun (x : EW wk18) (o : Nat) => (HB_292.out.ext x.ext).cell o
        have hr_343 := fun (x : EW wk18) (o : Nat) => (HB_293.out.ext x.ext).cell o
        have hr_344 := fun (x : EW wk18) (o : Nat) => (HB_290.out.ext x.ext).cell o
        have hr_345 := fun (x : EW wk18) (o : Nat) => (HB_295.out.ext x.ext).cell o
        have hr_346 := fun (y : EW wk18) => y.ext.cell pc0
        have hr_347 := fun (y : EW wk18) => y.ext.cell pc1
        have hr_348 := fun (y : EW wk18) => y.ext.cell pc2
        have hr_349 := fun (y : EW wk18) => y.ext.cell pc3
        have hr_350 := fun (y : EW wk18) => y.ext.cell pc4
        have hr_351 := fun (y : EW wk18) => y.ext.cell pc5
        have hr_352 := fun (y : EW wk18) => y.ext.cell pc6
        refine wp_region_ew wk18 (Ext.refl _) (by kernel_rfl) (by kernel_rfl) ?_
        repeat (go_big_quiet_step ((first | (go_at_call 24; with_reducible exact EW.calls _ (HSc.out _)) | (go_at_call 23; with_reducible exact EW.calls _ (HFc.out _)))))
        refine wpQuiet_nil ?_
        rintro w_353 ⟨⟨_, hx_354⟩, rfl⟩
        have HXL := Lib.hid hx_354
        try dsimp only
        clear hr_342 hr_343 hr_344 hr_345 hr_346 hr_347 hr_348 hr_349 hr_350 hr_351 hr_352
        have HX_355 := Lib.hid (HX_288.out.trans hx_354)
        have HB_356 := Lib.hid (HB_289.out.ext hx_354)
        have HB_357 := Lib.hid (HB_290.out.ext hx_354)
        have HB_358 := Lib.hid (HB_291.out.ext hx_354)
        have HB_359 := Lib.hid (HB_292.out.ext hx_354)
        have HB_360 := Lib.hid (HB_293.out.ext hx_354)
        have HB_361 := Lib.hid (HB_294.out.ext hx_354)
        have HB_362 := Lib.hid (HB_295.out.ext hx_354)
        have HF_363 := Lib.hid (HF_296.out.ext hx_354)
        have HF_364 := Lib.hid (HF_297.out.ext hx_354)
        have HF_365 := Lib.hid (HF_298.out.ext hx_354)
        have HF_366 := Lib.hid (HF_299.out.ext hx_354)
        have HF_367 := Lib.hid (HF_300.out.ext hx_354)
        have HF_368 := Lib.hid (HF_301.out.ext hx_354)
        clear hx_354 HX_288 HB_289 HB_290 HB_291 HB_292 HB_293 HB_294 HB_295 HF_296 HF_297 HF_298 HF_299 HF_300 HF_301
        go_wp2_with fail
        go_meet
        case rel => exact ⟨by simp, HXL.out⟩
      subst hf6
      obtain ⟨v1, v2, -⟩ := HVb.out rfl
      obtain ⟨-, hlb, -⟩ := HL6.out
      clear v1
      obtain ⟨kb, hkba, hkbb⟩ := (HVb.out rfl).2.2.2 x HXm.out hid
      have HFb := Lib.hid (fun (y : EW wk18) => DFind_any D6 ⟨ra6, rn6, rc6, ea6, en6, ec6, ca6, cn6, cc6⟩ x.id y.w (HF_297.out.evs.ext y.ext) (by dsimp only; omega))
      have hqb : findI D6.evs x.id = (kb : Int) := by unfold findI; rw [hkba]
      rw [hqb] at HFb
      obtain ⟨bb9, ob9, yb9, Ab9, nb9, cb9, hAb, hyb, hatb, pb0, pb1, pb2, pb3, pb4, pb5, pb6⟩ := (HF_297.out.evs).at_ev (i := kb) (show kb < en6 by have := (List.getElem?_eq_some_iff.1 hkbb).1; omega)
      rw [hkbb] at hyb
      obtain rfl := Option.some.inj hyb
      dsimp only at hAb
      subst hAb
      have hkb0 : (0 : Int) ≤ (kb : Int) := by omega
      have hkb1 : (kb : Int) < (en6 : Int) := by have := (List.getElem?_eq_some_iff.1 hkbb).1; omega
      have HSb := Lib.hid (fun (y : EW wk18) => ESame_any x x Ab9 nb9 cb9 A1 n1 c1' y.w (hatb.ext y.ext) (HF_301.out.ext y.ext))
      rw [decide_eq_true rfl] at HSb
      unfold Ev.cells at HSb
      unfold Doc.cells at HFb
      dsimp only at HFb
      clear hqb hkba hkbb hatb
      by_cases hf7 : f7 = 0
      case neg =>
        have hb7 : (f7 == 0) = false := by simpa using hf7
        clear hf7
        clear hid
        have hr_369 := fun (x : EW wk18) (o : Nat) => (HB_292.out.ext x.ext).cell o
        have hr_370 := fun (x : EW wk18) (o : Nat) => (HB_293.out.ext x.ext).cell o
        have hr_371 := fun (x : EW wk18) (o : Nat) => (HB_290.out.ext x.ext).cell o
        have hr_372 := fun (x : EW wk18) (o : Nat) => (HB_295.out.ext x.ext).cell o
        have hr_373 := fun (y : EW wk18) => y.ext.cell pb0
        have hr_374 := fun (y : EW wk18) => y.ext.cell pb1
        have hr_375 := fun (y : EW wk18) => y.ext.cell pb2
        have hr_376 := fun (y : EW wk18) => y.ext.cell pb3
        have hr_377 := fun (y : EW wk18) => y.ext.cell pb4
        have hr_378 := fun (y : EW wk18) => y.ext.cell pb5
        have hr_379 := fun (y : EW wk18) => y.ext.cell pb6
        refine wp_region_ew wk18 (Ext.refl _) (by kernel_rfl) (by kernel_rfl) ?_
        repeat (go_big_quiet_step ((first | (go_at_call 24; with_reducible exact EW.calls _ (HSb.out _)) | (go_at_call 23; with_reducible exact EW.calls _ (HFb.out _)))))
        refine wpQuiet_nil ?_
        rintro w_380 ⟨⟨_, hx_381⟩, rfl⟩
        have HXL := Lib.hid hx_381
        try dsimp only
        clear hr_369 hr_370 hr_371 hr_372 hr_373 hr_374 hr_375 hr_376 hr_377 hr_378 hr_379
        have HX_382 := Lib.hid (HX_288.out.trans hx_381)
        have HB_383 := Lib.hid (HB_289.out.ext hx_381)
        have HB_384 := Lib.hid (HB_290.out.ext hx_381)
        have HB_385 := Lib.hid (HB_291.out.ext hx_381)
        have HB_386 := Lib.hid (HB_292.out.ext hx_381)
        have HB_387 := Lib.hid (HB_293.out.ext hx_381)
        have HB_388 := Lib.hid (HB_294.out.ext hx_381)
        have HB_389 := Lib.hid (HB_295.out.ext hx_381)
        have HF_390 := Lib.hid (HF_296.out.ext hx_381)
        have HF_391 := Lib.hid (HF_297.out.ext hx_381)
        have HF_392 := Lib.hid (HF_298.out.ext hx_381)
        have HF_393 := Lib.hid (HF_299.out.ext hx_381)
        have HF_394 := Lib.hid (HF_300.out.ext hx_381)
        have HF_395 := Lib.hid (HF_301.out.ext hx_381)
        clear hx_381 HX_288 HB_289 HB_290 HB_291 HB_292 HB_293 HB_294 HB_295 HF_296 HF_297 HF_298 HF_299 HF_300 HF_301
        go_wp2_with fail
        go_meet
        case rel => exact ⟨by simp, HXL.out⟩
      subst hf7
      obtain ⟨w1, w2, -⟩ := HVc.out rfl
      obtain ⟨-, hlc, -⟩ := HL7.out
      clear w1
      obtain ⟨kc, hkca, hkcb⟩ := (HVc.out rfl).2.2.2 x HXm.out hid
      have HFc := Lib.hid (fun (y : EW wk18) => DFind_any D7 ⟨ra7, rn7, rc7, ea7, en7, ec7, ca7, cn7, cc7⟩ x.id y.w (HF_298.out.evs.ext y.ext) (by dsimp only; omega))
      have hqc : findI D7.evs x.id = (kc : Int) := by unfold findI; rw [hkca]
      rw [hqc] at HFc
      obtain ⟨bc9, oc9, yc9, Ac9, nc9, cc9, hAc, hyc, hatc, pc0, pc1, pc2, pc3, pc4, pc5, pc6⟩ := (HF_298.out.evs).at_ev (i := kc) (show kc < en7 by have := (List.getElem?_eq_some_iff.1 hkcb).1; omega)
      rw [hkcb] at hyc
      obtain rfl := Option.some.inj hyc
      dsimp only at hAc
      subst hAc
      have hkc0 : (0 : Int) ≤ (kc : Int) := by omega
      have hkc1 : (kc : Int) < (en7 : Int) := by have := (List.getElem?_eq_some_iff.1 hkcb).1; omega
      have HSc := Lib.hid (fun (y : EW wk18) => ESame_any x x Ac9 nc9 cc9 A1 n1 c1' y.w (hatc.ext y.ext) (HF_301.out.ext y.ext))
      rw [decide_eq_true rfl] at HSc
      unfold Ev.cells at HSc
      unfold Doc.cells at HFc
      dsimp only at HFc
      clear hqc hkca hkcb hatc
      clear hid
      have hr_396 := fun (x : EW wk18) (o : Nat) => (HB_292.out.ext x.ext).cell o
      have hr_397 := fun (x : EW wk18) (o : Nat) => (HB_293.out.ext x.ext).cell o
      have hr_398 := fun (x : EW wk18) (o : Nat) => (HB_290.out.ext x.ext).cell o
      have hr_399 := fun (x : EW wk18) (o : Nat) => (HB_295.out.ext x.ext).cell o
      have hr_400 := fun (y : EW wk18) => y.ext.cell pb0
      have hr_401 := fun (y : EW wk18) => y.ext.cell pb1
      have hr_402 := fun (y : EW wk18) => y.ext.cell pb2
      have hr_403 := fun (y : EW wk18) => y.ext.cell pb3
      have hr_404 := fun (y : EW wk18) => y.ext.cell pb4
      have hr_405 := fun (y : EW wk18) => y.ext.cell pb5
      have hr_406 := fun (y : EW wk18) => y.ext.cell pb6
      have hr_407 := fun (y : EW wk18) => y.ext.cell pc0
      have hr_408 := fun (y : EW wk18) => y.ext.cell pc1
      have hr_409 := fun (y : EW wk18) => y.ext.cell pc2
      have hr_410 := fun (y : EW wk18) => y.ext.cell pc3
      have hr_411 := fun (y : EW wk18) => y.ext.cell pc4
      have hr_412 := fun (y : EW wk18) => y.ext.cell pc5
      have hr_413 := fun (y : EW wk18) => y.ext.cell pc6
      refine wp_region_ew wk18 (Ext.refl _) (by kernel_rfl) (by kernel_rfl) ?_
      repeat (go_big_quiet_step ((first | (go_at_call 24; with_reducible exact EW.calls _ (HSb.out _)) | (go_at_call 23; with_reducible exact EW.calls _ (HFb.out _)) | (go_at_call 24; with_reducible exact EW.calls _ (HSc.out _)) | (go_at_call 23; with_reducible exact EW.calls _ (HFc.out _)))))
      refine wpQuiet_nil ?_
      rintro w_414 ⟨⟨_, hx_415⟩, rfl⟩
      have HXL := Lib.hid hx_415
      try dsimp only
      clear hr_396 hr_397 hr_398 hr_399 hr_400 hr_401 hr_402 hr_403 hr_404 hr_405 hr_406 hr_407 hr_408 hr_409 hr_410 hr_411 hr_412 hr_413
      have HX_416 := Lib.hid (HX_288.out.trans hx_415)
      have HB_417 := Lib.hid (HB_289.out.ext hx_415)
      have HB_418 := Lib.hid (HB_290.out.ext hx_415)
      have HB_419 := Lib.hid (HB_291.out.ext hx_415)
      have HB_420 := Lib.hid (HB_292.out.ext hx_415)
      have HB_421 := Lib.hid (HB_293.out.ext hx_415)
      have HB_422 := Lib.hid (HB_294.out.ext hx_415)
      have HB_423 := Lib.hid (HB_295.out.ext hx_415)
      have HF_424 := Lib.hid (HF_296.out.ext hx_415)
      have HF_425 := Lib.hid (HF_297.out.ext hx_415)
      have HF_426 := Lib.hid (HF_298.out.ext hx_415)
      have HF_427 := Lib.hid (HF_299.out.ext hx_415)
      have HF_428 := Lib.hid (HF_300.out.ext hx_415)
      have HF_429 := Lib.hid (HF_301.out.ext hx_415)
      clear hx_415 HX_288 HB_289 HB_290 HB_291 HB_292 HB_293 HB_294 HB_295 HF_296 HF_297 HF_298 HF_299 HF_300 HF_301
      go_wp2_with fail
      go_meet
      case rel => exact ⟨by simp, HXL.out⟩
    case rest =>
    obtain ⟨rfl, hxc⟩ := hcut
    obtain ⟨wk20, rfl⟩ : ∃ wk : World, wk = wc := ⟨_, rfl⟩
    have HX_430 := Lib.hid (HX_288.out.trans hxc)
    have HB_431 := Lib.hid (HB_289.out.ext hxc)
    have HB_432 := Lib.hid (HB_290.out.ext hxc)
    have HB_433 := Lib.hid (HB_291.out.ext hxc)
    have HB_434 := Lib.hid (HB_292.out.ext hxc)
    have HB_435 := Lib.hid (HB_293.out.ext hxc)
    have HB_436 := Lib.hid (HB_294.out.ext hxc)
    have HB_437 := Lib.hid (HB_295.out.ext hxc)
    have HF_438 := Lib.hid (HF_296.out.ext hxc)
    have HF_439 := Lib.hid (HF_297.out.ext hxc)
    have HF_440 := Lib.hid (HF_298.out.ext hxc)
    have HF_441 := Lib.hid (HF_299.out.ext hxc)
    have HF_442 := Lib.hid (HF_300.out.ext hxc)
    have HF_443 := Lib.hid (HF_301.out.ext hxc)
    clear hxc HX_288 HB_289 HB_290 HB_291 HB_292 HB_293 HB_294 HB_295 HF_296 HF_297 HF_298 HF_299 HF_300 HF_301
    by_cases hf8 : f8 = 0
    case neg =>
      have hb8 : (f8 == 0) = false := by simpa using hf8
      clear hf8
      go_wp2_with fail
      exact ⟨⟨k + 1, by omega, by go_num, HF_442.out⟩, by simp [intOf]; omega⟩
    subst hf8
    obtain ⟨v1, v2, -⟩ := HVs.out rfl
    obtain ⟨-, hls, -⟩ := HL8.out
    clear v1
    obtain ⟨ks, y, hksa, hksb, y1, y2, y3, y4, y5, y6⟩ := (HVs.out rfl).2.2.2 x HXm.out
    have HFs := Lib.hid (fun (y : EW wk20) => DFind_any D8 ⟨ra8, rn8, rc8, ea8, en8, ec8, ca8, cn8, cc8⟩ x.id y.w (HF_441.out.evs.ext y.ext) (by dsimp only; omega))
    have hqs : findI D8.evs x.id = (ks : Int) := by unfold findI; rw [hksa]
    rw [hqs] at HFs
    obtain ⟨bs9, os9, ys9, As9, ns9, cs9, hAs, hys, hats, ps0, ps1, ps2, ps3, ps4, ps5, ps6⟩ := (HF_441.out.evs).at_ev (i := ks) (show ks < en8 by have := (List.getElem?_eq_some_iff.1 hksb).1; omega)
    rw [hksb] at hys
    obtain rfl := Option.some.inj hys
    dsimp only at hAs
    subst hAs
    have hks0 : (0 : Int) ≤ (ks : Int) := by omega
    have hks1 : (ks : Int) < (en8 : Int) := by have := (List.getElem?_eq_some_iff.1 hksb).1; omega
    unfold Doc.cells at HFs
    dsimp only at HFs
    clear hqs hksa hksb
    go_upto_region 23 with fail
    have HYc : Hid (∀ j u, (y.cells As9 ns9 cs9).toList[j]? = some u → wk20.cell? ⟨bs9, os9 + ks * 7 + j, none⟩ = some u) := by
      intro j u hu
      match j, hu with
      | 0, hu => simp [Ev.cells] at hu; subst hu; exact ps0
      | 1, hu => simp [Ev.cells] at hu; subst hu; exact ps1
      | 2, hu => simp [Ev.cells] at hu; subst hu; exact ps2
      | 3, hu => simp [Ev.cells] at hu; subst hu; exact ps3
      | 4, hu => simp [Ev.cells] at hu; subst hu; exact ps4
      | 5, hu => simp [Ev.cells] at hu; subst hu; exact ps5
      | 6, hu => simp [Ev.cells] at hu; subst hu; exact ps6
      | j + 7, hu => simp [Ev.cells] at hu
    clear ps0 ps1 ps2 ps3 ps4 ps5 ps6
    have HYa := Lib.hid hats
    clear hats
    refine wp_region_allocs [some 198, some 199, some 200, some 201, some 202, some 203, some 204, some 205, some 18, none] [[], [0], [], [], [3], [2, 4], [1, 5], [6], [], [8, 7, 5, 0, 1, 2, 3, 4, 5, 6, 7, 8]] [5, 9] [8] [.pointer (some ⟨w_53.heap.size, 6, none⟩), .slice (some ⟨bs9, os9, none⟩) en8 ec8, .agg #[.string D8.title, .string D8.lang, .int .u8 D8.rate, .bool D8.drop, .int .i64 D8.last, .slice ra8 rn8 rc8, .slice (some ⟨bs9, os9, none⟩) en8 ec8, .slice ca8 cn8 cc8], .pointer (some ⟨wr.heap.size, 0, none⟩), .int .i64 x.id, undef, .pointer (some ⟨bs9, os9 + ks * 7, none⟩), .agg #[.int .i64 y.id, .int .i64 y.inn, .int .i64 y.out, .string y.region, .int .u8 y.kind, .string y.speaker, .slice As9 ns9 cs9], undef, undef] (fun _ => .cells evZero 45) (YJ (ks : Int) #[.int .i64 y.id, .int .i64 y.inn, .int .i64 y.out, .string y.region, .int .u8 y.kind, .string y.speaker, .slice As9 ns9 cs9] wk20) (by kernel_rfl) (by kernel_rfl) (by kernel_rfl) (by kernel_rfl) (by kernel_rfl) (by kernel_rfl) (by kernel_rfl) (by decide) (by kernel_rfl) ?_ ?_ ?_ ?_ ?_ ?_
    · exact YJ.start wk20
    · intro i o ho ha a w' K' hk
      match i, ho with
      | 0, ho => simp at ha
      | 1, ho => simp at ha
      | 2, ho => simp at ha
      | 3, ho => simp at ha
      | 4, ho => simp at ha
      | 5, ho => simp at ha
      | 6, ho => simp at ha
      | 7, ho => simp at ha
      | 8, ho =>
        simp only [List.getElem?_toArray, List.getElem?_cons_zero, List.getElem?_cons_succ, Option.some.injEq] at ho
        subst ho
        exact wp_alloc_ev rfl hk
      | 9, ho => simp at ha
      | i + 10, ho => simp at ho
    · intro i ha us gs w' hJ hn hlim
      match i, ha with
      | 0, ha => simp at ha
      | 1, ha => simp at ha
      | 2, ha => simp at ha
      | 3, ha => simp at ha
      | 4, ha => simp at ha
      | 5, ha => simp at ha
      | 6, ha => simp at ha
      | 7, ha => simp at ha
      | 8, ha => exact hJ.alo (by have := hlim 1 9 rfl rfl; omega)
      | 9, ha => simp at ha
      | i + 10, ha => simp at ha
    · intro i o ho hc ha a w' us gs K' hJ hF hlim hk
      match i, ho with
      | 0, ho =>
        simp only [List.getElem?_toArray, List.getElem?_cons_zero, List.getElem?_cons_succ, Option.some.injEq] at ho
        subst ho
        have e14 := hF.old 14 (.pointer (some ⟨w_53.heap.size, 0, none⟩)) rfl rfl
        simp only [Act.eval] at e14
        clear hF hlim hJ
        go_simp
        exact hk
      | 1, ho =>
        simp only [List.getElem?_toArray, List.getElem?_cons_zero, List.getElem?_cons_succ, Option.some.injEq] at ho
        subst ho
        have e198 := hF.pure 0 198 (.pointer (some ⟨w_53.heap.size, 6, none⟩)) rfl rfl rfl rfl rfl
        have hcl : w'.cell? ⟨w_53.heap.size, 6, none⟩ = some (.slice (some ⟨bs9, os9, none⟩) en8 ec8) := (HB_436.out.ext hJ.ext).cell 6
        simp only [Act.eval] at e198
        clear hF hlim hJ
        go_simp
        exact hk
      | 2, ho =>
        simp only [List.getElem?_toArray, List.getElem?_cons_zero, List.getElem?_cons_succ, Option.some.injEq] at ho
        subst ho
        have e14 := hF.old 14 (.pointer (some ⟨w_53.heap.size, 0, none⟩)) rfl rfl
        exact wp_loadBk 39 (.tmp 14) rfl _ 39 _ _ e14 (HB_436.out.ext hJ.ext) Tryd.underlying39 rfl (by exact size_docI) hk
      | 3, ho =>
        simp only [List.getElem?_toArray, List.getElem?_cons_zero, List.getElem?_cons_succ, Option.some.injEq] at ho
        subst ho
        have e17 := hF.old 17 (.pointer (some ⟨wr.heap.size, 0, none⟩)) rfl rfl
        simp only [Act.eval] at e17
        clear hF hlim hJ
        go_simp
        exact hk
      | 4, ho =>
        simp only [List.getElem?_toArray, List.getElem?_cons_zero, List.getElem?_cons_succ, Option.some.injEq] at ho
        subst ho
        have e201 := hF.pure 3 201 (.pointer (some ⟨wr.heap.size, 0, none⟩)) rfl rfl rfl rfl rfl
        have hcl : w'.cell? ⟨wr.heap.size, 0, none⟩ = some (.int .i64 x.id) := (HB_437.out.ext hJ.ext).cell 0
        simp only [Act.eval] at e201
        clear hF hlim hJ
        go_simp
        exact hk
      | 5, ho => simp at hc
      | 6, ho =>
        simp only [List.getElem?_toArray, List.getElem?_cons_zero, List.getElem?_cons_succ, Option.some.injEq] at ho
        subst ho
        have e199 := hF.pure 1 199 (.slice (some ⟨bs9, os9, none⟩) en8 ec8) rfl rfl rfl rfl rfl
        obtain ⟨v203, hv203⟩ := getElem_ltq (hF.did 0 5 rfl rfl)
        have e203 := hF.link 0 5 203 _ rfl rfl rfl hv203
        have hu0 : v203 = .int .i64 (ks : Int) := hJ.val v203 hv203
        rw [hu0] at e203
        exact wp_ix_ev rfl e199 e203 (by omega) hk
      | 7, ho =>
        simp only [List.getElem?_toArray, List.getElem?_cons_zero, List.getElem?_cons_succ, Option.some.injEq] at ho
        subst ho
        have e204 := hF.pure 6 204 (.pointer (some ⟨bs9, os9 + ks * 7, none⟩)) rfl rfl rfl rfl rfl
        exact wp_load_ev rfl bs9 _ y As9 ns9 cs9 e204 (fun j u hu => hJ.ext.cell (HYc.out j u hu)) hk
      | 8, ho => simp at ha
      | 9, ho => simp at hc
      | i + 10, ho => simp at ho
    · intro p c' o hp ho a w' us gs K' hl hJ hF hk
      match p, hp with
      | 0, hp =>
        obtain rfl : 5 = c' := by simpa using hp
        simp only [List.getElem?_toArray, List.getElem?_cons_zero, List.getElem?_cons_succ, Option.some.injEq] at ho
        subst ho
        obtain rfl : us = [] := List.eq_nil_of_length_eq_zero hl
        have e200 := hF.pure 2 200 (.agg #[.string D8.title, .string D8.lang, .int .u8 D8.rate, .bool D8.drop, .int .i64 D8.last, .slice ra8 rn8 rc8, .slice (some ⟨bs9, os9, none⟩) en8 ec8, .slice ca8 cn8 cc8]) rfl rfl rfl rfl rfl
        have e202 := hF.pure 4 202 (.int .i64 x.id) rfl rfl rfl rfl rfl
        refine wp_call2 rfl e200 e202 Tryd.call23 (HFs.out ⟨w', hJ.ext⟩) (fun w2 hx2 => hk _ w2 (hJ.call hx2))
      | 1, hp =>
        obtain rfl : 9 = c' := by simpa using hp
        simp only [List.getElem?_toArray, List.getElem?_cons_zero, List.getElem?_cons_succ, Option.some.injEq] at ho
        subst ho
        obtain ⟨u0, rfl⟩ := list_1 hl
        obtain ⟨g18, hg18, e18⟩ := hF.ptr 8 18 rfl rfl rfl rfl
        have e205 := hF.pure 7 205 (.agg #[.int .i64 y.id, .int .i64 y.inn, .int .i64 y.out, .string y.region, .int .u8 y.kind, .string y.speaker, .slice As9 ns9 cs9]) rfl rfl rfl rfl rfl
        obtain ⟨_, cs', hcs, hB, _⟩ := hJ.va g18 hg18
        exact wp_storeB 45 (.tmp 18) (.tmp 205) rfl g18 45 _ _ e18 e205 (by exact size_event) (by simp [Value.oneCell']) hB hcs (hk undef _ (hJ.sto hg18 hB))
      | p + 2, hp => simp at hp
    intro us gs w23 hl hgs hJ
    obtain ⟨u0, u1, rfl⟩ := list_2 hl
    obtain ⟨g8, hg8⟩ := Option.isSome_iff_exists.1 (hgs 8 rfl)
    first | (rename_i hK; refine hK _ _ ?_; clear hK) | (rename_i hK hK_1; refine hK _ _ ?_; clear hK) | (rename_i hK hK_1 hK_2; refine hK _ _ ?_; clear hK) | (rename_i hK hK_1 hK_2 hK_3; refine hK _ _ ?_; clear hK)
    generalize hL : frameA _ _ _ _ _ _ = L
    obtain rfl : L = [(198, .pointer (some ⟨w_53.heap.size, 6, none⟩)), (199, .slice (some ⟨bs9, os9, none⟩) en8 ec8), (200, .agg #[.string D8.title, .string D8.lang, .int .u8 D8.rate, .bool D8.drop, .int .i64 D8.last, .slice ra8 rn8 rc8, .slice (some ⟨bs9, os9, none⟩) en8 ec8, .slice ca8 cn8 cc8]), (201, .pointer (some ⟨wr.heap.size, 0, none⟩)), (202, .int .i64 x.id), (203, u0), (204, .pointer (some ⟨bs9, os9 + ks * 7, none⟩)), (205, .agg #[.int .i64 y.id, .int .i64 y.inn, .int .i64 y.out, .string y.region, .int .u8 y.kind, .string y.speaker, .slice As9 ns9 cs9]), (18, .pointer ((gs 8).map fun g => ⟨g, 0, none⟩))] := hL.symm.trans (by kernel_rfl)
    rw [hg8]
    clear hL hl
    simp only [Act.put, Option.map_some, List.foldl_cons, List.foldl_nil, List.setIfInBounds_toArray, List.set_cons_zero, List.set_cons_succ]
    obtain ⟨hg9, cs9, -, hb9, hc9⟩ := hJ.va g8 hg8
    obtain rfl := hc9 (by simp)
    have HB9 := Lib.hid hb9
    have hxJ := hJ.ext
    clear hJ hb9 hc9
    have HX_444 := Lib.hid (HX_430.out.trans hxJ)
    have HB_445 := Lib.hid (HB_431.out.ext hxJ)
    have HB_446 := Lib.hid (HB_432.out.ext hxJ)
    have HB_447 := Lib.hid (HB_433.out.ext hxJ)
    have HB_448 := Lib.hid (HB_434.out.ext hxJ)
    have HB_449 := Lib.hid (HB_435.out.ext hxJ)
    have HB_450 := Lib.hid (HB_436.out.ext hxJ)
    have HB_451 := Lib.hid (HB_437.out.ext hxJ)
    have HF_452 := Lib.hid (HF_438.out.ext hxJ)
    have HF_453 := Lib.hid (HF_439.out.ext hxJ)
    have HF_454 := Lib.hid (HF_440.out.ext hxJ)
    have HF_455 := Lib.hid (HF_441.out.ext hxJ)
    have HF_456 := Lib.hid (HF_442.out.ext hxJ)
    have HF_457 := Lib.hid (HF_443.out.ext hxJ)
    have HF_458 := Lib.hid (HYa.out.ext hxJ)
    clear hxJ HX_430 HB_431 HB_432 HB_433 HB_434 HB_435 HB_436 HB_437 HF_438 HF_439 HF_440 HF_441 HF_442 HF_443 HYa
    go_upto_region 24 with fail
    go_cut [238] from 206 to 238 (fun s238 wr => s238 = .bool false ∧ Ext w23 wr)
    case first =>
      have HFy := Lib.hid (fun (v : EW w23) => Frames_any y As9 ns9 cs9 v.w)
      have HFx := Lib.hid (fun (v : EW w23) => Frames_any x A1 n1 c1' v.w)
      have HPy := Lib.hid (fun (v : EW w23) => EPlain_any y As9 ns9 cs9 v.w (HF_458.out.ext v.ext) y3)
      have HPx := Lib.hid (fun (v : EW w23) => EPlain_any x A1 n1 c1' v.w (HF_457.out.ext v.ext) hsm.2)
      rw [y1] at HFy
      rw [y2] at HPy
      unfold Ev.cells at HFy HFx HPy HPx
      generalize x.frames = FR at *
      generalize (⟨x.text.toArray⟩ : ByteArray) = TX at *
      by_cases hd0 : y.inn - x.inn = 0
      case pos =>
        have hw : wrap64 (y.inn - x.inn) = 0 := by rw [hd0]; unfold wrap64; omega
        clear y6 y1 y2 y3 y4 y5 hd0
        have hr_459 := fun (x : EW w23) (o : Nat) => (HB_451.out.ext x.ext).cell o
        have hr_460 := fun (x : EW w23) (o : Nat) => (HB9.out.ext x.ext).cell o
        refine wp_region_ew w23 (Ext.refl _) (by kernel_rfl) (by kernel_rfl) ?_
        repeat (go_big_quiet_step ((first | (go_at_call 25; first | (with_reducible exact EW.calls _ (HFy.out _)) | (with_reducible exact EW.calls _ (HFx.out _))) | (go_at_call 26; first | (with_reducible exact EW.calls _ (HPy.out _)) | (with_reducible exact EW.calls _ (HPx.out _))))))
        refine wpQuiet_nil ?_
        rintro w_461 ⟨⟨_, hx_462⟩, rfl⟩
        have HXL := Lib.hid hx_462
        try dsimp only
        clear hr_459 hr_460
        have HX_463 := Lib.hid (HX_444.out.trans hx_462)
        have HB_464 := Lib.hid (HB_445.out.ext hx_462)
        have HB_465 := Lib.hid (HB_446.out.ext hx_462)
        have HB_466 := Lib.hid (HB_447.out.ext hx_462)
        have HB_467 := Lib.hid (HB_448.out.ext hx_462)
        have HB_468 := Lib.hid (HB_449.out.ext hx_462)
        have HB_469 := Lib.hid (HB_450.out.ext hx_462)
        have HB_470 := Lib.hid (HB_451.out.ext hx_462)
        have HB_471 := Lib.hid (HB9.out.ext hx_462)
        have HF_472 := Lib.hid (HF_452.out.ext hx_462)
        have HF_473 := Lib.hid (HF_453.out.ext hx_462)
        have HF_474 := Lib.hid (HF_454.out.ext hx_462)
        have HF_475 := Lib.hid (HF_455.out.ext hx_462)
        have HF_476 := Lib.hid (HF_456.out.ext hx_462)
        have HF_477 := Lib.hid (HF_457.out.ext hx_462)
        have HF_478 := Lib.hid (HF_458.out.ext hx_462)
        clear hx_462 HX_444 HB_445 HB_446 HB_447 HB_448 HB_449 HB_450 HB_451 HB9 HF_452 HF_453 HF_454 HF_455 HF_456 HF_457 HF_458
        go_wp2_with fail
        go_meet
        case rel => exact ⟨by simp, HXL.out⟩
      have hd1 : y.inn - x.inn = sh := by rcases y6 with h | h; exact absurd h hd0; exact h
      have hw : wrap64 (y.inn - x.inn) = sh := by unfold wrap64; omega
      have hbn : (sh != 0) = true := by simp; omega
      clear y6 y1 y2 y3 y4 y5 hd0 hd1
      have hr_479 := fun (x : EW w23) (o : Nat) => (HB_451.out.ext x.ext).cell o
      have hr_480 := fun (x : EW w23) (o : Nat) => (HB9.out.ext x.ext).cell o
      refine wp_region_ew w23 (Ext.refl _) (by kernel_rfl) (by kernel_rfl) ?_
      repeat (go_big_quiet_step ((first | (go_at_call 25; first | (with_reducible exact EW.calls _ (HFy.out _)) | (with_reducible exact EW.calls _ (HFx.out _))) | (go_at_call 26; first | (with_reducible exact EW.calls _ (HPy.out _)) | (with_reducible exact EW.calls _ (HPx.out _))))))
      refine wpQuiet_nil ?_
      rintro w_481 ⟨⟨_, hx_482⟩, rfl⟩
      have HXL := Lib.hid hx_482
      try dsimp only
      clear hr_479 hr_480
      have HX_483 := Lib.hid (HX_444.out.trans hx_482)
      have HB_484 := Lib.hid (HB_445.out.ext hx_482)
      have HB_485 := Lib.hid (HB_446.out.ext hx_482)
      have HB_486 := Lib.hid (HB_447.out.ext hx_482)
      have HB_487 := Lib.hid (HB_448.out.ext hx_482)
      have HB_488 := Lib.hid (HB_449.out.ext hx_482)
      have HB_489 := Lib.hid (HB_450.out.ext hx_482)
      have HB_490 := Lib.hid (HB_451.out.ext hx_482)
      have HB_491 := Lib.hid (HB9.out.ext hx_482)
      have HF_492 := Lib.hid (HF_452.out.ext hx_482)
      have HF_493 := Lib.hid (HF_453.out.ext hx_482)
      have HF_494 := Lib.hid (HF_454.out.ext hx_482)
      have HF_495 := Lib.hid (HF_455.out.ext hx_482)
      have HF_496 := Lib.hid (HF_456.out.ext hx_482)
      have HF_497 := Lib.hid (HF_457.out.ext hx_482)
      have HF_498 := Lib.hid (HF_458.out.ext hx_482)
      clear hx_482 HX_444 HB_445 HB_446 HB_447 HB_448 HB_449 HB_450 HB_451 HB9 HF_452 HF_453 HF_454 HF_455 HF_456 HF_457 HF_458
      go_wp2_with fail
      go_meet
      case rel => exact ⟨by simp, HXL.out⟩
    case rest =>
    obtain ⟨rfl, hxc⟩ := hcut
    obtain ⟨wk24, rfl⟩ : ∃ wk : World, wk = wc := ⟨_, rfl⟩
    have HX_499 := Lib.hid (HX_444.out.trans hxc)
    have HB_500 := Lib.hid (HB_445.out.ext hxc)
    have HB_501 := Lib.hid (HB_446.out.ext hxc)
    have HB_502 := Lib.hid (HB_447.out.ext hxc)
    have HB_503 := Lib.hid (HB_448.out.ext hxc)
    have HB_504 := Lib.hid (HB_449.out.ext hxc)
    have HB_505 := Lib.hid (HB_450.out.ext hxc)
    have HB_506 := Lib.hid (HB_451.out.ext hxc)
    have HB_507 := Lib.hid (HB9.out.ext hxc)
    have HF_508 := Lib.hid (HF_452.out.ext hxc)
    have HF_509 := Lib.hid (HF_453.out.ext hxc)
    have HF_510 := Lib.hid (HF_454.out.ext hxc)
    have HF_511 := Lib.hid (HF_455.out.ext hxc)
    have HF_512 := Lib.hid (HF_456.out.ext hxc)
    have HF_513 := Lib.hid (HF_457.out.ext hxc)
    have HF_514 := Lib.hid (HF_458.out.ext hxc)
    clear hxc HX_444 HB_445 HB_446 HB_447 HB_448 HB_449 HB_450 HB_451 HB9 HF_452 HF_453 HF_454 HF_455 HF_456 HF_457 HF_458
    go_wp2_with fail
    exact ⟨⟨k + 1, by omega, by go_num, HF_512.out⟩, by simp [intOf]; omega⟩
end Go.Proofs.YtagfedbdakmlgaaDoor
