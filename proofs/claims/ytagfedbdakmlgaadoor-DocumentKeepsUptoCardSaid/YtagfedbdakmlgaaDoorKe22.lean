/- Laid together: The walk of the law DocumentKeeps. Arguments that are rates, spans, small numbers, booleans and lists of drifts, opened. -/
import Derived.Test.YtagfedbdakmlgaaDoorKe16
import Derived.Test.YtagfedbdakmlgaaDoorKe15
import Derived.Test.YtagfedbdakmlgaaDoorKe18
import Derived.Test.YtagfedbdakmlgaaDoorKe17
import Derived.Test.YtagfedbdakmlgaaDoorKe19
import Derived.Test.YtagfedbdakmlgaaDoorKe20
import Derived.Test.YtagfedbdakmlgaaDoorKe21
import Derived.Test.YtagfedbdakmlgaaDoorKe01
import Derived.Test.YtagfedbdakmlgaaDoorKe13
import Derived.OpenShut

/-! LawKeep12 -/
namespace Go.Proofs.YtagfedbdakmlgaaDoor
set_option linter.unusedVariables false
set_option linter.unusedSimpArgs false
open Go.RowKit
set_option maxRecDepth 100000 in
set_option maxHeartbeats 16000000 in
theorem DocumentKeeps_any (d : Doc) (h : DocH) (e : Ev) (A : Option Addr) (n c : Nat) (w : World) (hE : Env w) (hat : DocAt w d h) (hi : DocIn d h) (he : EvAt w e A n c) (hes : EvSmall e) (hby : e.bytes ≤ 1099511627776) :
    Calls Tryd.prog 5 #[.agg (d.cells h), .agg (e.cells A n c)] w fun en w' => en = .returned (.bool true) ∧ Ext w w' := by
  have HX : Hid (Ext w ((w.alloc (.cells (d.cells h) 39)).alloc (.cells (e.cells A n c) 45))) := ((Ext.refl w).alloc _).alloc _
  have HB : Hid (Blk ((w.alloc (.cells (d.cells h) 39)).alloc (.cells (e.cells A n c) 45)) w.heap.size 39 (d.cells h)) := (Blk.new w _ _).alloc _
  have HT : Hid (Blk ((w.alloc (.cells (d.cells h) 39)).alloc (.cells (e.cells A n c) 45)) (w.heap.size + 1) 45 (e.cells A n c)) := Blk.new' (by simp)
  have hnE := hi.en
  have hcN := hi.cn
  have hrN := hi.rc.2
  have hnn := he.2.2
  have HEn := Lib.hid hE
  have HCl := Lib.hid (fun w' (hx : Ext w w') => R12Clone_any d h w' (hat.ext hx) hi.rc.2 (by omega) (by omega))
  have HEc := Lib.hid (fun w' (hx : Ext w w') => REClone_any e A n c w' (he.ext hx))
  have HDc := Lib.hid (fun w' (hx : Ext w w') => DClone_any d h w' (hat.ext hx) hi.rc.2 (by omega) (by omega))
  have HCa := Lib.hid (fun w' (hx : Ext w w') => DInsert_any d h e A n c w' (hE.ext hx) (hat.ext hx) hi.fit hi.rn hi.rc.2 hi.en hi.cn (he.ext hx) hes)
  have HCb := Lib.hid (fun w' (hx : Ext w w') => DPut_any d h e A n c w' (hE.ext hx) (hat.ext hx) hi.fit hi.rn hi.rc.2 hi.en hi.cn (he.ext hx) hes hby)
  have HCc := Lib.hid (fun w' (hx : Ext w w') => DRemove_any d h e.id w' (hE.ext hx) (hat.ext hx) hi.fit hi.rn hi.rc.2 hi.en hi.cn)
  have HCs := Lib.hid (fun w' (hx : Ext w w') => DShift_any d h 0 1 w' (hE.ext hx) (hat.ext hx) hi.fit hi.rn hi.rc.2 hi.en hi.cn)
  have HAt := Lib.hid hat
  have HEa := Lib.hid he
  clear hE hat hi he hes hby
  unfold DIEPost at HCa
  unfold DEPost at HCb HCc HCs
  unfold DClPost at HCl HDc
  unfold EClPost at HEc
  unfold Doc.cells at HX HB HT HCa HCb HCc HCs HCl HDc
  unfold Ev.cells at HX HB HT HCa HCb HEc
  generalize hC1 : (d.insX e).1 = D5 at *
  generalize (d.insX e).2.1 = ci at *
  generalize (d.insX e).2.2 = f5 at *
  generalize hC2 : (d.putX e).1 = D6 at *
  generalize (d.putX e).2 = f6 at *
  generalize hC3 : (d.remX e.id).1 = D7 at *
  generalize (d.remX e.id).2 = f7 at *
  generalize hC4 : (d.shX 0 1).1 = D8 at *
  generalize (d.shX 0 1).2 = f8 at *
  clear hC1 hC2 hC3 hC4
  obtain ⟨hra, nr, hrc, hea, hen, hec, hca, nc, hcc⟩ := h
  dsimp only at *
  unfold Doc.cells Ev.cells
  dsimp only
  go_enter Tryd.func5, Tryd.ntmps5
  go_wp2_with fail
  refine (awake12_any _ (HEn.out.ext HX.out)).mono ?_
  rintro en w_1 ⟨rfl, hx_2⟩
  have HX_3 := Lib.hid (HX.out.trans hx_2)
  have HB_4 := Lib.hid (HB.out.ext hx_2)
  have HB_5 := Lib.hid (HT.out.ext hx_2)
  clear hx_2 HX HB HT
  go_upto_region 3 with fail
  refine wp_region_allocs [some 25, some 26, some 27, some 28, some 5, some 6, none, none] [[], [0], [], [2, 1], [], [], [4, 1, 3, 0, 1, 4, 5], [5, 3, 6, 0, 1, 2, 3, 4, 5, 6]] [1, 3, 6, 7] [4, 5] [.agg #[.string d.title, .string d.lang, .int .u8 d.rate, .bool d.drop, .int .i64 d.last, .slice hra nr hrc, .slice hea hen hec, .slice hca nc hcc], undef, .agg #[.int .i64 e.id, .int .i64 e.inn, .int .i64 e.out, .string e.region, .int .u8 e.kind, .string e.speaker, .slice A n c], undef, undef, undef, undef, undef] (fun i => if i = 4 then .cells docZero 39 else .cells evZero 45) (KdJ d e n w_1) (by kernel_rfl) (by kernel_rfl) (by kernel_rfl) (by kernel_rfl) (by kernel_rfl) (by kernel_rfl) (by kernel_rfl) (by decide) (by kernel_rfl) ?_ ?_ ?_ ?_ ?_ ?_
  · exact KdJ.start w_1
  · intro i o ho ha a w' K' hk
    match i, ho with
    | 0, ho => simp at ha
    | 1, ho => simp at ha
    | 2, ho => simp at ha
    | 3, ho => simp at ha
    | 4, ho =>
      simp only [List.getElem?_toArray, List.getElem?_cons_zero, List.getElem?_cons_succ, Option.some.injEq] at ho
      subst ho
      exact (by first | exact wp_alloc_doc rfl hk | exact wp_alloc_ev rfl hk)
    | 5, ho =>
      simp only [List.getElem?_toArray, List.getElem?_cons_zero, List.getElem?_cons_succ, Option.some.injEq] at ho
      subst ho
      exact (by first | exact wp_alloc_doc rfl hk | exact wp_alloc_ev rfl hk)
    | 6, ho => simp at ha
    | 7, ho => simp at ha
    | i + 8, ho => simp at ho
  · intro i ha us gs w' hJ hn hlim
    match i, ha with
    | 0, ha => simp at ha
    | 1, ha => simp at ha
    | 2, ha => simp at ha
    | 3, ha => simp at ha
    | 4, ha => exact hJ.alloc4 (by have := hlim 2 6 rfl rfl; omega)
    | 5, ha => exact hJ.alloc5 (by have := hlim 2 6 rfl rfl; omega)
    | 6, ha => simp at ha
    | 7, ha => simp at ha
    | i + 8, ha => simp at ha
  · intro i o ho hc ha a w' us gs K' hJ hF hlim hk
    match i, ho with
    | 0, ho =>
      simp only [List.getElem?_toArray, List.getElem?_cons_zero, List.getElem?_cons_succ, Option.some.injEq] at ho
      subst ho
      have e2 := hF.old 2 (.pointer (some ⟨w.heap.size, 0, none⟩)) rfl rfl
      exact wp_loadBk 39 (.tmp 2) rfl _ 39 _ _ e2 (HB_4.out.ext hJ.ext) Tryd.underlying39 rfl (by exact size_docI) hk
    | 1, ho => simp at hc
    | 2, ho =>
      simp only [List.getElem?_toArray, List.getElem?_cons_zero, List.getElem?_cons_succ, Option.some.injEq] at ho
      subst ho
      have e3 := hF.old 3 (.pointer (some ⟨w.heap.size + 1, 0, none⟩)) rfl rfl
      exact wp_loadBk 45 (.tmp 3) rfl _ 45 _ _ e3 (HB_5.out.ext hJ.ext) Tryd.underlying45 rfl (by exact size_event) hk
    | 3, ho => simp at hc
    | 4, ho => simp at ha
    | 5, ho => simp at ha
    | 6, ho => simp at hc
    | 7, ho => simp at hc
    | i + 8, ho => simp at ho
  · intro p c' o hp ho a w' us gs K' hl hJ hF hk
    match p, hp with
    | 0, hp =>
      obtain rfl : 1 = c' := by simpa using hp
      simp only [List.getElem?_toArray, List.getElem?_cons_zero, List.getElem?_cons_succ, Option.some.injEq] at ho
      subst ho
      obtain rfl : us = [] := List.eq_nil_of_length_eq_zero hl
      have e25 := hF.pure 0 25 (.agg #[.string d.title, .string d.lang, .int .u8 d.rate, .bool d.drop, .int .i64 d.last, .slice hra nr hrc, .slice hea hen hec, .slice hca nc hcc]) rfl rfl rfl rfl rfl
      refine wp_call1 rfl e25 Tryd.call13 (HCl.out w' (HX_3.out.trans hJ.ext)) ?_
      rintro en w2 ⟨h9, rfl, ho9, hx9⟩
      exact ⟨_, rfl, hk _ w2 (hJ.call0 hx9 ho9)⟩
    | 1, hp =>
      obtain rfl : 3 = c' := by simpa using hp
      simp only [List.getElem?_toArray, List.getElem?_cons_zero, List.getElem?_cons_succ, Option.some.injEq] at ho
      subst ho
      obtain ⟨u0, rfl⟩ := list_1 hl
      have e27 := hF.pure 2 27 (.agg #[.int .i64 e.id, .int .i64 e.inn, .int .i64 e.out, .string e.region, .int .u8 e.kind, .string e.speaker, .slice A n c]) rfl rfl rfl rfl rfl
      refine wp_call1 rfl e27 Tryd.call14 (HEc.out w' (HX_3.out.trans hJ.ext)) ?_
      rintro en w2 ⟨A9, c9, rfl, hc9, hr9, hx9⟩
      exact ⟨_, rfl, hk _ w2 (hJ.call1 hx9 hc9 hr9)⟩
    | 2, hp =>
      obtain rfl : 6 = c' := by simpa using hp
      simp only [List.getElem?_toArray, List.getElem?_cons_zero, List.getElem?_cons_succ, Option.some.injEq] at ho
      subst ho
      obtain ⟨u0, u1, rfl⟩ := list_2 hl
      obtain ⟨g5, hg5, e5⟩ := hF.ptr 4 5 rfl rfl rfl rfl
      have e26 := hF.link 0 1 26 _ rfl rfl rfl rfl
      obtain ⟨h9, hu0, -⟩ := hJ.one u0 rfl
      subst hu0
      obtain ⟨_, cs', hcs, hB, _⟩ := hJ.va g5 hg5
      exact wp_storeB 39 (.tmp 5) (.tmp 26) rfl g5 39 _ _ e5 e26 (by exact size_docI) (by simp [Doc.cells, Value.oneCell']) hB hcs (hk undef _ (hJ.store2 hg5 hB))
    | 3, hp =>
      obtain rfl : 7 = c' := by simpa using hp
      simp only [List.getElem?_toArray, List.getElem?_cons_zero, List.getElem?_cons_succ, Option.some.injEq] at ho
      subst ho
      obtain ⟨u0, u1, u2, rfl⟩ := list_3 hl
      obtain ⟨g6, hg6, e6⟩ := hF.ptr 5 6 rfl rfl rfl rfl
      have e28 := hF.link 1 3 28 _ rfl rfl rfl rfl
      obtain ⟨h9, hu0, -⟩ := hJ.one u0 rfl
      subst hu0
      obtain ⟨A9, c9, hu1, -⟩ := hJ.two u1 rfl
      subst hu1
      obtain ⟨_, cs', hcs, hB, _⟩ := hJ.vb g6 hg6
      exact wp_storeB 45 (.tmp 6) (.tmp 28) rfl g6 45 _ _ e6 e28 (by exact size_event) (by simp [Ev.cells, Value.oneCell']) hB hcs (hk undef _ (hJ.store3 hg6 hB))
    | p + 4, hp => simp at hp
  intro us gs w3 hl hgs hJ
  obtain ⟨u0, u1, u2, u3, rfl⟩ := list_4 hl
  obtain ⟨g4, hg4⟩ := Option.isSome_iff_exists.1 (hgs 4 rfl)
  obtain ⟨g5, hg5⟩ := Option.isSome_iff_exists.1 (hgs 5 rfl)
  first | (rename_i hK; refine hK _ _ ?_; clear hK) | (rename_i hK hK_1; refine hK _ _ ?_; clear hK) | (rename_i hK hK_1 hK_2; refine hK _ _ ?_; clear hK) | (rename_i hK hK_1 hK_2 hK_3; refine hK _ _ ?_; clear hK)
  generalize hL : frameA _ _ _ _ _ _ = L
  obtain rfl : L = [(25, .agg #[.string d.title, .string d.lang, .int .u8 d.rate, .bool d.drop, .int .i64 d.last, .slice hra nr hrc, .slice hea hen hec, .slice hca nc hcc]), (26, u0), (27, .agg #[.int .i64 e.id, .int .i64 e.inn, .int .i64 e.out, .string e.region, .int .u8 e.kind, .string e.speaker, .slice A n c]), (28, u1), (5, .pointer ((gs 4).map fun g => ⟨g, 0, none⟩)), (6, .pointer ((gs 5).map fun g => ⟨g, 0, none⟩))] := hL.symm.trans (by kernel_rfl)
  rw [hg4, hg5]
  clear hL hl
  simp only [Act.put, Option.map_some, List.foldl_cons, List.foldl_nil, List.setIfInBounds_toArray, List.set_cons_zero, List.set_cons_succ]
  obtain ⟨⟨raw, rnw, rcw, eaw, enw, ecw, caw, cnw, ccw⟩, rfl, ho3, -⟩ := hJ.one u0 rfl
  obtain ⟨Ae, ce, rfl, hce, hr3⟩ := hJ.two u1 rfl
  obtain ⟨hg4a, cs4, -, hB4, hq4⟩ := hJ.va g4 hg4
  have hq4' := hq4 (by simp)
  obtain rfl : Doc.cells d ⟨raw, rnw, rcw, eaw, enw, ecw, caw, cnw, ccw⟩ = cs4 := by injection Option.some.inj hq4'
  obtain ⟨hg5a, cs5, -, hB5, hq5⟩ := hJ.vb g5 hg5
  have hq5' := hq5 (by simp)
  obtain rfl : Ev.cells e Ae n ce = cs5 := by injection Option.some.inj hq5'
  have hxJ := hJ.ext
  have HBw := Lib.hid hB4
  have HBe := Lib.hid hB5
  have HOw := Lib.hid ho3.at_
  have HLw : Hid (rnw ≤ 4611686018427387904 ∧ enw ≤ 4611686018427387904 ∧ cnw ≤ 4611686018427387904) := by
    have l1 := ho3.rlen
    have l2 := ho3.evs.len
    have l3 := ho3.clen
    have l4 := HAt.out.regs.1
    have l5 := HAt.out.evs.len
    have l6 := HAt.out.coms.1
    dsimp only at l1 l2 l3 l4 l5 l6
    show _ ∧ _
    omega
  have HEv : Hid (EvAt w3 e Ae n ce) := ⟨hr3.rows, hce, hnn⟩
  unfold Doc.cells at HBw
  unfold Ev.cells at HBe
  dsimp only at HBw
  clear hJ hq4 hq4' hq5 hq5' hB4 hB5 ho3 hr3 hgs hg4 hg5
  have HX_6 := Lib.hid (HX_3.out.trans hxJ)
  have HB_7 := Lib.hid (HB_4.out.ext hxJ)
  have HB_8 := Lib.hid (HB_5.out.ext hxJ)
  clear hxJ HX_3 HB_4 HB_5
  have HX3 := Lib.hid (Ext.refl w3)
  have KD := Lib.hid HB_7.out
  have KT := Lib.hid HB_8.out
  have KX := Lib.hid HX_6.out
  go_wp2_with (first | (refine wpList_loadB rfl 39 (.tmp 2) rfl (w.heap.size) 39 _ _ (by exact rfl) (by exact HB_7.out) Tryd.underlying39 rfl (by exact size_docI) ?_) | (refine wpList_loadB rfl 45 (.tmp 3) rfl (w.heap.size + 1) 45 _ _ (by exact rfl) (by exact HB_8.out) Tryd.underlying45 rfl (by exact size_event) ?_))
  refine (HCa.out _ HX_6.out).mono ?_
  rintro en w_9 ⟨⟨ra5, rn5, rc5, ea5, en5, ec5, ca5, cn5, cc5⟩, rfl, ho5, hx_10⟩
  dsimp only
  have HO5 := Lib.hid (ho5.dsh.le HX3.out.size)
  clear ho5
  have HX_11 := Lib.hid (HX_6.out.trans hx_10)
  have HB_12 := Lib.hid (HB_7.out.ext hx_10)
  have HB_13 := Lib.hid (HB_8.out.ext hx_10)
  have HF_14 := Lib.hid (HX3.out.ext hx_10)
  clear hx_10 HX_6 HB_7 HB_8 HX3
  have HB_15 := Lib.hid (Blk.new w_9 39 #[.string D5.title, .string D5.lang, .int .u8 D5.rate, .bool D5.drop, .int .i64 D5.last, .slice ra5 rn5 rc5, .slice ea5 en5 ec5, .slice ca5 cn5 cc5])
  have ha_16 := (Ext.refl w_9).alloc (.cells #[.string D5.title, .string D5.lang, .int .u8 D5.rate, .bool D5.drop, .int .i64 D5.last, .slice ra5 rn5 rc5, .slice ea5 en5 ec5, .slice ca5 cn5 cc5] 39)
  have HX_17 := Lib.hid (HX_11.out.trans ha_16)
  have HB_18 := Lib.hid (HB_12.out.ext ha_16)
  have HB_19 := Lib.hid (HB_13.out.ext ha_16)
  have HF_20 := Lib.hid (HF_14.out.ext ha_16)
  have HF_21 := Lib.hid (HO5.out.ext ha_16)
  clear ha_16 HX_11 HB_12 HB_13 HF_14 HO5
  go_wp2_with (first | (refine wpList_loadB rfl 39 (.tmp 2) rfl (w.heap.size) 39 _ _ (by exact rfl) (by exact HB_18.out) Tryd.underlying39 rfl (by exact size_docI) ?_) | (refine wpList_loadB rfl 45 (.tmp 3) rfl (w.heap.size + 1) 45 _ _ (by exact rfl) (by exact HB_19.out) Tryd.underlying45 rfl (by exact size_event) ?_))
  refine (HCb.out _ HX_17.out).mono ?_
  rintro en w_22 ⟨⟨ra6, rn6, rc6, ea6, en6, ec6, ca6, cn6, cc6⟩, rfl, ho6, hx_23⟩
  dsimp only
  have HO6 := Lib.hid (ho6.dsh.le HF_20.out.size)
  clear ho6
  have HX_24 := Lib.hid (HX_17.out.trans hx_23)
  have HB_25 := Lib.hid (HB_18.out.ext hx_23)
  have HB_26 := Lib.hid (HB_19.out.ext hx_23)
  have HB_27 := Lib.hid (HB_15.out.ext hx_23)
  have HF_28 := Lib.hid (HF_20.out.ext hx_23)
  have HF_29 := Lib.hid (HF_21.out.ext hx_23)
  clear hx_23 HX_17 HB_18 HB_19 HB_15 HF_20 HF_21
  have HB_30 := Lib.hid (Blk.new w_22 39 #[.string D6.title, .string D6.lang, .int .u8 D6.rate, .bool D6.drop, .int .i64 D6.last, .slice ra6 rn6 rc6, .slice ea6 en6 ec6, .slice ca6 cn6 cc6])
  have ha_31 := (Ext.refl w_22).alloc (.cells #[.string D6.title, .string D6.lang, .int .u8 D6.rate, .bool D6.drop, .int .i64 D6.last, .slice ra6 rn6 rc6, .slice ea6 en6 ec6, .slice ca6 cn6 cc6] 39)
  have HX_32 := Lib.hid (HX_24.out.trans ha_31)
  have HB_33 := Lib.hid (HB_25.out.ext ha_31)
  have HB_34 := Lib.hid (HB_26.out.ext ha_31)
  have HB_35 := Lib.hid (HB_27.out.ext ha_31)
  have HF_36 := Lib.hid (HF_28.out.ext ha_31)
  have HF_37 := Lib.hid (HF_29.out.ext ha_31)
  have HF_38 := Lib.hid (HO6.out.ext ha_31)
  clear ha_31 HX_24 HB_25 HB_26 HB_27 HF_28 HF_29 HO6
  have hc_39 := fun o => HB_34.out.cell o
  go_wp2_with (first | (refine wpList_loadB rfl 39 (.tmp 2) rfl (w.heap.size) 39 _ _ (by exact rfl) (by exact HB_33.out) Tryd.underlying39 rfl (by exact size_docI) ?_) | (refine wpList_loadB rfl 45 (.tmp 3) rfl (w.heap.size + 1) 45 _ _ (by exact rfl) (by exact HB_34.out) Tryd.underlying45 rfl (by exact size_event) ?_))
  clear hc_39
  refine (HCc.out _ HX_32.out).mono ?_
  rintro en w_40 ⟨⟨ra7, rn7, rc7, ea7, en7, ec7, ca7, cn7, cc7⟩, rfl, ho7, hx_41⟩
  dsimp only
  have HO7 := Lib.hid (ho7.dsh.le HF_36.out.size)
  clear ho7
  have HX_42 := Lib.hid (HX_32.out.trans hx_41)
  have HB_43 := Lib.hid (HB_33.out.ext hx_41)
  have HB_44 := Lib.hid (HB_34.out.ext hx_41)
  have HB_45 := Lib.hid (HB_35.out.ext hx_41)
  have HB_46 := Lib.hid (HB_30.out.ext hx_41)
  have HF_47 := Lib.hid (HF_36.out.ext hx_41)
  have HF_48 := Lib.hid (HF_37.out.ext hx_41)
  have HF_49 := Lib.hid (HF_38.out.ext hx_41)
  clear hx_41 HX_32 HB_33 HB_34 HB_35 HB_30 HF_36 HF_37 HF_38
  have HB_50 := Lib.hid (Blk.new w_40 39 #[.string D7.title, .string D7.lang, .int .u8 D7.rate, .bool D7.drop, .int .i64 D7.last, .slice ra7 rn7 rc7, .slice ea7 en7 ec7, .slice ca7 cn7 cc7])
  have ha_51 := (Ext.refl w_40).alloc (.cells #[.string D7.title, .string D7.lang, .int .u8 D7.rate, .bool D7.drop, .int .i64 D7.last, .slice ra7 rn7 rc7, .slice ea7 en7 ec7, .slice ca7 cn7 cc7] 39)
  have HX_52 := Lib.hid (HX_42.out.trans ha_51)
  have HB_53 := Lib.hid (HB_43.out.ext ha_51)
  have HB_54 := Lib.hid (HB_44.out.ext ha_51)
  have HB_55 := Lib.hid (HB_45.out.ext ha_51)
  have HB_56 := Lib.hid (HB_46.out.ext ha_51)
  have HF_57 := Lib.hid (HF_47.out.ext ha_51)
  have HF_58 := Lib.hid (HF_48.out.ext ha_51)
  have HF_59 := Lib.hid (HF_49.out.ext ha_51)
  have HF_60 := Lib.hid (HO7.out.ext ha_51)
  clear ha_51 HX_42 HB_43 HB_44 HB_45 HB_46 HF_47 HF_48 HF_49 HO7
  go_wp2_with (first | (refine wpList_loadB rfl 39 (.tmp 2) rfl (w.heap.size) 39 _ _ (by exact rfl) (by exact HB_53.out) Tryd.underlying39 rfl (by exact size_docI) ?_) | (refine wpList_loadB rfl 45 (.tmp 3) rfl (w.heap.size + 1) 45 _ _ (by exact rfl) (by exact HB_54.out) Tryd.underlying45 rfl (by exact size_event) ?_))
  refine (HCs.out _ HX_52.out).mono ?_
  rintro en w_61 ⟨⟨ra8, rn8, rc8, ea8, en8, ec8, ca8, cn8, cc8⟩, rfl, ho8, hx_62⟩
  dsimp only
  have HO8 := Lib.hid (ho8.dsh.le HF_57.out.size)
  clear ho8
  have HX_63 := Lib.hid (HX_52.out.trans hx_62)
  have HB_64 := Lib.hid (HB_53.out.ext hx_62)
  have HB_65 := Lib.hid (HB_54.out.ext hx_62)
  have HB_66 := Lib.hid (HB_55.out.ext hx_62)
  have HB_67 := Lib.hid (HB_56.out.ext hx_62)
  have HB_68 := Lib.hid (HB_50.out.ext hx_62)
  have HF_69 := Lib.hid (HF_57.out.ext hx_62)
  have HF_70 := Lib.hid (HF_58.out.ext hx_62)
  have HF_71 := Lib.hid (HF_59.out.ext hx_62)
  have HF_72 := Lib.hid (HF_60.out.ext hx_62)
  clear hx_62 HX_52 HB_53 HB_54 HB_55 HB_56 HB_50 HF_57 HF_58 HF_59 HF_60
  have HB_73 := Lib.hid (Blk.new w_61 39 #[.string D8.title, .string D8.lang, .int .u8 D8.rate, .bool D8.drop, .int .i64 D8.last, .slice ra8 rn8 rc8, .slice ea8 en8 ec8, .slice ca8 cn8 cc8])
  have ha_74 := (Ext.refl w_61).alloc (.cells #[.string D8.title, .string D8.lang, .int .u8 D8.rate, .bool D8.drop, .int .i64 D8.last, .slice ra8 rn8 rc8, .slice ea8 en8 ec8, .slice ca8 cn8 cc8] 39)
  have HX_75 := Lib.hid (HX_63.out.trans ha_74)
  have HB_76 := Lib.hid (HB_64.out.ext ha_74)
  have HB_77 := Lib.hid (HB_65.out.ext ha_74)
  have HB_78 := Lib.hid (HB_66.out.ext ha_74)
  have HB_79 := Lib.hid (HB_67.out.ext ha_74)
  have HB_80 := Lib.hid (HB_68.out.ext ha_74)
  have HF_81 := Lib.hid (HF_69.out.ext ha_74)
  have HF_82 := Lib.hid (HF_70.out.ext ha_74)
  have HF_83 := Lib.hid (HF_71.out.ext ha_74)
  have HF_84 := Lib.hid (HF_72.out.ext ha_74)
  have HF_85 := Lib.hid (HO8.out.ext ha_74)
  clear ha_74 HX_63 HB_64 HB_65 HB_66 HB_67 HB_68 HF_69 HF_70 HF_71 HF_72 HO8
  clear HCa HCb HCc HCs HCl HEc
  go_upto_region 8 with fail
  obtain ⟨W8, hW8⟩ : ∃ W8, W8 = (w_61.alloc (.cells #[.string D8.title, .string D8.lang, .int .u8 D8.rate, .bool D8.drop, .int .i64 D8.last, .slice ra8 rn8 rc8, .slice ea8 en8 ec8, .slice ca8 cn8 cc8] 39)) := ⟨_, rfl⟩
  rw [← hW8] at HX_75 HB_76 HB_77 HB_78 HB_79 HB_80 HB_73 HF_81 HF_82 HF_83 HF_84 HF_85 ⊢
  clear hW8
  have HX8s := HF_81.out.size
  have hST : QSt [(fun (u : Value) (w : World) => ∃ h9 : DocH, u = .agg (d.cells h9) ∧ DocOwn w W8.heap.size d h9), (fun (u : Value) (w : World) => ∃ (g : Nat) (h9 : DocH), u = .slice (some ⟨g, 0, none⟩) 5 5 ∧ W8.heap.size ≤ g ∧ Blk w g 39 (docs5 D5 D6 D7 D8 d ⟨ra5, rn5, rc5, ea5, en5, ec5, ca5, cn5, cc5⟩ ⟨ra6, rn6, rc6, ea6, en6, ec6, ca6, cn6, cc6⟩ ⟨ra7, rn7, rc7, ea7, en7, ec7, ca7, cn7, cc7⟩ ⟨ra8, rn8, rc8, ea8, en8, ec8, ca8, cn8, cc8⟩ h9) ∧ DocOwn w W8.heap.size d h9), (fun (u : Value) (_ : World) => u = .int .i64 5)] := by
    intro p hp u w w' hx h
    simp only [List.mem_cons, List.not_mem_nil, or_false] at hp
    rcases hp with rfl | rfl | rfl
    · obtain ⟨h9, h1, h2⟩ := h; exact ⟨h9, h1, h2.ext hx⟩
    · obtain ⟨g, h9, h1, h2, h3, h4⟩ := h; exact ⟨g, h9, h1, h2, h3.ext hx, h4.ext hx⟩
    · exact h
  refine wp_region_links [some 54, some 55, some 56, some 57, some 58, some 59, some 60, some 61, some 62] [[], [], [], [], [], [4], [0, 1, 2, 3, 5], [6], []] [5, 6, 7] [.agg #[.string D5.title, .string D5.lang, .int .u8 D5.rate, .bool D5.drop, .int .i64 D5.last, .slice ra5 rn5 rc5, .slice ea5 en5 ec5, .slice ca5 cn5 cc5], .agg #[.string D6.title, .string D6.lang, .int .u8 D6.rate, .bool D6.drop, .int .i64 D6.last, .slice ra6 rn6 rc6, .slice ea6 en6 ec6, .slice ca6 cn6 cc6], .agg #[.string D7.title, .string D7.lang, .int .u8 D7.rate, .bool D7.drop, .int .i64 D7.last, .slice ra7 rn7 rc7, .slice ea7 en7 ec7, .slice ca7 cn7 cc7], .agg #[.string D8.title, .string D8.lang, .int .u8 D8.rate, .bool D8.drop, .int .i64 D8.last, .slice ra8 rn8 rc8, .slice ea8 en8 ec8, .slice ca8 cn8 cc8], .agg #[.string d.title, .string d.lang, .int .u8 d.rate, .bool d.drop, .int .i64 d.last, .slice hra nr hrc, .slice hea hen hec, .slice hca nc hcc], undef, undef, undef, .int .i64 0] (QJ [(fun (u : Value) (w : World) => ∃ h9 : DocH, u = .agg (d.cells h9) ∧ DocOwn w W8.heap.size d h9), (fun (u : Value) (w : World) => ∃ (g : Nat) (h9 : DocH), u = .slice (some ⟨g, 0, none⟩) 5 5 ∧ W8.heap.size ≤ g ∧ Blk w g 39 (docs5 D5 D6 D7 D8 d ⟨ra5, rn5, rc5, ea5, en5, ec5, ca5, cn5, cc5⟩ ⟨ra6, rn6, rc6, ea6, en6, ec6, ca6, cn6, cc6⟩ ⟨ra7, rn7, rc7, ea7, en7, ec7, ca7, cn7, cc7⟩ ⟨ra8, rn8, rc8, ea8, en8, ec8, ca8, cn8, cc8⟩ h9) ∧ DocOwn w W8.heap.size d h9), (fun (u : Value) (_ : World) => u = .int .i64 5)] W8) (by kernel_rfl) (by kernel_rfl) (by kernel_rfl) (by kernel_rfl) (by kernel_rfl) (by kernel_rfl) (by kernel_rfl) (by decide) ?_ ?_ ?_ ?_
  · exact QJ.start _ W8
  · intro i o ho hc a w' us K' hJ hF hlim hk
    match i, ho with
    | 0, ho =>
      simp only [List.getElem?_toArray, List.getElem?_cons_zero, List.getElem?_cons_succ, Option.some.injEq] at ho
      subst ho
      have e7 := hF.old 7 (.pointer (some ⟨w_9.heap.size, 0, none⟩)) rfl rfl
      exact wp_loadBk 39 (.tmp 7) rfl _ 39 _ _ e7 (HB_78.out.ext hJ.ext) Tryd.underlying39 rfl (by exact size_docI) hk
    | 1, ho =>
      simp only [List.getElem?_toArray, List.getElem?_cons_zero, List.getElem?_cons_succ, Option.some.injEq] at ho
      subst ho
      have e10 := hF.old 10 (.pointer (some ⟨w_22.heap.size, 0, none⟩)) rfl rfl
      exact wp_loadBk 39 (.tmp 10) rfl _ 39 _ _ e10 (HB_79.out.ext hJ.ext) Tryd.underlying39 rfl (by exact size_docI) hk
    | 2, ho =>
      simp only [List.getElem?_toArray, List.getElem?_cons_zero, List.getElem?_cons_succ, Option.some.injEq] at ho
      subst ho
      have e12 := hF.old 12 (.pointer (some ⟨w_40.heap.size, 0, none⟩)) rfl rfl
      exact wp_loadBk 39 (.tmp 12) rfl _ 39 _ _ e12 (HB_80.out.ext hJ.ext) Tryd.underlying39 rfl (by exact size_docI) hk
    | 3, ho =>
      simp only [List.getElem?_toArray, List.getElem?_cons_zero, List.getElem?_cons_succ, Option.some.injEq] at ho
      subst ho
      have e14 := hF.old 14 (.pointer (some ⟨w_61.heap.size, 0, none⟩)) rfl rfl
      exact wp_loadBk 39 (.tmp 14) rfl _ 39 _ _ e14 (HB_73.out.ext hJ.ext) Tryd.underlying39 rfl (by exact size_docI) hk
    | 4, ho =>
      simp only [List.getElem?_toArray, List.getElem?_cons_zero, List.getElem?_cons_succ, Option.some.injEq] at ho
      subst ho
      have e2 := hF.old 2 (.pointer (some ⟨w.heap.size, 0, none⟩)) rfl rfl
      exact wp_loadBk 39 (.tmp 2) rfl _ 39 _ _ e2 (HB_76.out.ext hJ.ext) Tryd.underlying39 rfl (by exact size_docI) hk
    | 5, ho => simp at hc
    | 6, ho => simp at hc
    | 7, ho => simp at hc
    | 8, ho =>
      simp only [List.getElem?_toArray, List.getElem?_cons_zero, List.getElem?_cons_succ, Option.some.injEq] at ho
      subst ho
      clear hF hlim hJ
      go_simp
      exact hk
    | i + 9, ho => simp at ho
  · intro p c' o hp ho a w' us K' hl hJ hF hk
    match p, hp with
    | 0, hp =>
      obtain rfl : 5 = c' := by simpa using hp
      simp only [List.getElem?_toArray, List.getElem?_cons_zero, List.getElem?_cons_succ, Option.some.injEq] at ho
      subst ho
      obtain rfl : us = [] := List.eq_nil_of_length_eq_zero hl
      have e58 := hF.pure 4 58 (.agg #[.string d.title, .string d.lang, .int .u8 d.rate, .bool d.drop, .int .i64 d.last, .slice hra nr hrc, .slice hea hen hec, .slice hca nc hcc]) rfl rfl rfl rfl
      refine wp_call1 rfl e58 Tryd.call19 (HDc.out w' (HX_75.out.trans hJ.ext)) ?_
      rintro en w2 ⟨h9, rfl, ho9, hx9⟩
      exact ⟨_, rfl, hk _ w2 (hJ.push hST hx9 (fun p hp => by cases hp; exact ⟨h9, rfl, ho9.le hJ.ext.size⟩))⟩
    | 1, hp =>
      obtain rfl : 6 = c' := by simpa using hp
      simp only [List.getElem?_toArray, List.getElem?_cons_zero, List.getElem?_cons_succ, Option.some.injEq] at ho
      subst ho
      obtain ⟨u0, rfl⟩ := list_1 hl
      have e54 := hF.pure 0 54 (.agg #[.string D5.title, .string D5.lang, .int .u8 D5.rate, .bool D5.drop, .int .i64 D5.last, .slice ra5 rn5 rc5, .slice ea5 en5 ec5, .slice ca5 cn5 cc5]) rfl rfl rfl rfl
      have e55 := hF.pure 1 55 (.agg #[.string D6.title, .string D6.lang, .int .u8 D6.rate, .bool D6.drop, .int .i64 D6.last, .slice ra6 rn6 rc6, .slice ea6 en6 ec6, .slice ca6 cn6 cc6]) rfl rfl rfl rfl
      have e56 := hF.pure 2 56 (.agg #[.string D7.title, .string D7.lang, .int .u8 D7.rate, .bool D7.drop, .int .i64 D7.last, .slice ra7 rn7 rc7, .slice ea7 en7 ec7, .slice ca7 cn7 cc7]) rfl rfl rfl rfl
      have e57 := hF.pure 3 57 (.agg #[.string D8.title, .string D8.lang, .int .u8 D8.rate, .bool D8.drop, .int .i64 D8.last, .slice ra8 rn8 rc8, .slice ea8 en8 ec8, .slice ca8 cn8 cc8]) rfl rfl rfl rfl
      have e59 := hF.link 0 5 59 _ rfl rfl rfl rfl
      obtain ⟨h9, hu0, ho9⟩ : (fun (u : Value) (w : World) => ∃ h9 : DocH, u = .agg (d.cells h9) ∧ DocOwn w W8.heap.size d h9) u0 w' := hJ.val 0 u0 _ rfl rfl
      rw [hu0] at e59
      have HK := Lib.hid (hk (.slice (some ⟨w'.heap.size, 0, none⟩) 5 5) (w'.alloc (.cells (docs5 D5 D6 D7 D8 d ⟨ra5, rn5, rc5, ea5, en5, ec5, ca5, cn5, cc5⟩ ⟨ra6, rn6, rc6, ea6, en6, ec6, ca6, cn6, cc6⟩ ⟨ra7, rn7, rc7, ea7, en7, ec7, ca7, cn7, cc7⟩ ⟨ra8, rn8, rc8, ea8, en8, ec8, ca8, cn8, cc8⟩ h9) 39)) (hJ.push hST ((Ext.refl w').alloc _) (fun p hp => by cases hp; exact ⟨w'.heap.size, h9, rfl, hJ.ext.size, Blk.new w' _ _, ho9.ext ((Ext.refl w').alloc _)⟩)))
      clear hk hF hJ hu0 ho9
      unfold docs5 at HK
      dsimp only at HK
      unfold Doc.cells at e59
      simp [Act.eval] at e54 e55 e56 e57 e59
      go_simp
      exact HK.out
    | 2, hp =>
      obtain rfl : 7 = c' := by simpa using hp
      simp only [List.getElem?_toArray, List.getElem?_cons_zero, List.getElem?_cons_succ, Option.some.injEq] at ho
      subst ho
      obtain ⟨u0, u1, rfl⟩ := list_2 hl
      have e60 := hF.link 1 6 60 _ rfl rfl rfl rfl
      obtain ⟨g9, h9, hu1, -⟩ : (fun (u : Value) (w : World) => ∃ (g : Nat) (h9 : DocH), u = .slice (some ⟨g, 0, none⟩) 5 5 ∧ W8.heap.size ≤ g ∧ Blk w g 39 (docs5 D5 D6 D7 D8 d ⟨ra5, rn5, rc5, ea5, en5, ec5, ca5, cn5, cc5⟩ ⟨ra6, rn6, rc6, ea6, en6, ec6, ca6, cn6, cc6⟩ ⟨ra7, rn7, rc7, ea7, en7, ec7, ca7, cn7, cc7⟩ ⟨ra8, rn8, rc8, ea8, en8, ec8, ca8, cn8, cc8⟩ h9) ∧ DocOwn w W8.heap.size d h9) u1 w' := hJ.val 1 u1 _ rfl rfl
      rw [hu1] at e60
      simp only [Act.eval] at e60
      have HK := Lib.hid (hk (.int .i64 5) w' (hJ.push hST (Ext.refl _) (fun p hp => by cases hp; rfl)))
      clear hk hF hJ hu1
      go_simp
      exact HK.out
    | p + 3, hp => simp at hp
  intro us w9 hl hJ
  obtain ⟨u0, u1, u2, rfl⟩ := list_3 hl
  first | (rename_i hK; refine hK _ _ ?_; clear hK) | (rename_i hK hK_1; refine hK _ _ ?_; clear hK) | (rename_i hK hK_1 hK_2; refine hK _ _ ?_; clear hK) | (rename_i hK hK_1 hK_2 hK_3; refine hK _ _ ?_; clear hK)
  generalize hL : frameL _ _ _ _ = L
  obtain rfl : L = [(54, .agg #[.string D5.title, .string D5.lang, .int .u8 D5.rate, .bool D5.drop, .int .i64 D5.last, .slice ra5 rn5 rc5, .slice ea5 en5 ec5, .slice ca5 cn5 cc5]), (55, .agg #[.string D6.title, .string D6.lang, .int .u8 D6.rate, .bool D6.drop, .int .i64 D6.last, .slice ra6 rn6 rc6, .slice ea6 en6 ec6, .slice ca6 cn6 cc6]), (56, .agg #[.string D7.title, .string D7.lang, .int .u8 D7.rate, .bool D7.drop, .int .i64 D7.last, .slice ra7 rn7 rc7, .slice ea7 en7 ec7, .slice ca7 cn7 cc7]), (57, .agg #[.string D8.title, .string D8.lang, .int .u8 D8.rate, .bool D8.drop, .int .i64 D8.last, .slice ra8 rn8 rc8, .slice ea8 en8 ec8, .slice ca8 cn8 cc8]), (58, .agg #[.string d.title, .string d.lang, .int .u8 d.rate, .bool d.drop, .int .i64 d.last, .slice hra nr hrc, .slice hea hen hec, .slice hca nc hcc]), (59, u0), (60, u1), (61, u2), (62, .int .i64 0)] := hL.symm.trans (by kernel_rfl)
  clear hL hl
  simp only [Act.put, List.foldl_cons, List.foldl_nil, List.setIfInBounds_toArray, List.set_cons_zero, List.set_cons_succ]
  obtain ⟨g9, ⟨rax, rnx, rcx, eax, enx, ecx, cax, cnx, ccx⟩, hu1, hg9, hb9, ho9⟩ : (fun (u : Value) (w : World) => ∃ (g : Nat) (h9 : DocH), u = .slice (some ⟨g, 0, none⟩) 5 5 ∧ W8.heap.size ≤ g ∧ Blk w g 39 (docs5 D5 D6 D7 D8 d ⟨ra5, rn5, rc5, ea5, en5, ec5, ca5, cn5, cc5⟩ ⟨ra6, rn6, rc6, ea6, en6, ec6, ca6, cn6, cc6⟩ ⟨ra7, rn7, rc7, ea7, en7, ec7, ca7, cn7, cc7⟩ ⟨ra8, rn8, rc8, ea8, en8, ec8, ca8, cn8, cc8⟩ h9) ∧ DocOwn w W8.heap.size d h9) u1 w9 := hJ.val 1 u1 _ rfl rfl
  have hu2 : u2 = .int .i64 5 := hJ.val 2 u2 _ rfl rfl
  subst hu1 hu2
  have hxJ := hJ.ext
  clear hJ hST HDc
  have HX_86 := Lib.hid (HX_75.out.trans hxJ)
  have HB_87 := Lib.hid (HB_76.out.ext hxJ)
  have HB_88 := Lib.hid (HB_77.out.ext hxJ)
  have HB_89 := Lib.hid (HB_78.out.ext hxJ)
  have HB_90 := Lib.hid (HB_79.out.ext hxJ)
  have HB_91 := Lib.hid (HB_80.out.ext hxJ)
  have HB_92 := Lib.hid (HB_73.out.ext hxJ)
  have HF_93 := Lib.hid (HF_81.out.ext hxJ)
  have HF_94 := Lib.hid (HF_82.out.ext hxJ)
  have HF_95 := Lib.hid (HF_83.out.ext hxJ)
  have HF_96 := Lib.hid (HF_84.out.ext hxJ)
  have HF_97 := Lib.hid (HF_85.out.ext hxJ)
  clear hxJ HX_75 HB_76 HB_77 HB_78 HB_79 HB_80 HB_73 HF_81 HF_82 HF_83 HF_84 HF_85
  have HDs : Hid (∀ j, j < 5 → DSh w9 w3.heap.size (H5 ⟨ra5, rn5, rc5, ea5, en5, ec5, ca5, cn5, cc5⟩ ⟨ra6, rn6, rc6, ea6, en6, ec6, ca6, cn6, cc6⟩ ⟨ra7, rn7, rc7, ea7, en7, ec7, ca7, cn7, cc7⟩ ⟨ra8, rn8, rc8, ea8, en8, ec8, ca8, cn8, cc8⟩ ⟨rax, rnx, rcx, eax, enx, ecx, cax, cnx, ccx⟩ j)) := by
    intro j hj
    match j, hj with
    | 0, _ => exact HF_94.out
    | 1, _ => exact HF_95.out
    | 2, _ => exact HF_96.out
    | 3, _ => exact HF_97.out
    | 4, _ => exact ho9.dsh.le (HX8s)
  have HCl : Hid (∀ j, j < 5 → DCl w9 g9 (j * 8) (H5 ⟨ra5, rn5, rc5, ea5, en5, ec5, ca5, cn5, cc5⟩ ⟨ra6, rn6, rc6, ea6, en6, ec6, ca6, cn6, cc6⟩ ⟨ra7, rn7, rc7, ea7, en7, ec7, ca7, cn7, cc7⟩ ⟨ra8, rn8, rc8, ea8, en8, ec8, ca8, cn8, cc8⟩ ⟨rax, rnx, rcx, eax, enx, ecx, cax, cnx, ccx⟩ j)) := dcl5 hb9
  have HX9 := Lib.hid HF_93.out
  generalize H5 ⟨ra5, rn5, rc5, ea5, en5, ec5, ca5, cn5, cc5⟩ ⟨ra6, rn6, rc6, ea6, en6, ec6, ca6, cn6, cc6⟩ ⟨ra7, rn7, rc7, ea7, en7, ec7, ca7, cn7, cc7⟩ ⟨ra8, rn8, rc8, ea8, en8, ec8, ca8, cn8, cc8⟩ ⟨rax, rnx, rcx, eax, enx, ecx, cax, cnx, ccx⟩ = HH at *
  clear hb9 ho9 hg9 HF_94 HF_95 HF_96 HF_97 HB_89 HB_90 HB_91 HB_92
  go_wp2_with fail
  go_loopw [62] (fun i wr => ∃ j : Nat, j ≤ 5 ∧ i = .int .i64 j ∧ Ext w3 wr ∧ Kin w9 wr) (fun i _ => 5 - (intOf i).toNat)
  case atStart => exact ⟨0, by omega, rfl, HX9.out, Kin.refl _⟩
  case round =>
    obtain ⟨j, hj, rfl, hxr, hkr⟩ := hrel
    have hj0 : (0 : Int) ≤ (j : Int) := by omega
    by_cases hlt : j < 5
    · have hj1 : (j : Int) < 5 := by omega
      have hD := (HDs.out j hlt).kin hkr
      obtain ⟨⟨s0, e0⟩, ⟨s1, e1⟩, ⟨r2, e2⟩, ⟨r3, e3⟩, ⟨r4, e4⟩, e5, e6, e7⟩ := (HCl.out j hlt).kin hkr
      generalize HH j = hj' at *
      obtain ⟨ra, rn, rc, ea, en', ec, ca, cn, cc⟩ := hj'
      dsimp only at *
      have hbd := hD.bd
      dsimp only at hbd
      obtain ⟨hb1, hb2, hb3⟩ := hbd
      have HDr := Lib.hid hD
      clear hD
      go_upto_region 11 with fail
      clear e0 e1 e2 e3 e4 e5 e6 e7
      have hal := (Ext.refl wr).alloc (.cells #[.string s0, .string s1, .int .u8 r2, .bool r3, .int .i64 r4, .slice ra rn rc, .slice ea en' ec, .slice ca cn cc] 39)
      have HBx := Lib.hid (Blk.new wr 39 #[.string s0, .string s1, .int .u8 r2, .bool r3, .int .i64 r4, .slice ra rn rc, .slice ea en' ec, .slice ca cn cc])
      have HXb := Lib.hid (hxr.trans hal)
      have HKb := Lib.hid (hkr.ext hal)
      have HDb := Lib.hid (HDr.out.kin (Kin.of_ext hal))
      obtain ⟨Wb, hWb⟩ : ∃ Wb, Wb = wr.alloc (.cells #[.string s0, .string s1, .int .u8 r2, .bool r3, .int .i64 r4, .slice ra rn rc, .slice ea en' ec, .slice ca cn cc] 39) := ⟨_, rfl⟩
      rw [← hWb] at HBx HXb HKb HDb ⊢
      clear hWb hal HDr
      obtain ⟨gx, hgx⟩ : ∃ gx, gx = wr.heap.size := ⟨_, rfl⟩
      rw [← hgx] at HBx ⊢
      clear hgx hxr hkr
      have HCx : Hid (DCl Wb gx 0 ⟨ra, rn, rc, ea, en', ec, ca, cn, cc⟩) := ⟨⟨_, HBx.out.cell 0⟩, ⟨_, HBx.out.cell 1⟩, ⟨_, HBx.out.cell 2⟩, ⟨_, HBx.out.cell 3⟩, ⟨_, HBx.out.cell 4⟩, HBx.out.cell 5, HBx.out.cell 6, HBx.out.cell 7⟩
      clear HBx
      have x5 : Wb.cell? ⟨gx, 5, none⟩ = some (.slice ra rn rc) := HCx.out.2.2.2.2.2.1
      go_wp2_with fail
      go_loopw [69] (fun i wr => ∃ k : Nat, k ≤ rn ∧ i = .int .i64 k ∧ Ext w3 wr ∧ Kin Wb wr) (fun i _ => rn - (intOf i).toNat)
      case atStart => exact ⟨0, Nat.zero_le _, rfl, HXb.out, Kin.refl _⟩
      case round =>
        clear x5
        obtain ⟨k, hk, rfl, hx1, hk1⟩ := hrel
        have hki : (0 : Int) ≤ (k : Int) := by omega
        by_cases hlt1 : k < rn
        · have hkj : (k : Int) < (rn : Int) := by omega
          obtain ⟨b, o, rfl, hL, ⟨t, ht⟩, hf⟩ := (HDb.out.kin hk1).regs k hlt1
          have y5 : wr.cell? ⟨gx, 5, none⟩ = some (.slice (some ⟨b, o, none⟩) rn rc) := (HCx.out.kin hk1).2.2.2.2.2.1
          go_wp2_with fail
          exact ⟨⟨k + 1, by omega, by go_num, hx1.setCell hL _, hk1.trans (Kin.set rfl ht _)⟩, by simp [intOf]; omega⟩
        obtain rfl : k = rn := by omega
        obtain ⟨w1, rfl⟩ : ∃ w1 : World, w1 = wr := ⟨_, rfl⟩
        have x7 : w1.cell? ⟨gx, 7, none⟩ = some (.slice ca cn cc) := (HCx.out.kin hk1).2.2.2.2.2.2.2
        go_wp2_with fail
        go_loopw [81] (fun i wr => ∃ k : Nat, k ≤ cn ∧ i = .int .i64 k ∧ Ext w3 wr ∧ Kin Wb wr) (fun i _ => cn - (intOf i).toNat)
        case atStart => exact ⟨0, Nat.zero_le _, rfl, hx1, hk1⟩
        case round =>
          clear x7 hx1 hk1 hki hk hlt1
          obtain ⟨k, hk, rfl, hx1, hk1⟩ := hrel
          have hki : (0 : Int) ≤ (k : Int) := by omega
          by_cases hlt1 : k < cn
          · have hkj : (k : Int) < (cn : Int) := by omega
            obtain ⟨b, o, rfl, hL, ⟨t, ht⟩, hf⟩ := (HDb.out.kin hk1).coms k hlt1
            have y7 : wr.cell? ⟨gx, 7, none⟩ = some (.slice (some ⟨b, o, none⟩) cn cc) := (HCx.out.kin hk1).2.2.2.2.2.2.2
            go_wp2_with fail
            exact ⟨⟨k + 1, by omega, by go_num, hx1.setCell hL _, hk1.trans (Kin.set rfl ht _)⟩, by simp [intOf]; omega⟩
          obtain rfl : k = cn := by omega
          obtain ⟨w2, rfl⟩ : ∃ w2 : World, w2 = wr := ⟨_, rfl⟩
          have x6 : w2.cell? ⟨gx, 6, none⟩ = some (.slice ea en' ec) := (HCx.out.kin hk1).2.2.2.2.2.2.1
          go_wp2_with fail
          go_loopw [93] (fun i wr => ∃ k : Nat, k ≤ en' ∧ i = .int .i64 k ∧ Ext w3 wr ∧ Kin Wb wr) (fun i _ => en' - (intOf i).toNat)
          case atStart => exact ⟨0, Nat.zero_le _, rfl, hx1, hk1⟩
          case round =>
            clear x6 hx1 hk1 hki hk hlt1
            obtain ⟨k, hk, rfl, hx1, hk1⟩ := hrel
            have hki : (0 : Int) ≤ (k : Int) := by omega
            obtain ⟨w4, rfl⟩ : ∃ w4 : World, w4 = wr := ⟨_, rfl⟩
            by_cases hlt1 : k < en'
            · have hkj : (k : Int) < (en' : Int) := by omega
              obtain ⟨b, o, A2, n2, c2, rfl, hsp, hsl, hn2, hrs⟩ := (HDb.out.kin hk1).evs k hlt1
              have HRs := Lib.hid hrs
              have HSp := Lib.hid hsp
              have y6 : w4.cell? ⟨gx, 6, none⟩ = some (.slice (some ⟨b, o, none⟩) en' ec) := (HCx.out.kin hk1).2.2.2.2.2.2.1
              have HY6 := Lib.hid y6
              have HSl := Lib.hid hsl
              clear hrs hsp
              go_wp2_with fail
              go_loopw [103] (fun i wr => ∃ q : Nat, q ≤ n2 ∧ i = .int .i64 q ∧ Ext w3 wr ∧ Kin w4 wr) (fun i _ => n2 - (intOf i).toNat)
              case atStart => exact ⟨0, Nat.zero_le _, rfl, hx1, Kin.refl _⟩
              case round =>
                clear y6 hsl
                obtain ⟨q, hq, rfl, hx2, hk2⟩ := hrel
                have hqi : (0 : Int) ≤ (q : Int) := by omega
                obtain ⟨w5, rfl⟩ : ∃ w5 : World, w5 = wr := ⟨_, rfl⟩
                have z6 := hk2.slice HY6.out
                have zs := hk2.slice HSl.out
                by_cases hlt2 : q < n2
                · have hqj : (q : Int) < (n2 : Int) := by omega
                  obtain ⟨b2, o2, A3, n3, c3, rfl, hsl3, hn3, hru⟩ := (HRs.out.kin hk2) q hlt2
                  have HRu := Lib.hid hru
                  have HZ6 := Lib.hid z6
                  have HZs := Lib.hid zs
                  have HS3 := Lib.hid hsl3
                  clear hru
                  go_wp2_with fail
                  go_loopw [117] (fun i wr => ∃ p : Nat, p ≤ n3 ∧ i = .int .i64 p ∧ Ext w3 wr ∧ Kin w5 wr) (fun i _ => n3 - (intOf i).toNat)
                  case atStart => exact ⟨0, Nat.zero_le _, rfl, hx2, Kin.refl _⟩
                  case round =>
                    clear z6 zs hsl3
                    obtain ⟨p, hp, rfl, hx3, hk3⟩ := hrel
                    have hpi : (0 : Int) ≤ (p : Int) := by omega
                    by_cases hlt3 : p < n3
                    · have hpj : (p : Int) < (n3 : Int) := by omega
                      obtain ⟨b3, o3, hA3, hst⟩ := HRu.out p hlt3
                      subst hA3
                      obtain ⟨hL, ⟨t, ht⟩, hf⟩ := hst.kin hk3
                      have v6 := hk3.slice HZ6.out
                      have vs := hk3.slice HZs.out
                      have v3 := hk3.slice HS3.out
                      go_wp2_with fail
                      exact ⟨⟨p + 1, by omega, by go_num, hx3.setCell hL _, hk3.trans (Kin.set rfl ht _)⟩, by simp [intOf]; omega⟩
                    obtain rfl : p = n3 := by omega
                    go_wp2_with fail
                    exact ⟨⟨q + 1, by omega, by go_num, hx3, hk2.trans hk3⟩, by simp [intOf]; omega⟩
                obtain rfl : q = n2 := by omega
                obtain ⟨hL, ⟨t, ht⟩, hf⟩ := HSp.out.kin hk2
                go_wp2_with fail
                exact ⟨⟨k + 1, by omega, by go_num, hx2.setCell hL _, (hk1.trans hk2).trans (Kin.set rfl ht _)⟩, by simp [intOf]; omega⟩
            obtain rfl : k = en' := by omega
            go_wp2_with fail
            exact ⟨⟨j + 1, by omega, by go_num, hx1, HKb.out.trans hk1⟩, by simp [intOf]; omega⟩
    have hj5 : ¬ (j : Int) < 5 := by omega
    have HW := Lib.hid (HBw.out.ext hxr)
    have HV := Lib.hid (HBe.out.ext hxr)
    have HBd := Lib.hid (KD.out.ext hxr)
    have HBt := Lib.hid (KT.out.ext hxr)
    have HS1 := Lib.hid (fun w' (hx : Ext wr w') => R12Same_big d d ⟨hra, nr, hrc, hea, hen, hec, hca, nc, hcc⟩ ⟨raw, rnw, rcw, eaw, enw, ecw, caw, cnw, ccw⟩ w' (HAt.out.ext (KX.out.trans (hxr.trans hx))) (HOw.out.ext (hxr.trans hx)) (by dsimp only; omega) HLw.out)
    have HS2 := Lib.hid (fun w' (hx : Ext wr w') => RESame_any e e A n c Ae n ce w' (HEa.out.ext (KX.out.trans (hxr.trans hx))) (HEv.out.ext (hxr.trans hx)))
    rw [sameDoc_self] at HS1
    rw [decide_eq_true rfl] at HS2
    unfold Doc.cells at HS1
    unfold Ev.cells at HS2
    dsimp only at HS1
    have q1 := fun o => HW.out.cell o
    have q2 := fun o => HV.out.cell o
    have q3 := fun o => HBd.out.cell o
    have q4 := fun o => HBt.out.cell o
    go_wp2_with fail
    refine (HS1.out _ (Ext.refl _)).mono ?_
    rintro en w6 ⟨rfl, hx6⟩
    have p1 := fun o => (HW.out.ext hx6).cell o
    have p2 := fun o => (HV.out.ext hx6).cell o
    have p3 := fun o => (HBd.out.ext hx6).cell o
    have p4 := fun o => (HBt.out.ext hx6).cell o
    clear q1 q2 q3 q4
    go_wp2_with fail
    refine (HS2.out _ hx6).mono ?_
    rintro en w7 ⟨rfl, hx7⟩
    clear p1 p2 p3 p4
    go_wp2_with fail
    go_ret
    exact ⟨by simp, KX.out.trans ((hxr.trans hx6).trans hx7)⟩
end Go.Proofs.YtagfedbdakmlgaaDoor

/-! OpenR -/
namespace Go.Proofs.YtagfedbdakmlgaaDoor
set_option linter.unusedVariables false
set_option linter.unusedSimpArgs false
open Go.RowKit Go.ChangeShapes Go.WideShapes Go.ChangeAt
set_option maxRecDepth 100000
end Go.Proofs.YtagfedbdakmlgaaDoor
