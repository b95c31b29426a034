/- Laid together: The walk of the reference's check of a document. Copies of rows, the reference's. The walks of event.Clone and of the reference's Clone. Lists of events in memory of their own: blocks that are kept by stores elsewhere; the heads of events; documents of one's own. A drawn region whose operations with effects stand in a chain, and that makes variables besides, at whatever time. -/
import Derived.Test.YtajbhfmdmajpmaaGreatDoorPk14
import Derived.Test.YtajbhfmdmajpmaaGreatDoorPk08
import Derived.Test.YtajbhfmdmajpmaaGreatDoorPk04
import Derived.Test.YtajbhfmdmajpmaaGreatDoorPk03
import Derived.Test.YtajbhfmdmajpmaaGreatDoorPk05

/-! DCheckR -/
namespace Go.Proofs.YtajbhfmdmajpmaaGreatDoor
set_option linter.unusedVariables false
set_option linter.unusedSimpArgs false
open Go.RowKit
theorem findE_take {l : List Ev} {id : Int} {k q : Nat} (h : findE (l.take k) id = some q) : findE l id = some q ∧ q < k := by
  unfold findE at *
  rw [List.findIdx?_eq_some_iff_getElem] at h
  obtain ⟨hq, h1, h2⟩ := h
  have hq' : q < k ∧ q < l.length := by simp at hq; omega
  refine ⟨?_, hq'.1⟩
  rw [List.findIdx?_eq_some_iff_getElem]
  refine ⟨hq'.2, by simpa using h1, fun j hj => ?_⟩
  have := h2 j hj
  simpa using this
def R12EvRel (w1 : World) (n : Nat) (regs : List Reg) (last : Int) (l : List Ev) (i : Value) (wr : World) : Prop :=
  ∃ k : Nat, k ≤ n ∧ i = .int .i64 k ∧ Ext w1 wr ∧ evsLoop regs last [] l = evsLoop regs last (l.take k) (l.drop k)
set_option maxRecDepth 100000 in
set_option maxHeartbeats 8000000 in
theorem R12Check_any (d : Doc) (h : DocH) (w : World) (hE : Env w) (hat : DocAt w d h) (hf : DocFit d) (hrn : h.rn ≤ 9223372036854775807) (hn : h.en ≤ 1000000) (hcn : h.cn ≤ 9223372036854775807) :
    Calls Tryz.prog 35 #[.agg (d.cells h)] w fun en w' => en = .returned (.int .i64 d.err) ∧ Ext w w' := by
  have HX := Lib.hid ((Ext.refl w).alloc (.cells (d.cells h) 27))
  have HB := Lib.hid (Blk.new w 27 (d.cells h))
  have HHd := Lib.hid (fun w' => R12head_any d h w' hf.ok)
  have HRg := Lib.hid (fun w' (hx : Ext w w') => R10CheckList_any h.ra h.rn h.rc d.regs w' (hat.regs.ext hx) hrn hf.regs)
  have HFd := Lib.hid (fun w' (hx : Ext w w') id => R12Find_any d h id w' (hat.evs.ext hx) hn)
  have HCo := Lib.hid (fun w' (hx : Ext w w') k c hk => R12com_any d h k c w' (hE.ext hx) (hat.ext hx) hf.evs hn hcn hk (hf.coms c (List.mem_of_getElem? hk)))
  have HEv := Lib.hid hat.evs
  have HRs := Lib.hid hat.regs
  have HE := Lib.hid hE
  have HSm := Lib.hid hf.evs
  have HRm := Lib.hid hf.regs
  have HEl := Lib.hid hat.evs.len
  have HCl := Lib.hid hat.coms.len
  have D1 := Lib.hid (@doc_1 d)
  have D2 := Lib.hid (@doc_2 d)
  have D3 := Lib.hid (@doc_3 d)
  have D4 := Lib.hid (@doc_4 d)
  have D5 := Lib.hid (@doc_5 d)
  have HCe : Hid (comsErr d.last d.evs d.coms = if 64 < d.coms.length then 9 else comsLoop d.last d.evs none d.coms) := rfl
  clear hat hf hE
  obtain ⟨hra, nr, hrc, hea, hen, hec, hca, nc, hcc⟩ := h
  unfold Doc.cells at *
  dsimp only at *
  go_enter Tryz.func35, Tryz.ntmps35
  go_wp2_with (refine wpList_loadB rfl 27 (.tmp 1) rfl w.heap.size 27 _ _ (by exact rfl) (by exact HB.out) Tryz.underlying27 rfl (by exact size_doc) ?_)
  refine (HHd.out _).mono ?_
  rintro en w_1 ⟨rfl, hx_2⟩
  have HX_3 := Lib.hid (HX.out.trans hx_2)
  have HB_4 := Lib.hid (HB.out.ext hx_2)
  clear hx_2 HX HB
  by_cases h1 : d.headErr = 0
  case neg =>
    have hne : (d.headErr != 0) = true := by simpa using h1
    have HD := Lib.hid (D1.out h1)
    clear h1
    go_wp2_with fail
    go_ret
    exact ⟨ret_int HD.out.symm, HX_3.out⟩
  have H1 := Lib.hid h1
  rw [h1]
  clear h1
  have hc_5 := fun o => HB_4.out.cell o
  go_wp2_with fail
  clear hc_5
  refine (HRg.out _ HX_3.out).mono ?_
  rintro en w_6 ⟨rfl, hx_7⟩
  have HX_8 := Lib.hid (HX_3.out.trans hx_7)
  have HB_9 := Lib.hid (HB_4.out.ext hx_7)
  clear hx_7 HX_3 HB_4
  by_cases h2 : regsErr d.regs = 0
  case neg =>
    have hne : (regsErr d.regs != 0) = true := by simpa using h2
    have HD := Lib.hid (D2.out H1.out h2)
    clear h2
    go_wp2_with fail
    go_ret
    exact ⟨ret_int HD.out.symm, HX_8.out⟩
  have H2 := Lib.hid h2
  rw [h2]
  clear h2
  by_cases h4 : 400 < hen
  · have h4i : (400 : Int) < (hen : Int) := by omega
    have HD := Lib.hid (D3.out H1.out H2.out (by rw [HEl.out]; exact h4))
    clear h4
    have hc_10 := fun o => HB_9.out.cell o
    go_wp2_with fail
    clear hc_10
    go_ret
    exact ⟨ret_int HD.out.symm, HX_8.out⟩
  have h4i : ¬ (400 : Int) < (hen : Int) := by omega
  have H4 : Hid (¬ 400 < d.evs.length) := by show ¬ _; rw [HEl.out]; exact h4
  clear h4
  have hc_11 := fun o => HB_9.out.cell o
  go_wp2_with fail
  clear hc_11
  go_loopw [28] (fun i wr => R12EvRel w_6 hen d.regs d.last d.evs i wr) (fun i _ => hen - (intOf i).toNat)
  case atStart => exact ⟨0, Nat.zero_le _, rfl, Ext.refl _, by simp⟩
  case round =>
    obtain ⟨k, hk, rfl, hx, hP⟩ := hrel
    have HP := Lib.hid hP
    have HXr := Lib.hid hx
    have HXw := Lib.hid (HX_8.out.trans hx)
    have HBr := Lib.hid (HB_9.out.ext hx)
    clear hx hP
    by_cases hlt : k < hen
    · obtain ⟨b, off, x, A', n', c', rfl, hxx, hxat, e0, e1, e2, e3, e4, e5, e6⟩ := (HEv.out.ext HXw.out).at_ev hlt
      have hsx := HSm.out x (List.mem_of_getElem? hxx)
      have HSt := Lib.hid (evs_step (regs := d.regs) hxx HP.out)
      have HCk := Lib.hid (fun w' (hx : Ext wr w') => R11Check_any x A' n' c' hra nr hrc d.regs w' (HE.out.ext (HXw.out.trans hx)) (hxat.ext hx) hsx.1 hsx.2 (HRs.out.ext (HXw.out.trans hx)) hrn HRm.out)
      have HPr := Lib.hid (fun w' (hx : Ext wr w') h0 => prev_ev (HEv.out.ext (HXw.out.trans hx)) (k := k) hk h0)
      have HXx := Lib.hid hxx
      clear hxx hxat hsx
      unfold Ev.cells at HCk
      have HX0 := Lib.hid (Ext.refl wr)
      have HB_12 := Lib.hid (Blk.new wr 53 #[.int .i64 x.id, .int .i64 x.inn, .int .i64 x.out, .string x.region, .int .u8 x.kind, .string x.speaker, .slice A' n' c'])
      have ha_13 := (Ext.refl wr).alloc (.cells #[.int .i64 x.id, .int .i64 x.inn, .int .i64 x.out, .string x.region, .int .u8 x.kind, .string x.speaker, .slice A' n' c'] 53)
      have HX_14 := Lib.hid (HX0.out.trans ha_13)
      have HB_15 := Lib.hid (HBr.out.ext ha_13)
      clear ha_13 HX0 HBr
      have hc_16 := fun o => HB_15.out.cell o
      go_wp2_with (refine wpList_loadB rfl 53 (.tmp 6) rfl wr.heap.size 53 _ _ (by exact rfl) (by exact HB_12.out) Tryz.underlying53 rfl (by exact size_evt) ?_)
      clear hc_16
      clear e0 e1 e2 e3 e4 e5 e6
      refine (HCk.out _ HX_14.out).mono ?_
      rintro en w_17 ⟨rfl, hx_18⟩
      have HX_19 := Lib.hid (HX_14.out.trans hx_18)
      have HB_20 := Lib.hid (HB_15.out.ext hx_18)
      have HB_21 := Lib.hid (HB_12.out.ext hx_18)
      clear hx_18 HX_14 HB_15 HB_12
      by_cases he : x.err d.regs = 0
      case neg =>
        have hne : (x.err d.regs != 0) = true := by simpa using he
        have HN := Lib.hid he
        have HEv_ : Hid (evErr d.regs d.last (d.evs.take k) x = x.err d.regs) := ev_1 he
        have HL : Hid (evsLoop d.regs d.last [] d.evs = x.err d.regs) := (HSt.out.1 (by rw [HEv_.out]; exact HN.out)).trans HEv_.out
        have HD : Hid (d.err = x.err d.regs) := (D4.out H1.out H2.out H4.out (by rw [HL.out]; exact HN.out)).trans HL.out
        clear he
        go_wp2_with fail
        go_ret
        exact ⟨ret_int HD.out.symm, HXw.out.trans HX_19.out⟩
      have HE0 := Lib.hid he
      rw [he]
      clear he
      by_cases hl : d.last < x.id
      · have HEv_ : Hid (evErr d.regs d.last (d.evs.take k) x = 2) := ev_2 HE0.out hl
        have HL : Hid (evsLoop d.regs d.last [] d.evs = 2) := (HSt.out.1 (by rw [HEv_.out]; decide)).trans HEv_.out
        have HD : Hid (d.err = 2) := (D4.out H1.out H2.out H4.out (by rw [HL.out]; decide)).trans HL.out
        have hc_22 := fun o => HB_20.out.cell o
        have hc_23 := fun o => HB_21.out.cell o
        go_wp2_with fail
        clear hc_22 hc_23
        go_ret
        exact ⟨ret_int HD.out.symm, HXw.out.trans HX_19.out⟩
      have HL0 : Hid (¬ d.last < x.id) := by show ¬ _; omega
      by_cases hk0 : k = 0
      case pos =>
        subst hk0
        have HA2 : Hid (¬ ((d.evs.take 0).getLast?.map fun p => lessB p x) = some false) := by show ¬ _; simp
        have hc_24 := fun o => HB_20.out.cell o
        have hc_25 := fun o => HB_21.out.cell o
        go_wp2_with fail
        clear hc_24 hc_25
        refine wp_region_ew w_17 (Ext.refl _) (by kernel_rfl) (by kernel_rfl) ?_
        repeat (go_big_quiet_step ((fail)))
        refine wpQuiet_nil ?_
        rintro _ ⟨⟨w_26, hx_27⟩, rfl⟩
        try dsimp only
        have HX_28 := Lib.hid (HX_19.out.trans hx_27)
        have HB_29 := Lib.hid (HB_20.out.ext hx_27)
        have HB_30 := Lib.hid (HB_21.out.ext hx_27)
        clear hx_27 HX_19 HB_20 HB_21
        have hc_31 := fun o => HB_30.out.cell o
        go_wp2_with (refine wpList_loadB rfl 27 (.tmp 1) rfl w.heap.size 27 _ _ (by exact rfl) (by exact HB_29.out) Tryz.underlying27 rfl (by exact size_doc) ?_)
        clear hc_31
        refine (HFd.out _ (HXw.out.trans HX_28.out) _).mono ?_
        rintro en w_32 ⟨rfl, hx_33⟩
        have HX_34 := Lib.hid (HX_28.out.trans hx_33)
        have HB_35 := Lib.hid (HB_29.out.ext hx_33)
        have HB_36 := Lib.hid (HB_30.out.ext hx_33)
        clear hx_33 HX_28 HB_29 HB_30
        cases hfe : findE (d.evs.take 0) x.id with
        | some q =>
            have HEv_ : Hid (evErr d.regs d.last (d.evs.take 0) x = 7) := ev_4 HE0.out (by have := HL0.out; omega) HA2.out (by rw [hfe]; rfl)
            have HL : Hid (evsLoop d.regs d.last [] d.evs = 7) := (HSt.out.1 (by rw [HEv_.out]; decide)).trans HEv_.out
            have HD : Hid (d.err = 7) := (D4.out H1.out H2.out H4.out (by rw [HL.out]; decide)).trans HL.out
            have hfi : (findI d.evs x.id != (0 : Int)) = true := by
              have hq := findE_take hfe
              unfold findI
              rw [hq.1]
              have := hq.2
              simp only [bne_iff_ne]; omega
            clear hfe
            go_wp2_with fail
            go_ret
            exact ⟨ret_int HD.out.symm, HXw.out.trans HX_34.out⟩
        | none =>
            have hfi : findI d.evs x.id = (0 : Int) := by unfold findI; rw [findE_here hfe HXx.out rfl]; rfl
            have HOn := Lib.hid (HSt.out.2 (ev_5 HE0.out (by have := HL0.out; omega) HA2.out (by rw [hfe]; rfl)))
            rw [hfi]
            clear hfe hfi
            go_wp2_with fail
            exact ⟨⟨0 + 1, by omega, by go_num, HXr.out.trans HX_34.out, HOn.out⟩, by simp [intOf]; omega⟩
      obtain ⟨b', off', p, A2, n2, c2, hA, hpc, hpl⟩ := HPr.out _ HX_19.out (by omega)
      cases hA
      have hki : (0 : Int) < (k : Int) := by omega
      have hkp : 0 < k := by omega
      have hk1 : ((k : Int) - 1).toNat = k - 1 := by omega
      have hk2 : (k : Int) - 1 = ((k - 1 : Nat) : Int) := by omega
      have HPl := Lib.hid hpl
      have HPc := Lib.hid hpc
      clear hpl hpc
      have HLs := Lib.hid (fun w' => RLess_any p x A2 n2 c2 A' n' c' w')
      unfold Ev.cells at HLs
      cases hls : lessB p x
      · have HLq := Lib.hid (fun w => by have := HLs.out w; rwa [hls] at this : ∀ w, Calls Tryz.prog 64 #[.agg #[.int .i64 p.id, .int .i64 p.inn, .int .i64 p.out, .string p.region, .int .u8 p.kind, .string p.speaker, .slice A2 n2 c2], .agg #[.int .i64 x.id, .int .i64 x.inn, .int .i64 x.out, .string x.region, .int .u8 x.kind, .string x.speaker, .slice A' n' c']] w fun en w' => en = .returned (.bool false) ∧ Ext w w')
        have HEv_ : Hid (evErr d.regs d.last (d.evs.take k) x = 8) := ev_3 HE0.out (by have := HL0.out; omega) (by rw [HPl.out]; simp [hls])
        have HL : Hid (evsLoop d.regs d.last [] d.evs = 8) := (HSt.out.1 (by rw [HEv_.out]; decide)).trans HEv_.out
        have HD : Hid (d.err = 8) := (D4.out H1.out H2.out H4.out (by rw [HL.out]; decide)).trans HL.out
        clear hls
        have hc_37 := fun o => HB_20.out.cell o
        have hc_38 := fun o => HB_21.out.cell o
        go_wp2_with fail
        clear hc_37 hc_38
        have hr_39 := fun (x : EW w_17) (o : Nat) => (HB_20.out.ext x.ext).cell o
        have hr_40 := fun (x : EW w_17) (o : Nat) => (HB_21.out.ext x.ext).cell o
        have hr_41 := fun (y : EW w_17) => y.ext.cell (by simpa using HPc.out 0 _ rfl : w_17.cell? ⟨b, off + (k - 1) * 7, none⟩ = some (.int .i64 p.id))
        have hr_42 := fun (y : EW w_17) => y.ext.cell (by simpa using HPc.out 1 _ rfl : w_17.cell? ⟨b, off + (k - 1) * 7 + 1, none⟩ = some (.int .i64 p.inn))
        have hr_43 := fun (y : EW w_17) => y.ext.cell (by simpa using HPc.out 2 _ rfl : w_17.cell? ⟨b, off + (k - 1) * 7 + 1 + 1, none⟩ = some (.int .i64 p.out))
        have hr_44 := fun (y : EW w_17) => y.ext.cell (by simpa using HPc.out 3 _ rfl : w_17.cell? ⟨b, off + (k - 1) * 7 + 3, none⟩ = some (.string p.region))
        have hr_45 := fun (y : EW w_17) => y.ext.cell (by simpa using HPc.out 4 _ rfl : w_17.cell? ⟨b, off + (k - 1) * 7 + 4, none⟩ = some (.int .u8 p.kind))
        have hr_46 := fun (y : EW w_17) => y.ext.cell (by simpa using HPc.out 5 _ rfl : w_17.cell? ⟨b, off + (k - 1) * 7 + 5, none⟩ = some (.string p.speaker))
        have hr_47 := fun (y : EW w_17) => y.ext.cell (by simpa using HPc.out 6 _ rfl : w_17.cell? ⟨b, off + (k - 1) * 7 + 6, none⟩ = some (.slice A2 n2 c2))
        refine wp_region_ew w_17 (Ext.refl _) (by kernel_rfl) (by kernel_rfl) ?_
        repeat (go_big_quiet_step ((go_at_call 64; exact EW.calls _ (HLq.out _))))
        refine wpQuiet_nil ?_
        rintro _ ⟨⟨w_48, hx_49⟩, rfl⟩
        try dsimp only
        clear hr_39 hr_40 hr_41 hr_42 hr_43 hr_44 hr_45 hr_46 hr_47
        have HX_50 := Lib.hid (HX_19.out.trans hx_49)
        have HB_51 := Lib.hid (HB_20.out.ext hx_49)
        have HB_52 := Lib.hid (HB_21.out.ext hx_49)
        clear hx_49 HX_19 HB_20 HB_21
        go_wp2_with fail
        go_ret
        exact ⟨ret_int HD.out.symm, HXw.out.trans HX_50.out⟩
      · have HLq := Lib.hid (fun w => by have := HLs.out w; rwa [hls] at this : ∀ w, Calls Tryz.prog 64 #[.agg #[.int .i64 p.id, .int .i64 p.inn, .int .i64 p.out, .string p.region, .int .u8 p.kind, .string p.speaker, .slice A2 n2 c2], .agg #[.int .i64 x.id, .int .i64 x.inn, .int .i64 x.out, .string x.region, .int .u8 x.kind, .string x.speaker, .slice A' n' c']] w fun en w' => en = .returned (.bool true) ∧ Ext w w')
        have HA2 : Hid (¬ ((d.evs.take k).getLast?.map fun p => lessB p x) = some false) := by show ¬ _; rw [HPl.out]; simp [hls]
        clear hls
        have hc_53 := fun o => HB_20.out.cell o
        have hc_54 := fun o => HB_21.out.cell o
        go_wp2_with fail
        clear hc_53 hc_54
        have hr_55 := fun (x : EW w_17) (o : Nat) => (HB_20.out.ext x.ext).cell o
        have hr_56 := fun (x : EW w_17) (o : Nat) => (HB_21.out.ext x.ext).cell o
        have hr_57 := fun (y : EW w_17) => y.ext.cell (by simpa using HPc.out 0 _ rfl : w_17.cell? ⟨b, off + (k - 1) * 7, none⟩ = some (.int .i64 p.id))
        have hr_58 := fun (y : EW w_17) => y.ext.cell (by simpa using HPc.out 1 _ rfl : w_17.cell? ⟨b, off + (k - 1) * 7 + 1, none⟩ = some (.int .i64 p.inn))
        have hr_59 := fun (y : EW w_17) => y.ext.cell (by simpa using HPc.out 2 _ rfl : w_17.cell? ⟨b, off + (k - 1) * 7 + 1 + 1, none⟩ = some (.int .i64 p.out))
        have hr_60 := fun (y : EW w_17) => y.ext.cell (by simpa using HPc.out 3 _ rfl : w_17.cell? ⟨b, off + (k - 1) * 7 + 3, none⟩ = some (.string p.region))
        have hr_61 := fun (y : EW w_17) => y.ext.cell (by simpa using HPc.out 4 _ rfl : w_17.cell? ⟨b, off + (k - 1) * 7 + 4, none⟩ = some (.int .u8 p.kind))
        have hr_62 := fun (y : EW w_17) => y.ext.cell (by simpa using HPc.out 5 _ rfl : w_17.cell? ⟨b, off + (k - 1) * 7 + 5, none⟩ = some (.string p.speaker))
        have hr_63 := fun (y : EW w_17) => y.ext.cell (by simpa using HPc.out 6 _ rfl : w_17.cell? ⟨b, off + (k - 1) * 7 + 6, none⟩ = some (.slice A2 n2 c2))
        refine wp_region_ew w_17 (Ext.refl _) (by kernel_rfl) (by kernel_rfl) ?_
        repeat (go_big_quiet_step ((go_at_call 64; exact EW.calls _ (HLq.out _))))
        refine wpQuiet_nil ?_
        rintro _ ⟨⟨w_64, hx_65⟩, rfl⟩
        try dsimp only
        clear hr_55 hr_56 hr_57 hr_58 hr_59 hr_60 hr_61 hr_62 hr_63
        have HX_66 := Lib.hid (HX_19.out.trans hx_65)
        have HB_67 := Lib.hid (HB_20.out.ext hx_65)
        have HB_68 := Lib.hid (HB_21.out.ext hx_65)
        clear hx_65 HX_19 HB_20 HB_21
        have hc_69 := fun o => HB_68.out.cell o
        go_wp2_with (refine wpList_loadB rfl 27 (.tmp 1) rfl w.heap.size 27 _ _ (by exact rfl) (by exact HB_67.out) Tryz.underlying27 rfl (by exact size_doc) ?_)
        clear hc_69
        refine (HFd.out _ (HXw.out.trans HX_66.out) _).mono ?_
        rintro en w_70 ⟨rfl, hx_71⟩
        have HX_72 := Lib.hid (HX_66.out.trans hx_71)
        have HB_73 := Lib.hid (HB_67.out.ext hx_71)
        have HB_74 := Lib.hid (HB_68.out.ext hx_71)
        clear hx_71 HX_66 HB_67 HB_68
        cases hfe : findE (d.evs.take k) x.id with
        | some q =>
            have HEv_ : Hid (evErr d.regs d.last (d.evs.take k) x = 7) := ev_4 HE0.out (by have := HL0.out; omega) HA2.out (by rw [hfe]; rfl)
            have HL : Hid (evsLoop d.regs d.last [] d.evs = 7) := (HSt.out.1 (by rw [HEv_.out]; decide)).trans HEv_.out
            have HD : Hid (d.err = 7) := (D4.out H1.out H2.out H4.out (by rw [HL.out]; decide)).trans HL.out
            have hfi : (findI d.evs x.id != (k : Int)) = true := by
              have hq := findE_take hfe
              unfold findI
              rw [hq.1]
              have := hq.2
              simp only [bne_iff_ne]; omega
            clear hfe
            go_wp2_with fail
            go_ret
            exact ⟨ret_int HD.out.symm, HXw.out.trans HX_72.out⟩
        | none =>
            have hfi : findI d.evs x.id = (k : Int) := by unfold findI; rw [findE_here hfe HXx.out rfl]
            have HOn := Lib.hid (HSt.out.2 (ev_5 HE0.out (by have := HL0.out; omega) HA2.out (by rw [hfe]; rfl)))
            rw [hfi]
            clear hfe hfi
            go_wp2_with fail
            exact ⟨⟨k + 1, by omega, by go_num, HXr.out.trans HX_72.out, HOn.out⟩, by simp [intOf]; omega⟩
    have hkn : k = hen := by omega
    subst hkn
    have H5 : Hid (evsLoop d.regs d.last [] d.evs = 0) := HP.out.trans (by rw [List.drop_eq_nil_of_le (by rw [HEl.out]; omega)]; rfl)
    have HD0 : Hid (d.err = if 64 < nc then 9 else comsLoop d.last d.evs none d.coms) := by show _ = _; rw [D5.out H1.out H2.out H4.out H5.out, HCe.out, HCl.out]
    by_cases h6 : 64 < nc
    · have h6i : (64 : Int) < (nc : Int) := by omega
      have HD : Hid (d.err = 9) := HD0.out.trans (if_pos h6)
      clear h6
      have hc_75 := fun o => HBr.out.cell o
      go_wp2_with fail
      clear hc_75
      go_ret
      exact ⟨ret_int HD.out.symm, HXw.out⟩
    have h6i : ¬ (64 : Int) < (nc : Int) := by omega
    have HD : Hid (d.err = comsLoop d.last d.evs none d.coms) := HD0.out.trans (if_neg h6)
    clear h6 HD0
    have hc_76 := fun o => HBr.out.cell o
    go_wp2_with fail
    clear hc_76
    generalize hwr : wr = w2 at *
    clear hwr
    go_loopw [72] (fun i wr => ComRel w2 nc d.last d.evs d.coms i wr) (fun i _ => nc - (intOf i).toNat)
    case atStart => exact ⟨0, Nat.zero_le _, rfl, Ext.refl _, by simp [prevC]⟩
    case round =>
      obtain ⟨m, hm, rfl, hx, hQ⟩ := hrel
      have HQ := Lib.hid hQ
      have HX2 := Lib.hid (HXw.out.trans hx)
      have HB2 := Lib.hid (HBr.out.ext hx)
      have HX2r := Lib.hid hx
      clear hx hQ
      by_cases hlt2 : m < nc
      · obtain ⟨c, hc⟩ : ∃ c, d.coms[m]? = some c := ⟨_, List.getElem?_eq_getElem (by rw [HCl.out]; exact hlt2)⟩
        have HSt := Lib.hid (coms_step hc HQ.out)
        have HCc := Lib.hid (fun w' hx => HCo.out w' hx m c hc)
        clear hc
        have HX9 := Lib.hid (Ext.refl wr)
        go_wp2_with (refine wpList_loadB rfl 27 (.tmp 1) rfl w.heap.size 27 _ _ (by exact rfl) (by exact HB2.out) Tryz.underlying27 rfl (by exact size_doc) ?_)
        refine (HCc.out _ HX2.out).mono ?_
        rintro en w_77 ⟨rfl, hx_78⟩
        have HLast := Lib.hid hx_78
        have HX_79 := Lib.hid (HX2.out.trans hx_78)
        have HB_80 := Lib.hid (HB2.out.ext hx_78)
        clear hx_78 HX2 HB2
        by_cases he : c.err d.last d.evs (prevC d.coms m) = 0
        case neg =>
          have hne : (c.err d.last d.evs (prevC d.coms m) != 0) = true := by simpa using he
          have HD9 : Hid (d.err = c.err d.last d.evs (prevC d.coms m)) := HD.out.trans (HSt.out.1 he)
          clear he
          go_wp2_with fail
          go_ret
          exact ⟨ret_int HD9.out.symm, HX_79.out⟩
        have HOn := Lib.hid (HSt.out.2 he)
        rw [he]
        clear he
        go_wp2_with fail
        exact ⟨⟨m + 1, by omega, by go_num, HX2r.out.trans HLast.out, HOn.out⟩, by simp [intOf]; omega⟩
      have hmn : m = nc := by omega
      subst hmn
      have HD9 : Hid (d.err = 0) := HD.out.trans (HQ.out.trans (by rw [List.drop_eq_nil_of_le (by rw [HCl.out]; omega)]; rfl))
      go_wp2_with fail
      go_ret
      exact ⟨ret_int HD9.out.symm, HX2.out⟩
end Go.Proofs.YtajbhfmdmajpmaaGreatDoor

/-! CloneR -/
namespace Go.Proofs.YtajbhfmdmajpmaaGreatDoor
set_option linter.unusedVariables false
set_option linter.unusedSimpArgs false
open Go.RowKit
def RCloneRel (w : World) (rows : List Row) (n : Nat) (v i : Value) (wr : World) : Prop :=
  ∃ (k : Nat) (hs : List Hd), k ≤ n ∧ i = .int .i64 k ∧ hs.length = k ∧ wr.ownsRow w.heap.size 107 1 v k (hs.flatMap fun h => [Hd.val h]) ∧ Ext w wr ∧ Goods wr hs (rows.take k) ∧
    (∀ g, v.ownBlock = some g → ∀ h ∈ hs, Apart g h) ∧ (∀ h ∈ hs, Fresh wr 104 w.heap.size h.1)
theorem Good.grown {w w1 : World} {h : Hd} {r : Row} {row : Option Nat} (g : Good w h r) (hg : w.grownBy w1 row) (hp : ∀ q, row = some q → Apart q h) : Good w1 h r :=
  ⟨g.1, g.2.1, Sl.keep g.2.2 fun hn b off hA o x hx => by
    have hb : b < w.heap.size := World.block_lt_of_cell? w _ hx.1
    have key : ∀ q v, w.cell? ⟨b, q, none⟩ = some v → w1.cell? ⟨b, q, none⟩ = some v := fun q v hv =>
      (World.cell?_of_block (w := w) (a := ⟨b, q, none⟩) (hg.block b hb (fun e => hp b e.symm hn _ hA rfl))).trans hv
    exact ⟨key _ _ hx.1, key _ _ hx.2.1, key _ _ hx.2.2.1, key _ _ hx.2.2.2.1, key _ _ hx.2.2.2.2⟩⟩
end Go.Proofs.YtajbhfmdmajpmaaGreatDoor

/-! ECl -/
namespace Go.Proofs.YtajbhfmdmajpmaaGreatDoor
set_option linter.unusedVariables false
set_option linter.unusedSimpArgs false
open Go.RowKit
/-- a store into a block of another type leaves the rows as they are -/
theorem RowsFresh.put {w : World} {L : Nat} {A : Option Addr} {n : Nat} {l : List Row} (h : RowsFresh w L A n l) {g : Nat} {t : TypeId} {cs : Array Value} (hB : Blk w g t cs) (cs' : Array Value) (h1 : 107 ≠ t) (h2 : 104 ≠ t) : RowsFresh (putB w g t cs') L A n l := by
  obtain ⟨hs, a1, a2, a3, a4, a5⟩ := h
  refine ⟨hs, Sl.keep a1 fun _ b off hA o x hx j u hu => ?_, fun i hd r a b => ?_, a3, a4.put hB cs' h1, fun x hx => (a5 x hx).put hB cs' h2⟩
  · have hb : b ≠ g := Typed.ne (a4 _ hA).2 hB.typed h1
    rw [putB_cell_other (p := ⟨b, o + j, none⟩) hb]; exact hx j u hu
  · have gd := a2 i hd r a b
    refine ⟨gd.1, gd.2.1, Sl.keep gd.2.2 fun _ b' off hA o x hx => ?_⟩
    have hb : b' ≠ g := Typed.ne (a5 hd (List.mem_of_getElem? a) _ hA).2 hB.typed h2
    have key : ∀ q v, w.cell? ⟨b', q, none⟩ = some v → (putB w g t cs').cell? ⟨b', q, none⟩ = some v := fun q v hv => by rw [putB_cell_other (p := ⟨b', q, none⟩) hb]; exact hv
    exact ⟨key _ _ hx.1, key _ _ hx.2.1, key _ _ hx.2.2.1, key _ _ hx.2.2.2.1, key _ _ hx.2.2.2.2⟩
theorem own_put {w : World} {L : Nat} {e : TypeId} {size : Nat} {v : Value} {n : Nat} {xs : List Value} (h : w.ownsRow L e size v n xs) {g : Nat} {t : TypeId} {cs : Array Value} (hB : Blk w g t cs) (cs' : Array Value) (hne : e ≠ t) : (putB w g t cs').ownsRow L e size v n xs := by
  have ht := own_typed h
  refine ⟨h.1, ?_⟩
  rcases h.2 with hn | ⟨g', cap, cur, rfl, hb, hg, rest⟩
  · exact .inl hn
  · refine .inr ⟨g', cap, cur, rfl, hb, ?_, rest⟩
    have : g ≠ g' := fun e => Typed.ne (ht g' rfl) hB.typed hne e.symm
    unfold putB
    simp only
    rw [Array.getElem?_setIfInBounds_ne this]
    exact hg
theorem RowsOwn.put {w : World} {L : Nat} {A : Option Addr} {n c : Nat} {l : List Row} (h : RowsOwn w L A n c l) {g : Nat} {t : TypeId} {cs : Array Value} (hB : Blk w g t cs) (cs' : Array Value) (h1 : 107 ≠ t) (h2 : 104 ≠ t) : RowsOwn (putB w g t cs') L A n c l := by
  obtain ⟨hs, a1, a2, a3, a4, a5⟩ := h
  refine ⟨hs, own_put a1 hB cs' h1, a2, fun i hd r a b => ?_, a4, fun x hx => (a5 x hx).put hB cs' h2⟩
  have gd := a3 i hd r a b
  refine ⟨gd.1, gd.2.1, Sl.keep gd.2.2 fun _ b' off hA o x hx => ?_⟩
  have hb : b' ≠ g := Typed.ne (a5 hd (List.mem_of_getElem? a) _ hA).2 hB.typed h2
  have key : ∀ q v, w.cell? ⟨b', q, none⟩ = some v → (putB w g t cs').cell? ⟨b', q, none⟩ = some v := fun q v hv => by rw [putB_cell_other (p := ⟨b', q, none⟩) hb]; exact hv
  exact ⟨key _ _ hx.1, key _ _ hx.2.1, key _ _ hx.2.2.1, key _ _ hx.2.2.2.1, key _ _ hx.2.2.2.2⟩
def evZero : Array Value := #[.int .i64 0, .int .i64 0, .int .i64 0, .string ⟨#[]⟩, .int .u8 0, .string ⟨#[]⟩, .slice none 0 0]
/-- what a copy of an event comes to -/
def EClPost (e : Ev) (n : Nat) (w : World) (en : Ending) (w' : World) : Prop :=
  ∃ A c, en = .returned (.agg (e.cells A n c)) ∧ n ≤ c ∧ RowsFresh w' w.heap.size A n e.rows ∧ Ext w w'
def EOwnPost (e : Ev) (n : Nat) (w : World) (en : Ending) (w' : World) : Prop :=
  ∃ A c, en = .returned (.agg (e.cells A n c)) ∧ n ≤ c ∧ RowsOwn w' w.heap.size A n c e.rows ∧ Ext w w'
end Go.Proofs.YtajbhfmdmajpmaaGreatDoor

/-! Evs -/
namespace Go.Proofs.YtajbhfmdmajpmaaGreatDoor
set_option linter.unusedVariables false
set_option linter.unusedSimpArgs false
open Go.RowKit
/-- the rows of elements of type T stay as they are -/
def KB (T : TypeId) (w w' : World) : Prop := ∀ (b : Nat) (cur : Array Value), w.heap[b]? = some (Obj.cells cur T (0, 0)) → w'.heap[b]? = some (Obj.cells cur T (0, 0))
section
variable {T T' : TypeId} {w w1 w2 : World} {L n : Nat} {A : Option Addr}
theorem KB.refl (w : World) : KB T w w := fun _ _ h => h
theorem KB.trans (h : KB T w w1) (k : KB T w1 w2) : KB T w w2 := fun b cur hb => k b cur (h b cur hb)
theorem KB.ext (k : Ext w w1) : KB T w w1 := fun b _ hb => (k.block b (Array.getElem?_eq_some_iff.1 hb).1).trans hb
theorem KB.put {g : Nat} {cs cs' : Array Value} (hB : Blk w g T' cs) (hne : T ≠ T') : KB T w (putB w g T' cs') := fun b cur hb => by
  have hn : g ≠ b := (Typed.ne ⟨cur, hb⟩ hB.typed hne).symm
  unfold putB
  simp only
  rw [Array.getElem?_setIfInBounds_ne hn]
  exact hb
theorem KB.set {p : Addr} {u : Value} (hT : Typed w T' p.block) (hne : T ≠ T') : KB T w (w.setCell p u) := fun b cur hb => by
  have hn : b ≠ p.block := Typed.ne ⟨cur, hb⟩ hT hne
  rw [RowKit.Below.heap_setCell _ _ _ _ hn]
  exact hb
theorem KB.sets {g : Nat} (hne : T ≠ T') : ∀ (vs : List Value) (o : Nat) (w : World), Typed w T' g → KB T w (w.setCells g o vs)
  | [], _, w, _ => KB.refl w
  | v :: vs, o, w, h => (KB.set (p := ⟨g, o, none⟩) h hne).trans (KB.sets hne vs (o + 1) _ (h.setCell _ _))
theorem KB.grown {row : Option Nat} (hg : w.grownBy w1 row) (hr : ∀ q, row = some q → Typed w T' q) (hne : T ≠ T') : KB T w w1 := fun b cur hb => by
  refine (hg.block b (Array.getElem?_eq_some_iff.1 hb).1 (fun e => ?_)).trans hb
  exact Typed.ne ⟨cur, hb⟩ (hr b e.symm) hne rfl
theorem Typed.kb (h : Typed w T n) (k : KB T w w1) : Typed w1 T n := h.elim fun cur hb => ⟨cur, k _ _ hb⟩
theorem Typed.sets {g b : Nat} : ∀ (vs : List Value) (o : Nat) (w : World), Typed w T b → Typed (w.setCells g o vs) T b
  | [], _, _, h => h
  | v :: vs, o, w, h => Typed.sets vs (o + 1) _ (h.setCell _ _)
theorem Typed.cell_kb (h : Typed w T n) (k : KB T w w1) (o : Nat) : w1.cell? ⟨n, o, none⟩ = w.cell? ⟨n, o, none⟩ := by
  obtain ⟨cur, hb⟩ := h
  simp [World.cell?, hb, k _ _ hb]
theorem Fresh.kb (h : Fresh w T L A) (k : KB T w w1) : Fresh w1 T L A := fun ad e => ⟨(h ad e).1, (h ad e).2.kb k⟩
theorem own_kb {size : Nat} {v : Value} {xs : List Value} (h : w.ownsRow L T size v n xs) (k : KB T w w1) : w1.ownsRow L T size v n xs := by
  refine ⟨h.1, ?_⟩
  rcases h.2 with hn | ⟨g, cap, cur, rfl, hb, hg, rest⟩
  · exact .inl hn
  · exact .inr ⟨g, cap, cur, rfl, hb, k _ _ hg, rest⟩
end
theorem RowsFresh.kb {w w1 : World} {L : Nat} {A : Option Addr} {n : Nat} {l : List Row} (h : RowsFresh w L A n l) (k1 : KB 107 w w1) (k2 : KB 104 w w1) : RowsFresh w1 L A n l := by
  obtain ⟨hs, a1, a2, a3, a4, a5⟩ := h
  refine ⟨hs, Sl.keep a1 fun _ b off hA o x hx j u hu => ?_, fun i hd r a b => ?_, a3, a4.kb k1, fun x hx => (a5 x hx).kb k2⟩
  · rw [(a4 _ hA).2.cell_kb k1]; exact hx j u hu
  · have gd := a2 i hd r a b
    refine ⟨gd.1, gd.2.1, Sl.keep gd.2.2 fun _ b' off hA o x hx => ?_⟩
    have key : ∀ q v, w.cell? ⟨b', q, none⟩ = some v → w1.cell? ⟨b', q, none⟩ = some v := fun q v hv => by rw [((a5 hd (List.mem_of_getElem? a)) _ hA).2.cell_kb k2]; exact hv
    exact ⟨key _ _ hx.1, key _ _ hx.2.1, key _ _ hx.2.2.1, key _ _ hx.2.2.2.1, key _ _ hx.2.2.2.2⟩
theorem flat_set {α : Type} {f : α → List Value} {size : Nat} (hf : ∀ x, (f x).length = size) : ∀ (l : List α) (k j : Nat) (x y : α) (u : Value), l[k]? = some x → f y = (f x).set j u → j < size → (l.flatMap f).set (k * size + j) u = (l.set k y).flatMap f
  | [], k, j, x, y, u, h, _, _ => by simp at h
  | z :: l, 0, j, x, y, u, h, hy, hj => by
    simp at h; subst h
    rw [List.flatMap_cons, List.set_cons_zero, List.flatMap_cons, hy, Nat.zero_mul, Nat.zero_add, List.set_append, if_pos (by rw [hf]; exact hj)]
  | z :: l, k + 1, j, x, y, u, h, hy, hj => by
    have hz := hf z
    rw [List.flatMap_cons, List.set_cons_succ, List.flatMap_cons, List.set_append, if_neg (by rw [hz, Nat.add_mul]; omega), ← flat_set hf l k j x y u (by simpa using h) hy hj]
    congr 2
    rw [hz, Nat.add_mul]; omega
def setMany : List Value → Nat → List Value → List Value
  | xs, _, [] => xs
  | xs, j, v :: vs => setMany (xs.set j v) (j + 1) vs
theorem setMany_split : ∀ (vs pre old post : List Value), old.length = vs.length → setMany (pre ++ old ++ post) pre.length vs = pre ++ vs ++ post
  | [], pre, old, post, h => by
    obtain rfl : old = [] := List.eq_nil_of_length_eq_zero h
    rfl
  | v :: vs, pre, [], post, h => by simp at h
  | v :: vs, pre, o :: old, post, h => by
    have e : (pre ++ o :: old ++ post).set pre.length v = (pre ++ [v]) ++ old ++ post := by simp [List.set_append]
    have := setMany_split vs (pre ++ [v]) old post (by simpa using h)
    rw [List.length_append, List.length_singleton] at this
    rw [setMany, e, this]
    simp
theorem flat_setMany {α : Type} {f : α → List Value} {size : Nat} (hf : ∀ x, (f x).length = size) (l : List α) (k : Nat) (y : α) (hk : k < l.length) : setMany (l.flatMap f) (k * size) (f y) = (l.set k y).flatMap f := by
  have e1 : l = l.take k ++ l[k] :: l.drop (k + 1) := by rw [← List.drop_eq_getElem_cons hk, List.take_append_drop]
  have e2 : l.set k y = l.take k ++ y :: l.drop (k + 1) := by rw [List.set_eq_take_append_cons_drop, if_pos hk]
  have hl : ((l.take k).flatMap f).length = k * size := by rw [flatMap_len f size hf, List.length_take, Nat.min_eq_left (by omega)]
  rw [e2, List.flatMap_append, List.flatMap_cons]
  conv => lhs; rw [e1]
  rw [List.flatMap_append, List.flatMap_cons, ← hl, ← List.append_assoc, setMany_split _ _ _ _ (by rw [hf, hf]), List.append_assoc]
theorem own_sets {L size n cap g : Nat} {T : TypeId} : ∀ (vs : List Value) (j : Nat) (w : World) (xs : List Value), w.ownsRow L T size (.slice (some ⟨g, 0, none⟩) n cap) n xs →
    (w.setCells g j vs).ownsRow L T size (.slice (some ⟨g, 0, none⟩) n cap) n (setMany xs j vs)
  | [], _, _, _, h => h
  | v :: vs, j, w, xs, h => own_sets vs (j + 1) _ _ (h.stored j v).1
theorem ext_sets {w0 : World} {g : Nat} (hg : w0.heap.size ≤ g) : ∀ (vs : List Value) (j : Nat) (w : World), Ext w0 w → Ext w0 (w.setCells g j vs)
  | [], _, _, h => h
  | v :: vs, j, w, h => ext_sets hg vs (j + 1) _ (h.setCell hg v)
structure EH where
  id : Int
  inn : Int
  out : Int
  region : ByteArray
  kind : Int
  speaker : ByteArray
  A : Option Addr
  n : Nat
  c : Nat
def EH.vals (h : EH) : List Value := [.int .i64 h.id, .int .i64 h.inn, .int .i64 h.out, .string h.region, .int .u8 h.kind, .string h.speaker, .slice h.A h.n h.c]
def EH.of (e : Ev) (A : Option Addr) (n c : Nat) : EH := ⟨e.id, e.inn, e.out, e.region, e.kind, e.speaker, A, n, c⟩
theorem EH.of_vals (e : Ev) (A : Option Addr) (n c : Nat) : (EH.of e A n c).vals = (e.cells A n c).toList := rfl
theorem EH.len (h : EH) : h.vals.length = 7 := rfl
def Reg.vals (r : Reg) : List Value := [.string r.name, .int .i64 r.top, .int .i64 r.height, .int .i64 r.left, .int .i64 r.width, .int .u8 r.align, .bool r.bottom]
/-- the head is an event's, its rows lie from L on -/
def EGood (w : World) (L : Nat) (h : EH) (e : Ev) : Prop := h = EH.of e h.A h.n h.c ∧ h.n ≤ h.c ∧ h.n * 24 ≤ 140737488355328 ∧ RowsFresh w L h.A h.n e.rows
theorem EGood.kb {w w1 : World} {L : Nat} {h : EH} {e : Ev} (g : EGood w L h e) (k1 : KB 107 w w1) (k2 : KB 104 w w1) : EGood w1 L h e := ⟨g.1, g.2.1, g.2.2.1, g.2.2.2.kb k1 k2⟩
theorem EGood.ext {w w1 : World} {L : Nat} {h : EH} {e : Ev} (g : EGood w L h e) (k : Ext w w1) : EGood w1 L h e := g.kb (KB.ext k) (KB.ext k)
theorem EGood.le {w : World} {L L' : Nat} {h : EH} {e : Ev} (g : EGood w L h e) (hl : L' ≤ L) : EGood w L' h e := ⟨g.1, g.2.1, g.2.2.1, g.2.2.2.le hl⟩
theorem EGood.at_ {w : World} {L : Nat} {h : EH} {e : Ev} (g : EGood w L h e) : EvAt w e h.A h.n h.c := ⟨g.2.2.2.rows, g.2.1, g.2.2.1⟩
/-- events whose heads lie in a row of their own, from L on -/
def EvsOwn (w : World) (L : Nat) (v : Value) (n : Nat) (l : List Ev) : Prop :=
  ∃ hs : List EH, w.ownsRow L 53 7 v n (hs.flatMap EH.vals) ∧ hs.length = n ∧ l.length = n ∧ ∀ (i : Nat) (h : EH) (e : Ev), hs[i]? = some h → l[i]? = some e → EGood w L h e
section
variable {w w1 : World} {L L' n c : Nat} {A : Option Addr} {v : Value} {l : List Ev}
theorem EvsOwn.ext (h : EvsOwn w L v n l) (k : Ext w w1) : EvsOwn w1 L v n l := by
  obtain ⟨hs, h1, h2, h3, h4⟩ := h
  exact ⟨hs, own_ext h1 k, h2, h3, fun i x e a b => (h4 i x e a b).ext k⟩
theorem EvsOwn.kb (h : EvsOwn w L v n l) (k0 : KB 53 w w1) (k1 : KB 107 w w1) (k2 : KB 104 w w1) : EvsOwn w1 L v n l := by
  obtain ⟨hs, h1, h2, h3, h4⟩ := h
  exact ⟨hs, own_kb h1 k0, h2, h3, fun i x e a b => (h4 i x e a b).kb k1 k2⟩
theorem EvsOwn.le (h : EvsOwn w L v n l) (hl : L' ≤ L) : EvsOwn w L' v n l := by
  obtain ⟨hs, h1, h2, h3, h4⟩ := h
  exact ⟨hs, own_le h1 hl, h2, h3, fun i x e a b => (h4 i x e a b).le hl⟩
theorem EvsOwn.len (h : EvsOwn w L v n l) : l.length = n := h.elim fun _ h => h.2.2.1
theorem EvsOwn.nil (w : World) (L : Nat) : EvsOwn w L (.slice none 0 0) 0 [] := ⟨[], ⟨rfl, .inl ⟨rfl, rfl⟩⟩, rfl, rfl, fun i x e a _ => by simp at a⟩
theorem EvsOwn.at_ (h : EvsOwn w L v n l) : ∃ A c, v = .slice A n c ∧ n ≤ c ∧ c ≤ maxLen ∧ EvsAt w A n l := by
  obtain ⟨hs, h1, h2, h3, h4⟩ := h
  obtain ⟨A, c, hv, hc, hm, hsl, _⟩ := own_sl (f := EH.vals) (size := 7) EH.len h2 h1
  refine ⟨A, c, hv, hc, hm, h3, fun hn => ?_⟩
  obtain ⟨b, off, hA, hcs⟩ := hsl.2 hn
  refine ⟨b, off, hA, fun i e he => ?_⟩
  have hi : i < hs.length := by rw [h2, ← h3]; exact (List.getElem?_eq_some_iff.1 he).1
  have hx : hs[i]? = some hs[i] := List.getElem?_eq_getElem hi
  have g := h4 i _ e hx he
  refine ⟨hs[i].A, hs[i].n, hs[i].c, fun j u hu => ?_, g.at_⟩
  refine hcs i _ hx j u ?_
  rw [g.1, EH.of_vals]
  exact hu
theorem EvsOwn.evs (h : EvsOwn w L (.slice A n c) n l) : EvsAt w A n l := by
  obtain ⟨A', c', hv, _, _, h1⟩ := h.at_
  cases hv
  exact h1
/-- the head at a place is set anew -/
theorem EvsOwn.set {g k : Nat} {e : Ev} {A' : Option Addr} {n' c' : Nat} (h : EvsOwn w L (.slice (some ⟨g, 0, none⟩) n c) n l) (hk : k < n) (hL : L ≤ g) (hg : EGood w L (EH.of e A' n' c') e) :
    EvsOwn (w.setCells g (k * 7) (e.cells A' n' c').toList) L (.slice (some ⟨g, 0, none⟩) n c) n (l.set k e) := by
  obtain ⟨hs, h1, h2, h3, h4⟩ := h
  have hty : Typed w 53 g := own_typed h1 g rfl
  refine ⟨hs.set k (EH.of e A' n' c'), ?_, by simpa using h2, by simpa using h3, fun i x y hx hy => ?_⟩
  · rw [← flat_setMany EH.len hs k (EH.of e A' n' c') (by omega)]
    exact own_sets _ _ _ _ h1
  · have k1 : KB 107 w (w.setCells g (k * 7) (e.cells A' n' c').toList) := KB.sets (T' := 53) (by decide) _ _ _ hty
    have k2 : KB 104 w (w.setCells g (k * 7) (e.cells A' n' c').toList) := KB.sets (T' := 53) (by decide) _ _ _ hty
    by_cases hik : k = i
    · subst hik
      rw [List.getElem?_set_self (by omega)] at hx hy
      cases hx
      cases hy
      exact hg.kb k1 k2
    · rw [List.getElem?_set_ne hik] at hx hy
      exact (h4 i x y hx hy).kb k1 k2
/-- an event is appended -/
theorem EvsOwn.snoc {k : Nat} {e : Ev} {v' : Value} {A' : Option Addr} {n' c' : Nat} (h : EvsOwn w L v k l) (hg : EGood w L (EH.of e A' n' c') e) (hgr : w.grownBy w1 v.ownBlock)
    (hO : ∀ xs, w.ownsRow L 53 7 v k xs → w1.ownsRow L 53 7 v' (k + 1) (xs ++ (e.cells A' n' c').toList)) : EvsOwn w1 L v' (k + 1) (l ++ [e]) := by
  obtain ⟨hs, h1, h2, h3, h4⟩ := h
  have hty : ∀ q, v.ownBlock = some q → Typed w 53 q := own_typed h1
  have k1 : KB 107 w w1 := KB.grown hgr hty (by decide)
  have k2 : KB 104 w w1 := KB.grown hgr hty (by decide)
  refine ⟨hs ++ [EH.of e A' n' c'], ?_, by simp [h2], by simp [h3], fun i x y hx hy => ?_⟩
  · rw [List.flatMap_append]
    have := hO _ h1
    simpa [EH.of_vals] using this
  · by_cases hik : i < k
    · rw [List.getElem?_append_left (by omega)] at hx hy
      exact (h4 i x y hx hy).kb k1 k2
    · have hik' : i = k := by
        have := (List.getElem?_eq_some_iff.1 hx).1
        simp [h2] at this
        omega
      subst hik'
      rw [List.getElem?_append_right (by omega)] at hx hy
      simp only [h2, h3, Nat.sub_self, List.getElem?_cons_zero, Option.some.injEq] at hx hy
      subst hx hy
      exact hg.kb k1 k2
end
structure DocOwn (w : World) (L : Nat) (d : Doc) (h : DocH) : Prop where
  regs : w.ownsRow L 125 7 (.slice h.ra h.rn h.rc) h.rn (d.regs.flatMap Reg.vals)
  rlen : d.regs.length = h.rn
  evs : EvsOwn w L (.slice h.ea h.en h.ec) h.en d.evs
  coms : w.ownsRow L 139 8 (.slice h.ca h.cn h.cc) h.cn (d.coms.flatMap Com.vals)
  clen : d.coms.length = h.cn
theorem DocOwn.ext {w w1 : World} {L : Nat} {d : Doc} {h : DocH} (o : DocOwn w L d h) (k : Ext w w1) : DocOwn w1 L d h := ⟨own_ext o.regs k, o.rlen, o.evs.ext k, own_ext o.coms k, o.clen⟩
theorem DocOwn.kb {w w1 : World} {L : Nat} {d : Doc} {h : DocH} (o : DocOwn w L d h) (k1 : KB 125 w w1) (k2 : KB 53 w w1) (k3 : KB 107 w w1) (k4 : KB 104 w w1) (k5 : KB 139 w w1) : DocOwn w1 L d h :=
  ⟨own_kb o.regs k1, o.rlen, o.evs.kb k2 k3 k4, own_kb o.coms k5, o.clen⟩
theorem DocOwn.put {w : World} {L : Nat} {d : Doc} {h : DocH} (o : DocOwn w L d h) {g : Nat} {cs : Array Value} (hB : Blk w g 27 cs) (cs' : Array Value) : DocOwn (putB w g 27 cs') L d h :=
  o.kb (KB.put hB (by decide)) (KB.put hB (by decide)) (KB.put hB (by decide)) (KB.put hB (by decide)) (KB.put hB (by decide))
theorem DocOwn.le {w : World} {L L' : Nat} {d : Doc} {h : DocH} (o : DocOwn w L d h) (hl : L' ≤ L) : DocOwn w L' d h := ⟨own_le o.regs hl, o.rlen, o.evs.le hl, own_le o.coms hl, o.clen⟩
theorem regC_cells {w : World} {b o : Nat} {r : Reg} (h : Cells Reg.vals w b o r) : RegC w b o r := ⟨h 0 _ rfl, h 1 _ rfl, h 2 _ rfl, h 3 _ rfl, h 4 _ rfl, h 5 _ rfl, h 6 _ rfl⟩
theorem cells_regC {w : World} {b o : Nat} {r : Reg} (h : RegC w b o r) : Cells Reg.vals w b o r := by
  obtain ⟨h0, h1, h2, h3, h4, h5, h6⟩ := h
  intro j u hu
  match j, hu with
  | 0, hu => simp [Reg.vals] at hu; subst hu; exact h0
  | 1, hu => simp [Reg.vals] at hu; subst hu; exact h1
  | 2, hu => simp [Reg.vals] at hu; subst hu; exact h2
  | 3, hu => simp [Reg.vals] at hu; subst hu; exact h3
  | 4, hu => simp [Reg.vals] at hu; subst hu; exact h4
  | 5, hu => simp [Reg.vals] at hu; subst hu; exact h5
  | 6, hu => simp [Reg.vals] at hu; subst hu; exact h6
  | j + 7, hu => simp [Reg.vals] at hu
theorem own_slice {α : Type} {f : α → List Value} {size : Nat} (hf : ∀ x, (f x).length = size) {w : World} {base : Nat} {e : TypeId} {A : Option Addr} {c n : Nat} {l : List α} (hl : l.length = n)
    (h : w.ownsRow base e size (.slice A n c) n (l.flatMap f)) : n ≤ c ∧ c ≤ maxLen ∧ Sl w size (Cells f) A n l := by
  obtain ⟨A', c', hv, h1, h2, h3, _⟩ := own_sl hf hl h
  cases hv
  exact ⟨h1, h2, h3⟩
theorem DocOwn.at_ {w : World} {L : Nat} {d : Doc} {h : DocH} (o : DocOwn w L d h) : DocAt w d h :=
  ⟨Sl.change (own_slice (f := Reg.vals) (fun _ => rfl) o.rlen o.regs).2.2 fun _ _ _ => regC_cells, o.evs.evs, (own_slice (f := Com.vals) (fun _ => rfl) o.clen o.coms).2.2⟩
end Go.Proofs.YtajbhfmdmajpmaaGreatDoor

/-! Allocs -/
namespace Go.Proofs.YtajbhfmdmajpmaaGreatDoor
set_option linter.unusedVariables false
set_option linter.unusedSimpArgs false
open Go.RowKit
def valA (chain al : List Nat) (pv us : List Value) (gs : Nat → Option Nat) (j : Nat) : Value :=
  match chain.idxOf? j with
  | some i => us.getD i undef
  | none => if al.contains j then .pointer ((gs j).map fun g => ⟨g, 0, none⟩) else pv.getD j undef
def upd (gs : Nat → Option Nat) (j g : Nat) : Nat → Option Nat := fun k => if k = j then some g else gs k
theorem upd_self (gs : Nat → Option Nat) (j g : Nat) : upd gs j g j = some g := by simp [upd]
theorem upd_other (gs : Nat → Option Nat) {j k : Nat} (h : k ≠ j) (g : Nat) : upd gs j g k = gs k := by simp [upd, h]
def AlInv (ops : Array Oper) (chain al : List Nat) (pv : List Value) (a0 : Act) (J : List Value → (Nat → Option Nat) → World → Prop) (l : Array Bool) (a : Act) (w : World) : Prop :=
  l.size = ops.size ∧ a.defers = a0.defers ∧ a.tmps.size = a0.tmps.size ∧ (∀ s, (∀ j, dstO ops j = some s → l.getD j false = false) → a.tmps[s]? = a0.tmps[s]?) ∧
  (∀ j o, l.getD j false = true → ops[j]? = some o → ∀ d ∈ o.after, Region.binds .any d = true → l.getD d.on false = true) ∧
  ∃ (us : List Value) (gs : Nat → Option Nat), us.length ≤ chain.length ∧ (∀ i c, chain[i]? = some c → (l.getD c false = true ↔ i < us.length)) ∧ (∀ j, al.contains j = true → (l.getD j false = true ↔ (gs j).isSome = true)) ∧
    (∀ j s, l.getD j false = true → dstO ops j = some s → a.tmps[s]? = some (valA chain al pv us gs j)) ∧ J us gs w
/-- what an operation finds in the frame, by the region's tables -/
structure SeesA (slots : List (Option Nat)) (deps : List (List Nat)) (chain al : List Nat) (pv us : List Value) (gs : Nat → Option Nat) (a0 a : Act) (i : Nat) : Prop where
  old : ∀ (s : Nat) (v : Value), slots.contains (some s) = false → a0.eval (.tmp s) = v → a.eval (.tmp s) = v
  pure : ∀ (j s : Nat) (v : Value), (deps.getD i []).contains j = true → slots[j]? = some (some s) → chain.contains j = false → al.contains j = false → pv[j]? = some v → a.eval (.tmp s) = v
  link : ∀ (p j s : Nat) (v : Value), chain[p]? = some j → (deps.getD i []).contains j = true → slots[j]? = some (some s) → us[p]? = some v → a.eval (.tmp s) = v
  ptr : ∀ (j s : Nat), (deps.getD i []).contains j = true → slots[j]? = some (some s) → chain.contains j = false → al.contains j = true → ∃ g, gs j = some g ∧ a.eval (.tmp s) = .pointer (some ⟨g, 0, none⟩)
  made : ∀ (j : Nat), (deps.getD i []).contains j = true → al.contains j = true → (gs j).isSome = true
  did : ∀ (p j : Nat), chain[p]? = some j → (deps.getD i []).contains j = true → p < us.length
  olds : ∀ (p j s : Nat) (v : Value), chain[p]? = some j → slots[j]? = some (some s) → us.length ≤ p → a0.eval (.tmp s) = v → a.eval (.tmp s) = v
def frameA (ops : Array Oper) (chain al : List Nat) (pv us : List Value) (gs : Nat → Option Nat) : List (Nat × Value) := (List.range ops.size).filterMap fun j => (dstO ops j).map fun s => (s, valA chain al pv us gs j)
theorem wp_region_allocs {P : Program} {ops : Array Oper} {Q : Exit → Act → World → Prop} {id : Nat} {a0 : Act} {W : World} (slots : List (Option Nat)) (deps : List (List Nat)) (chain al : List Nat) (pv : List Value) (obj : Nat → Obj) (J : List Value → (Nat → Option Nat) → World → Prop) (hm : P.follows .mixedOrders = true) (hdst : dstOK2 ops a0.tmps.size = true) (hord : ordB 0 ops.toList = true)
    (hs : ops.toList.map (·.dst) = slots) (hd : ops.toList.map depsOf = deps) (hg : ops.toList.all (fun o => o.guard.isNone) = true) (hch : chainB ops chain = true) (hnd : chain.Nodup) (hal : (al.all fun j => decide (j < ops.size) && !chain.contains j) = true) (h0 : J [] (fun _ => none) W.drew)
    (halloc : ∀ (i : Nat) (o : Oper), ops[i]? = some o → al.contains i = true → ∀ (a : Act) (w : World) (K : Act → World → Prop), K (a.put o.dst (.pointer (some ⟨w.heap.size, 0, none⟩))) (w.alloc (obj i)) → Oper.wp P o a w K Q)
    (hJal : ∀ (i : Nat), al.contains i = true → ∀ us gs w, J us gs w → gs i = none → (∀ p c, chain[p]? = some c → (deps.getD c []).contains i = true → us.length ≤ p) → J us (upd gs i w.heap.size) (w.alloc (obj i)))
    (hpure : ∀ (i : Nat) (o : Oper), ops[i]? = some o → chain.contains i = false → al.contains i = false → ∀ (a : Act) (w : World) (us : List Value) (gs : Nat → Option Nat) (K : Act → World → Prop), J us gs w → SeesA slots deps chain al pv us gs a0 a i → (∀ p c, chain[p]? = some c → (deps.getD c []).contains i = true → us.length ≤ p) → K (a.put o.dst (pv.getD i undef)) w → Oper.wp P o a w K Q)
    (hlink : ∀ (p c : Nat) (o : Oper), chain[p]? = some c → ops[c]? = some o → ∀ (a : Act) (w : World) (us : List Value) (gs : Nat → Option Nat) (K : Act → World → Prop), us.length = p → J us gs w → SeesA slots deps chain al pv us gs a0 a c → (∀ v w', J (us ++ [v]) gs w' → K (a.put o.dst v) w') → Oper.wp P o a w K Q)
    (hQ : ∀ us gs w, us.length = chain.length → (∀ j, al.contains j = true → (gs j).isSome = true) → J us gs w → Q .normal { a0 with tmps := (frameA ops chain al pv us gs).foldl (fun t p => t.setIfInBounds p.1 p.2) a0.tmps } w) :
    (Code.region id ops true).wp P Q a0 W := by
  have hgd : ∀ (i : Nat) (o : Oper), ops[i]? = some o → o.guard = none := fun i o ho => by
    have := List.all_eq_true.1 hg o (by simpa using Array.mem_of_getElem? ho)
    simpa using this
  have hdep : ∀ (i : Nat) (o : Oper), ops[i]? = some o → deps.getD i [] = depsOf o := fun i o ho => by
    rw [← hd, List.getD_eq_getElem?_getD, List.getElem?_map]
    have : ops.toList[i]? = some o := by simpa using ho
    rw [this]; rfl
  have hsl : ∀ j s, slots[j]? = some (some s) → dstO ops j = some s := fun j s h => by
    rw [← hs, List.getElem?_map, Option.map_eq_some_iff] at h
    obtain ⟨o', h1, h2⟩ := h
    have h1' : ops[j]? = some o' := by simpa using h1
    simp [dstO, h1', h2]
  have hallt : ∀ j, al.contains j = true → j < ops.size ∧ chain.contains j = false := fun j hj => by
    have := List.all_eq_true.1 hal j (by simpa using hj)
    simpa using this
  refine wp_region_any hm ?_
  refine wpAny_inv (AlInv ops chain al pv a0 J) (fun l a w h => h.1) ?_ (hordB hord) ?_ _ _ _ _ (by simp) ?_
  · intro l a w hI i o ho hl hall K hK
    obtain ⟨hsz0, hdf, hsz, hnot, hcl, us, gs, hul, hcu, hga, hval, hJ⟩ := hI
    have hi : i < ops.size := (Array.getElem?_eq_some_iff.1 ho).1
    have hnl := not_listed hl
    have hself : (l.setIfInBounds i true).getD i false = true := getD_set_self (by omega)
    have hdone : ∀ j, (deps.getD i []).contains j = true → l.getD j false = true := fun j hj => by
      rw [hdep i o ho] at hj
      obtain ⟨d, hd1, hd2, hd3⟩ := edge_of (edge_deps hj)
      rw [← hd3]
      exact hall d hd1 hd2
    have hfind : SeesA slots deps chain al pv us gs a0 a i := by
      refine ⟨fun s v hc hv => ?_, fun j s v he hj hc ha hv => ?_, fun p j s v hp he hj hv => ?_, fun j s he hj hc ha => ?_, fun j he ha => (hga j ha).1 (hdone j he), fun p j hp he => (hcu p j hp).1 (hdone j he), fun p j s v hp hj hl0 hv => by
        have := hnot s fun j' hj' => by
          have e : j' = j := dst_inj hdst hj' (hsl j s hj)
          subst e
          cases hx : l.getD j' false
          · rfl
          · exact absurd ((hcu p _ hp).1 hx) (by omega)
        rw [← hv]
        simp [Act.eval, this]⟩
      · have hn : some s ∉ ops.toList.map (·.dst) := by rw [hs]; simpa using hc
        have := hnot s (fun j hj => by
          unfold dstO at hj
          rw [Option.bind_eq_some_iff] at hj
          obtain ⟨o', h1, h2⟩ := hj
          exact absurd (List.mem_map.2 ⟨o', by simpa using Array.mem_of_getElem? h1, h2⟩) hn)
        rw [← hv]
        simp [Act.eval, this]
      · refine eval_of ?_
        rw [hval j s (hdone j he) (hsl j s hj)]
        have : chain.idxOf? j = none := idxOf_none (by simpa using hc)
        simp only [valA, this, ha]
        simp [hv]
      · refine eval_of ?_
        rw [hval j s (hdone j he) (hsl j s hj)]
        have : chain.idxOf? j = some p := idxOf_some hnd hp
        simp only [valA, this]
        simp [hv]
      · obtain ⟨g, hg'⟩ := Option.isSome_iff_exists.1 ((hga j ha).1 (hdone j he))
        refine ⟨g, hg', eval_of ?_⟩
        rw [hval j s (hdone j he) (hsl j s hj)]
        have : chain.idxOf? j = none := idxOf_none (by simpa using hc)
        simp only [valA, this, ha, hg']
        rfl
    have hclosed : ∀ j o', (l.setIfInBounds i true).getD j false = true → ops[j]? = some o' → ∀ d ∈ o'.after, Region.binds .any d = true → (l.setIfInBounds i true).getD d.on false = true := by
      intro j o' hj ho' d hd hb
      have mono : ∀ k, l.getD k false = true → (l.setIfInBounds i true).getD k false = true := fun k hk => by
        by_cases hik : i = k
        · subst hik; exact hself
        · rw [getD_set_other hik]; exact hk
      by_cases hij : i = j
      · subst hij
        rw [ho] at ho'
        cases ho'
        exact mono _ (hall d hd hb)
      · rw [getD_set_other hij] at hj
        exact mono _ (hcl j o' hj ho' d hd hb)
    have hput : ∀ v s, (∀ j, dstO ops j = some s → (l.setIfInBounds i true).getD j false = false) → (a.put o.dst v).tmps[s]? = a0.tmps[s]? := fun v s hsn => by
      have hsn' : ∀ j, dstO ops j = some s → l.getD j false = false := fun j hj => by
        have h1 := hsn j hj
        by_cases hij : i = j
        · subst hij; rw [hself] at h1; cases h1
        · rwa [getD_set_other hij] at h1
      cases hd : o.dst with
      | none => simp only [Act.put]; exact hnot s hsn'
      | some t =>
        have : dstO ops i = some t := by unfold dstO; rw [ho]; exact hd
        have hts : t ≠ s := fun e => by
          have h1 := hsn i (by rw [this, e])
          rw [hself] at h1; cases h1
        simp only [Act.put]
        rw [Array.getElem?_setIfInBounds_ne hts]
        exact hnot s hsn'
    have hputd : ∀ v, (a.put o.dst v).defers = a0.defers ∧ (a.put o.dst v).tmps.size = a0.tmps.size := fun v => by
      cases hd : o.dst with
      | none => exact ⟨hdf, hsz⟩
      | some t => exact ⟨hdf, by simpa [Act.put] using hsz⟩
    have hputv : ∀ us' gs' v, valA chain al pv us' gs' i = v → (∀ j, l.getD j false = true → valA chain al pv us' gs' j = valA chain al pv us gs j) → ∀ j s, (l.setIfInBounds i true).getD j false = true → dstO ops j = some s → (a.put o.dst v).tmps[s]? = some (valA chain al pv us' gs' j) := by
      intro us' gs' v hv hsame j s hj hd
      by_cases hij : i = j
      · subst hij
        have hod : o.dst = some s := by unfold dstO at hd; rw [ho] at hd; exact hd
        rw [hod, hv]
        have := dst_lt hdst hd
        simp [Act.put, hsz, this]
      · rw [getD_set_other hij] at hj
        rw [hsame j hj]
        cases hod : o.dst with
        | none => simp only [Act.put]; exact hval j s hj hd
        | some t =>
          have h1 : dstO ops i = some t := by unfold dstO; rw [ho]; exact hod
          have hts : t ≠ s := fun e => hij (dst_inj hdst h1 (by rw [hd, e]))
          simp only [Act.put]
          rw [Array.getElem?_setIfInBounds_ne hts]
          exact hval j s hj hd
    have hlim : i ∉ chain → ∀ p c, chain[p]? = some c → (deps.getD c []).contains i = true → us.length ≤ p := fun hic p c hp he => by
      rcases Nat.lt_or_ge p us.length with h | h
      · have hclt := chainB_lt hch hp
        have hoc : ops[c]? = some ops[c] := by simp [hclt]
        rw [hdep c _ hoc] at he
        obtain ⟨d, hd1, hd2, hd3⟩ := edge_of (edge_deps he)
        have := hcl c _ ((hcu p c hp).2 h) hoc d hd1 hd2
        rw [hd3, hnl] at this
        cases this
      · exact h
    refine want_none (hgd i o ho) ?_
    by_cases hc : i ∈ chain
    · obtain ⟨p, hp⟩ := List.getElem?_of_mem hc
      have hle : us.length ≤ p := by
        rcases Nat.lt_or_ge p us.length with h | h
        · have := (hcu p i hp).2 h
          rw [hnl] at this
          cases this
        · exact h
      have hge : p ≤ us.length := by
        cases p with
        | zero => omega
        | succ q =>
          have hpl := (List.getElem?_eq_some_iff.1 hp).1
          have hq : chain[q]? = some chain[q] := List.getElem?_eq_getElem (by omega)
          obtain ⟨o', ho', he⟩ := chainB_edge hch hq hp
          rw [ho] at ho'
          cases ho'
          obtain ⟨d, hd1, hd2, hd3⟩ := edge_of he
          have := (hcu q _ hq).1 (by rw [← hd3]; exact hall d hd1 hd2)
          omega
      have hpl := (List.getElem?_eq_some_iff.1 hp).1
      refine hlink p i o hp ho a w us gs K (by omega) hJ hfind (fun v w' hJ' => ?_)
      apply hK
      have hlen : (us ++ [v]).length = us.length + 1 := by simp
      refine ⟨by simpa using hsz0, (hputd v).1, (hputd v).2, hput v, hclosed, us ++ [v], gs, by rw [hlen]; omega, fun q c hq => ?_, fun j hj => ?_, hputv _ gs v ?_ ?_, hJ'⟩
      · rw [hlen]
        by_cases hic : i = c
        · subst hic
          have : q = p := by
            have h1 := idxOf_some hnd hq
            have h2 := idxOf_some hnd hp
            rw [h1] at h2
            exact Option.some.inj h2
          rw [hself]
          simp
          omega
        · rw [getD_set_other hic, hcu q c hq]
          have : q ≠ p := fun e => hic (by rw [e, hp] at hq; exact Option.some.inj hq)
          omega
      · have : i ≠ j := fun e => by
          have := (hallt j hj).2
          rw [← e] at this
          exact absurd hc (by simpa using this)
        rw [getD_set_other this]
        exact hga j hj
      · simp only [valA, idxOf_some hnd hp]
        rw [List.getD_eq_getElem?_getD, List.getElem?_append_right (by omega)]
        have : p - us.length = 0 := by omega
        simp [this]
      · intro j hj
        unfold valA
        cases hx : chain.idxOf? j with
        | none => rfl
        | some q =>
          have hq : chain[q]? = some j := by
            obtain ⟨h1, h2, _⟩ := List.idxOf?_eq_some_iff.1 hx
            rw [List.getElem?_eq_getElem h1, h2]
          have := (hcu q j hq).1 hj
          simp only [List.getD_eq_getElem?_getD]
          rw [List.getElem?_append_left this]
    · have hcf : chain.contains i = false := by simpa using hc
      have hcq : ∀ q c, chain[q]? = some c → ((l.setIfInBounds i true).getD c false = true ↔ q < us.length) := fun q c hq => by
        have : i ≠ c := fun e => hc (by rw [e]; exact List.mem_of_getElem? hq)
        rw [getD_set_other this]
        exact hcu q c hq
      cases ha : al.contains i with
      | true =>
        have hgn : gs i = none := by
          have := hga i ha
          rw [hnl] at this
          cases h : gs i with
          | none => rfl
          | some g => rw [h] at this; simp at this
        refine halloc i o ho ha a w K ?_
        apply hK
        refine ⟨by simpa using hsz0, (hputd _).1, (hputd _).2, hput _, hclosed, us, upd gs i w.heap.size, hul, hcq, fun j hj => ?_, hputv us _ _ ?_ (fun j hj => ?_), hJal i ha us gs w hJ hgn (hlim hc)⟩
        · by_cases hij : j = i
          · subst hij
            rw [hself, upd_self]
            simp
          · rw [getD_set_other (Ne.symm hij), upd_other _ hij]
            exact hga j hj
        · simp only [valA, idxOf_none hc, ha, upd_self]
          rfl
        · have hij : j ≠ i := fun e => by rw [e, hnl] at hj; cases hj
          simp only [valA, upd_other _ hij]
      | false =>
        refine hpure i o ho hcf ha a w us gs K hJ hfind (hlim hc) ?_
        apply hK
        refine ⟨by simpa using hsz0, (hputd _).1, (hputd _).2, hput _, hclosed, us, gs, hul, hcq, fun j hj => ?_, hputv us gs _ ?_ (fun _ _ => rfl), hJ⟩
        · have : i ≠ j := fun e => by rw [e, hj] at ha; cases ha
          rw [getD_set_other this]
          exact hga j hj
        · simp only [valA, idxOf_none hc, ha]
          rfl
  · rintro l a w ⟨hsz0, hdf, hsz, hnot, hcl, us, gs, hul, hcu, hga, hval, hJ⟩ hall
    have hlen : us.length = chain.length := by
      rcases Nat.lt_or_ge us.length chain.length with h | h
      · have hq : chain[us.length]? = some chain[us.length] := List.getElem?_eq_getElem h
        have := (hcu _ _ hq).1 (hall _ (chainB_lt hch hq))
        omega
      · omega
    have hfr := frame_eq (a0 := a0.tmps) (frameA ops chain al pv us gs) a.tmps a0.tmps hsz (fun p hp => by
      obtain ⟨j, hj, hv⟩ := List.mem_filterMap.1 hp
      rw [Option.map_eq_some_iff] at hv
      obtain ⟨s, hd, rfl⟩ := hv
      exact hval j s (hall j (by simpa using hj)) hd) (fun s hsn => hnot s fun j hj => absurd (by
        have hjl : j < ops.size := by
          unfold dstO at hj
          rw [Option.bind_eq_some_iff] at hj
          obtain ⟨o', h1, _⟩ := hj
          exact (Array.getElem?_eq_some_iff.1 h1).1
        rw [List.mem_map]
        exact ⟨(s, valA chain al pv us gs j), List.mem_filterMap.2 ⟨j, by simpa using hjl, by rw [hj]; rfl⟩, rfl⟩) hsn)
    have : a = { a0 with tmps := (frameA ops chain al pv us gs).foldl (fun t p => t.setIfInBounds p.1 p.2) a0.tmps } := by
      obtain ⟨at_, ad⟩ := a
      simp only at hfr hdf
      rw [hfr, hdf]
    rw [this]
    exact hQ us gs w hlen (fun j hj => (hga j hj).1 (hall j (hallt j hj).1)) hJ
  · refine ⟨by simp, rfl, rfl, fun _ _ => rfl, fun j o h => ?_, [], fun _ => none, by simp, fun i c hc => ?_, fun j hj => ?_, fun j s h => ?_, h0⟩
    · simp [Array.getElem?_replicate] at h
      split at h <;> simp at h
    · have : (Array.replicate ops.size false).getD c false = false := by
        simp [Array.getElem?_replicate]
        split <;> rfl
      rw [this]
      simp
    · have : (Array.replicate ops.size false).getD j false = false := by
        simp [Array.getElem?_replicate]
        split <;> rfl
      rw [this]
      simp
    · simp [Array.getElem?_replicate] at h
      split at h <;> simp at h
end Go.Proofs.YtajbhfmdmajpmaaGreatDoor
