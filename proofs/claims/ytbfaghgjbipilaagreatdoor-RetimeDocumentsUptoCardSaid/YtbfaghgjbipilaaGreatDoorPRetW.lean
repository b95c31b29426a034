/- The walk of retime.Retime: the first half. -/
import Derived.Test.YtbfaghgjbipilaaGreatDoorPRetC
namespace Go.Proofs.YtbfaghgjbipilaaGreatDoor
set_option linter.unusedVariables false
set_option linter.unusedSimpArgs false
open Go.RowKit Go.Maps

set_option maxRecDepth 100000 in
set_option maxHeartbeats 16000000 in
theorem Retime_any (d : Doc) (h : DocH) (b m : Int) (drop : Bool) (w : World) (hE : Env w) (hat : DocAt w d h) (hf : DocFit d) (hrn : h.rn ≤ 9223372036854775807) (hn : h.en ≤ 1000000) (hcn : h.cn ≤ 9223372036854775807) (b0 : 0 ≤ b) (b1 : b ≤ 255) :
    Calls Tryz.prog 55 #[.agg (d.cells h), .int .u8 b, .bool drop, .int .u8 m] w (RetPost d b drop m w) := by
  have HX := Lib.hid (((Ext.refl w).alloc (.cells (d.cells h) 27)).alloc (.cells docZero 27))
  have HB := Lib.hid ((Blk.new w 27 (d.cells h)).alloc (.cells docZero 27))
  have HZ := Lib.hid (Blk.new' (w := w.alloc (.cells (d.cells h) 27)) (g := w.heap.size + 1) (t := 27) (cs := docZero) (by simp))
  have HCk := Lib.hid (fun w' (hx : Ext w w') => DCheck_any d h w' (hE.ext hx) (hat.ext hx) hf hrn hn hcn)
  have HCl := Lib.hid (fun (hr : h.rn * 56 ≤ 140737488355328) (hc : h.cn * 72 ≤ 140737488355328) w' (hx : Ext w w') => DClone_any d h w' (hat.ext hx) hr (by omega) hc)
  have HFt := Lib.hid hf
  have HAt := Lib.hid hat
  have HRl := Lib.hid hat.regs.len
  have HKl := Lib.hid hat.coms.len
  have HEl := Lib.hid hat.evs.len
  have R1 := Lib.hid (@ret_1 d b m drop)
  have R2 := Lib.hid (@ret_2 d b m drop)
  have R3 := Lib.hid (@ret_3 d b m drop)
  have R4 := Lib.hid (@ret_4 d b m drop)
  have HV := Lib.hid (fun w => TBValid_any b w b0 b1)
  have HD := Lib.hid (fun w => CanDrop_any b w b0 b1)
  have HTb := Lib.hid (fun w => Ticks_any b w b0 b1)
  clear hE hat hf
  unfold Doc.cells docZero at HX HB HZ
  unfold Doc.cells at HCk HCl ⊢
  have END : ∀ (w9 : World) (e : Int), Ext w w9 → Blk w9 (w.heap.size + 1) 27 docZero → d.retE b drop m = e → e ≠ 0 → ∀ (tmps : Array Value), tmps.getD 8 undef = .pointer (some ⟨w.heap.size + 1, 0, none⟩) → tmps.getD 9 undef = .slice none 0 0 → tmps.getD 10 undef = .int .i64 e →
      (results Tryz.f55 tmps).run Tryz.prog (putB w9 (w.heap.size + 1) 27 docZero) = .ok (.tuple #[.agg docZero, .slice none 0 0, .int .i64 e]) (putB w9 (w.heap.size + 1) 27 docZero) ∧
        RetPost d b drop m w (.returned (.tuple #[.agg docZero, .slice none 0 0, .int .i64 e])) (putB w9 (w.heap.size + 1) 27 docZero) := fun w9 e hx hz he h0 tmps h8 h9 h10 => by
    refine ⟨?_, retPost_err he h0 (hx.put (by omega) _ _) rfl⟩
    have := results_B_tmp2 (P := Tryz.prog) Tryz.results55 (tmps := tmps) (w := putB w9 (w.heap.size + 1) 27 docZero) (g := w.heap.size + 1) h8 (hz.put _) Tryz.underlying27 rfl size_docI
    rw [this, h9, h10]
  have HEnd := Lib.hid END
  clear END
  go_enter Tryz.func55, Tryz.ntmps55
  go_wp2_with (refine wpList_loadB rfl 27 (.tmp 4) rfl w.heap.size 27 _ _ (by exact rfl) (by exact HB.out) Tryz.underlying27 rfl (by exact size_docI) ?_)
  refine (HCk.out _ HX.out).mono ?_
  rintro en w1 ⟨rfl, hx1⟩
  have HX1 := Lib.hid (HX.out.trans hx1)
  have HB1 := Lib.hid (HB.out.ext hx1)
  have HZ1 := Lib.hid (HZ.out.ext hx1)
  clear hx1 HX HB HZ HCk
  by_cases h0 : d.err = 0
  case neg =>
    have hne : (d.err != 0) = true := by simpa using h0
    have HH := Lib.hid h0
    clear h0
    go_wp2_with (refine wpList_storeB rfl 27 (.tmp 8) _ rfl (w.heap.size + 1) 27 _ _ (by exact rfl) (by exact rfl) (by exact HZ1.out) (by exact rfl) (by exact size_docI) (by simp [Value.oneCell']) ?_)
    exact (fun q => bodyPost_ret q.1 rfl q.2) (HEnd.out _ _ HX1.out HZ1.out (R1.out HH.out) HH.out _ (by exact rfl) (by exact rfl) (by exact rfl))
  rw [h0]
  have HH := Lib.hid h0
  clear h0 R1
  go_upto_region 4 with fail
  go_cut [2, 30] (fun s2 s30 wr => s2 = .bool drop ∧ s30 = .bool (!rateOkB b drop) ∧ Ext w1 wr)
  case first =>
    cases hv : rOk b
    · have HO := Lib.hid hv
      have HRt : Hid (rateOkB b drop = false) := by show _ = _; unfold rateOkB; rw [hv]; rfl
      clear hv
      go_wp2_with fail
      refine (HV.out _).mono ?_
      rintro en w2 ⟨rfl, hx2⟩
      rw [HO.out]
      go_wp2_with fail
      go_meet
      case rel => exact ⟨rfl, by rw [HRt.out]; rfl, hx2⟩
    have HO := Lib.hid hv
    have HRv : Hid (rateOkB b drop = (!drop || rDrop b)) := by show _ = _; unfold rateOkB; rw [hv]; rfl
    clear hv
    cases hd : drop
    case false =>
      have HRt : Hid (rateOkB b false = true) := by show _ = _; rw [hd] at HRv; exact HRv.out
      go_wp2_with fail
      refine (HV.out _).mono ?_
      rintro en w2 ⟨rfl, hx2⟩
      rw [HO.out]
      go_wp2_with fail
      go_meet
      case rel => exact ⟨by rw [hd], by first | (rw [hd, HRt.out]; rfl) | (rw [HRt.out]; rfl), hx2⟩
    case true =>
      rw [hd] at HRv
      have HRw : Hid (rateOkB b true = rDrop b) := by show _ = _; rw [HRv.out]; rfl
      cases hc : rDrop b
      · have HCd := Lib.hid hc
        go_wp2_with fail
        refine (HV.out _).mono ?_
        rintro en w2 ⟨rfl, hx2⟩
        rw [HO.out]
        go_wp2_with fail
        refine (HD.out _).mono ?_
        rintro en w3 ⟨rfl, hx3⟩
        rw [HCd.out]
        go_wp2_with fail
        go_meet
        case rel => exact ⟨by rw [hd], by first | (rw [hd, HRw.out, HCd.out]; rfl) | (rw [HRw.out, HCd.out]; rfl), hx2.trans hx3⟩
      · have HCd := Lib.hid hc
        go_wp2_with fail
        refine (HV.out _).mono ?_
        rintro en w2 ⟨rfl, hx2⟩
        rw [HO.out]
        go_wp2_with fail
        refine (HD.out _).mono ?_
        rintro en w3 ⟨rfl, hx3⟩
        rw [HCd.out]
        go_wp2_with fail
        go_meet
        case rel => exact ⟨by rw [hd], by first | (rw [hd, HRw.out, HCd.out]; rfl) | (rw [HRw.out, HCd.out]; rfl), hx2.trans hx3⟩
  case rest =>
  obtain ⟨rfl, rfl, hx2⟩ := hcut
  rename_i w2
  have HX2 := Lib.hid (HX1.out.trans hx2)
  have HB2 := Lib.hid (HB1.out.ext hx2)
  have HZ2 := Lib.hid (HZ1.out.ext hx2)
  clear hx2 HX1 HB1 HZ1
  cases hrt : rateOkB b drop
  · have HRt := Lib.hid hrt
    clear hrt
    go_wp2_with (refine wpList_storeB rfl 27 (.tmp 8) _ rfl (w.heap.size + 1) 27 _ _ (by exact rfl) (by exact rfl) (by exact HZ2.out) (by exact rfl) (by exact size_docI) (by simp [Value.oneCell']) ?_)
    exact (fun q => bodyPost_ret q.1 rfl q.2) (HEnd.out _ _ HX2.out HZ2.out (R2.out HH.out HRt.out) (by decide) _ (by exact rfl) (by exact rfl) (by exact rfl))
  have HRt := Lib.hid hrt
  clear hrt R2
  go_wp2_with fail
  refine (PKnown_any m _).mono ?_
  rintro en w4 ⟨rfl, hx4⟩
  subst hx4
  cases hk : decide (m = 1 ∨ m = 2)
  · have HM : Hid (¬ (m = 1 ∨ m = 2)) := by show ¬ _; exact of_decide_eq_false hk
    clear hk
    go_wp2_with (refine wpList_storeB rfl 27 (.tmp 8) _ rfl (w.heap.size + 1) 27 _ _ (by exact rfl) (by exact rfl) (by exact HZ2.out) (by exact rfl) (by exact size_docI) (by simp [Value.oneCell']) ?_)
    exact (fun q => bodyPost_ret q.1 rfl q.2) (HEnd.out _ _ HX2.out HZ2.out (R3.out HH.out HRt.out HM.out) (by decide) _ (by exact rfl) (by exact rfl) (by exact rfl))
  have HM : Hid (m = 1 ∨ m = 2) := by show _ ∨ _; exact of_decide_eq_true hk
  clear hk R3
  obtain ⟨k1, k2, k3, k4, k5, k6⟩ := doc_ok HH.out
  have hr16 : d.regs.length ≤ 16 := by
    unfold regsErr at k2
    split at k2
    · simp at k2
    · omega
  have r0 := HFt.out.ok.r0
  have r1 := HFt.out.ok.r1
  have HTa := Lib.hid (fun w => Ticks_any d.rate w r0 r1)
  have hrn5 : h.rn * 56 ≤ 140737488355328 := by have := HRl.out; omega
  have hcn7 : h.cn * 72 ≤ 140737488355328 := by have := HKl.out; omega
  have HK4 := Lib.hid k4
  have HK6 := Lib.hid k6
  clear k1 k2 k4 k6
  go_wp2_with (refine wpList_loadB rfl 27 (.tmp 4) rfl w.heap.size 27 _ _ (by exact rfl) (by exact HB2.out) Tryz.underlying27 rfl (by exact size_docI) ?_)
  refine (HCl.out hrn5 hcn7 _ HX2.out).mono ?_
  rintro en w5 ⟨⟨ra, rn, rc, ea, nn, ec, ca, cn, cc⟩, rfl, hown5, hx5⟩
  unfold Doc.cells
  dsimp only
  have HX5 := Lib.hid (HX2.out.trans hx5)
  have HB5 := Lib.hid (HB2.out.ext hx5)
  have HZ5 := Lib.hid (HZ2.out.ext hx5)
  have HO5 := Lib.hid (hown5.le HX2.out.size)
  have hnn : d.evs.length = nn := hown5.evs.len
  have HRln := Lib.hid hown5.rlen
  clear hx5 hown5 HX2 HB2 HZ2 HCl
  have hsz5 := HB5.out.lt
  have hsz5' := HZ5.out.lt
  have hwz5 := HX5.out.size
  have hBn := Blk.new w5 27 (d.cells ⟨ra, rn, rc, ea, nn, ec, ca, cn, cc⟩)
  have hs2 := setCell_put hBn 2 (.int .u8 b)
  have hs3 := setCell_put (hBn.put #[.string d.title, .string d.lang, .int .u8 b, .bool d.drop, .int .i64 d.last, .slice ra rn rc, .slice ea nn ec, .slice ca cn cc]) 3 (.bool drop)
  have hs7 := setCell_put (hBn.put #[.string d.title, .string d.lang, .int .u8 b, .bool drop, .int .i64 d.last, .slice ra rn rc, .slice ea nn ec, .slice ca cn cc]) 7 (.slice none 0 0)
  rw [putB_putB] at hs3 hs7
  have hcn0 := fun o => hBn.cell o
  have hfn0 := fun o => hBn.frozen o
  have hcn1 := fun o => (hBn.put #[.string d.title, .string d.lang, .int .u8 b, .bool d.drop, .int .i64 d.last, .slice ra rn rc, .slice ea nn ec, .slice ca cn cc]).cell o
  have hfn1 := fun o => (hBn.put #[.string d.title, .string d.lang, .int .u8 b, .bool d.drop, .int .i64 d.last, .slice ra rn rc, .slice ea nn ec, .slice ca cn cc]).frozen o
  have hcn2 := fun o => (hBn.put #[.string d.title, .string d.lang, .int .u8 b, .bool drop, .int .i64 d.last, .slice ra rn rc, .slice ea nn ec, .slice ca cn cc]).cell o
  have hfn2 := fun o => (hBn.put #[.string d.title, .string d.lang, .int .u8 b, .bool drop, .int .i64 d.last, .slice ra rn rc, .slice ea nn ec, .slice ca cn cc]).frozen o
  have hcd := fun o => ((((HB5.out.alloc (.cells (d.cells ⟨ra, rn, rc, ea, nn, ec, ca, cn, cc⟩) 27)).put_other (g' := w5.heap.size) (t' := 27) (by omega) #[.string d.title, .string d.lang, .int .u8 b, .bool drop, .int .i64 d.last, .slice ra rn rc, .slice ea nn ec, .slice none 0 0]).alloc (.map #[] 0))).cell o
  have HX7 := Lib.hid (((HX5.out.alloc (.cells (d.cells ⟨ra, rn, rc, ea, nn, ec, ca, cn, cc⟩) 27)).put (g := w5.heap.size) hwz5 27 #[.string d.title, .string d.lang, .int .u8 b, .bool drop, .int .i64 d.last, .slice ra rn rc, .slice ea nn ec, .slice none 0 0]).alloc (.map #[] 0))
  have HB7 := Lib.hid (((HB5.out.alloc (.cells (d.cells ⟨ra, rn, rc, ea, nn, ec, ca, cn, cc⟩) 27)).put_other (g' := w5.heap.size) (t' := 27) (by omega) #[.string d.title, .string d.lang, .int .u8 b, .bool drop, .int .i64 d.last, .slice ra rn rc, .slice ea nn ec, .slice none 0 0]).alloc (.map #[] 0))
  have HZ7 := Lib.hid (((HZ5.out.alloc (.cells (d.cells ⟨ra, rn, rc, ea, nn, ec, ca, cn, cc⟩) 27)).put_other (g' := w5.heap.size) (t' := 27) (by omega) #[.string d.title, .string d.lang, .int .u8 b, .bool drop, .int .i64 d.last, .slice ra rn rc, .slice ea nn ec, .slice none 0 0]).alloc (.map #[] 0))
  have HQ7 := Lib.hid ((hBn.put #[.string d.title, .string d.lang, .int .u8 b, .bool drop, .int .i64 d.last, .slice ra rn rc, .slice ea nn ec, .slice none 0 0]).alloc (.map #[] 0))
  have HO7 := Lib.hid (((HO5.out.ext ((Ext.refl w5).alloc (.cells (d.cells ⟨ra, rn, rc, ea, nn, ec, ca, cn, cc⟩) 27))).put hBn #[.string d.title, .string d.lang, .int .u8 b, .bool drop, .int .i64 d.last, .slice ra rn rc, .slice ea nn ec, .slice none 0 0]).ext ((Ext.refl _).alloc (.map #[] 0)))
  have HM7 := Lib.hid (MapI.made (putB (w5.alloc (.cells (d.cells ⟨ra, rn, rc, ea, nn, ec, ca, cn, cc⟩) 27)) w5.heap.size 27 #[.string d.title, .string d.lang, .int .u8 b, .bool drop, .int .i64 d.last, .slice ra rn rc, .slice ea nn ec, .slice none 0 0]) 2)
  unfold Doc.cells at hs2 hcn0 hfn0 hcn1 hfn1 hcn2 hfn2 hs3 hs7 hcd
  unfold Doc.cells at HX7 HB7 HZ7 HQ7 HO7 HM7
  simp at hs2 hs3 hs7
  have hmm := @run_makeMap Tryz.prog
  clear hBn HX5 HB5 HZ5 HO5
  go_wp2_with fail
  clear hmm hcn0 hfn0 hcn1 hfn1 hcn2 hfn2 hs2 hs3 hs7 hcd
  generalize hW7 : World.alloc (putB _ _ _ #[.string d.title, .string d.lang, .int .u8 b, .bool drop, .int .i64 d.last, .slice ra rn rc, .slice ea nn ec, .slice none 0 0]) (.map #[] 0) = w7 at *
  have hMs : (putB (w5.alloc (.cells #[.string d.title, .string d.lang, .int .u8 d.rate, .bool d.drop, .int .i64 d.last, .slice ra rn rc, .slice ea nn ec, .slice ca cn cc] 27)) w5.heap.size 27 #[.string d.title, .string d.lang, .int .u8 b, .bool drop, .int .i64 d.last, .slice ra rn rc, .slice ea nn ec, .slice none 0 0]).heap.size = w5.heap.size + 1 := by rw [putB_size]; simp
  rw [hMs] at HM7 ⊢
  clear hMs hW7
  have hA0 : (⟨ra, rn, rc, ea, nn, ec, ca, cn, cc⟩ : DocH).ra = ra := rfl
  have HR7 : Hid (RtRel d h b m #[.string d.title, .string d.lang, .int .u8 b, .bool drop, .int .i64 d.last, .slice ra rn rc, .slice ea nn ec, .slice none 0 0] w5.heap.size (w5.heap.size + 1) ⟨ra, rn, rc, ea, nn, ec, ca, cn, cc⟩ w 0 (.slice none 0 0) w7) := by
    refine ⟨HX7.out, HB7.out, HZ7.out, HQ7.out, HO7.out.regs, ?_, HM7.out, ⟨rfl, .inl ⟨rfl, rfl⟩⟩⟩
    simpa [midEvs, retEvs] using HO7.out.evs
  clear HX7 HB7 HZ7 HM7 HO7 hA0
  refine (HTa.out _).mono ?_
  rintro en w8 ⟨rfl, hx8⟩
  go_wp2_with fail
  refine (HTb.out _).mono ?_
  rintro en w9 ⟨rfl, hx9⟩
  have HR9 := Lib.hid (HR7.out.grow (hx8.trans hx9))
  have hq9 := fun o => HR9.out.out.cell o
  clear HR7 HQ7 hx8 hx9
  go_wp2_with fail
  clear hq9
  go_loopw [64, 13] (fun i v wr => RtLoop d h b m #[.string d.title, .string d.lang, .int .u8 b, .bool drop, .int .i64 d.last, .slice ra rn rc, .slice ea nn ec, .slice none 0 0] w5.heap.size (w5.heap.size + 1) ⟨ra, rn, rc, ea, nn, ec, ca, cn, cc⟩ w i v wr) (fun i _ _ => nn - (intOf i).toNat)
  case atStart => exact ⟨0, Nat.zero_le _, rfl, HR9.out, by simp⟩
  case round =>
    obtain ⟨k, hk, rfl, hr, hP⟩ := hrel
    dsimp only at hk
    have HRr := Lib.hid hr
    have HP := Lib.hid hP
    clear hr hP
    by_cases hlt : k < nn
    · obtain ⟨x, hxx⟩ : ∃ x, d.evs[k]? = some x := ⟨_, List.getElem?_eq_getElem (by omega)⟩
      have HXx := Lib.hid hxx
      obtain ⟨v1, v2, -, v4⟩ := evs_ok HK4.out k x hxx
      rw [List.nil_append] at v4
      have HNo := Lib.hid v4
      obtain ⟨v5, v6, v7⟩ := ev_ok v1
      have v8 := of_decide_eq_true v7
      clear v1 v2 v4 v7
      obtain ⟨g, A', n', c', hA, hLg, hglt, hty, hcx, hfx, hgood⟩ := HRr.out.evs.head (midEvs_at hxx)
      dsimp only at hA
      subst hA
      have HTy := Lib.hid hty
      have HCx := Lib.hid hcx
      have HFx := Lib.hid hfx
      clear hty hcx hfx hgood hxx
      have HSe := Lib.hid (retErr_step (a := d.rate) (b := b) (m := m) HXx.out HP.out)
      obtain ⟨⟨⟨si, so⟩, er⟩, hsp⟩ : ∃ p, x.span d.rate b m = p := ⟨_, rfl⟩
      have HSp : Hid (∀ w, Calls Tryz.prog 111 #[.int .u8 d.rate, .int .u8 b, .agg #[.int .i64 x.inn, .int .i64 x.out], .int .u8 m] w fun e w' => e = .returned (.tuple #[.agg #[.int .i64 si, .int .i64 so], .int .i64 er]) ∧ Ext w w') := by
        intro w
        have := PSpan_any d.rate b x.inn x.out m w r0 r1 b0 b1
        have hsp' : spanT d.rate b x.inn x.out m = ((si, so), er) := hsp
        rw [hsp'] at this
        exact this
      have HBd : Hid (er = 0 → 0 ≤ si ∧ si < so ∧ so ≤ 5184000) := fun h0 => by
        have hsp' : spanT d.rate b x.inn x.out m = ((si, so), er) := hsp
        have := spanT_bd (a := d.rate) (b := b) (i := x.inn) (o := x.out) (m := m) (by rw [hsp']; exact h0)
        rw [hsp'] at this
        exact this.2.2
      have HSq := Lib.hid hsp
      rw [hsp] at HSe
      clear hsp
      dsimp only at HSe
      have hob := fun o => HRr.out.out.cell o
      go_wp2_with fail
      clear hob
      refine wp_region_allocs [some 72, some 73, some 74, some 75, some 76, some 77, some 78, some 79, some 80, some 71, some 81, some 82, some 19, none, some 20] [[], [0], [], [], [3], [4], [5], [], [1, 2, 6, 7], [8], [9], [9], [], [12, 10, 8, 0, 1, 2, 3, 4, 5, 6, 7, 8, 9, 10, 12], [11, 13, 0, 1, 2, 3, 4, 5, 6, 7, 8, 9, 10, 11, 12, 13]] [8, 13] [12] [.pointer (some ⟨w.heap.size, 2, none⟩), .int .u8 d.rate, .int .u8 b, .pointer (some ⟨g, k * 7, none⟩), .pointer (some ⟨g, k * 7, none⟩), .pointer (some ⟨g, k * 7 + 1, none⟩), .agg #[.int .i64 x.inn, .int .i64 x.out], .int .u8 m, undef, .tuple #[.agg #[.int .i64 si, .int .i64 so], .int .i64 er], .agg #[.int .i64 si, .int .i64 so], .int .i64 er, undef, undef, .int .i64 er] (fun _ => .cells #[.int .i64 0, .int .i64 0] 42) (VarJ 42 12 1 #[.int .i64 0, .int .i64 0] #[.int .i64 si, .int .i64 so] (.tuple #[.agg #[.int .i64 si, .int .i64 so], .int .i64 er]) wr) (by kernel_rfl) (by kernel_rfl) (by kernel_rfl) (by kernel_rfl) (by kernel_rfl) (by kernel_rfl) (by kernel_rfl) (by decide) (by kernel_rfl) ?_ ?_ ?_ ?_ ?_ ?_
      · exact VarJ.start wr
      · intro i o ho ha a w' K' hk
        match i, ho with
        | 0, ho => simp at ha
        | 1, ho => simp at ha
        | 2, ho => simp at ha
        | 3, ho => simp at ha
        | 4, ho => simp at ha
        | 5, ho => simp at ha
        | 6, ho => simp at ha
        | 7, ho => simp at ha
        | 8, ho => simp at ha
        | 9, ho => simp at ha
        | 10, ho => simp at ha
        | 11, ho => simp at ha
        | 12, ho =>
          simp only [List.getElem?_toArray, List.getElem?_cons_zero, List.getElem?_cons_succ, Option.some.injEq] at ho
          subst ho
          exact wp_alloc_span rfl hk
        | 13, ho => simp at ha
        | 14, ho => simp at ha
        | i + 15, ho => simp at ho
      · intro i ha us gs w' hJ hn hlim
        match i, ha with
        | 0, ha => simp at ha
        | 1, ha => simp at ha
        | 2, ha => simp at ha
        | 3, ha => simp at ha
        | 4, ha => simp at ha
        | 5, ha => simp at ha
        | 6, ha => simp at ha
        | 7, ha => simp at ha
        | 8, ha => simp at ha
        | 9, ha => simp at ha
        | 10, ha => simp at ha
        | 11, ha => simp at ha
        | 12, ha => exact hJ.alloc (hlim 1 13 rfl rfl)
        | 13, ha => simp at ha
        | 14, ha => simp at ha
        | i + 15, ha => simp at ha
      · intro i o ho hc ha a w' us gs K' hJ hF hlim hk
        match i, ho with
        | 0, ho =>
          simp only [List.getElem?_toArray, List.getElem?_cons_zero, List.getElem?_cons_succ, Option.some.injEq] at ho
          subst ho
          have e4 := hF.old 4 (.pointer (some ⟨w.heap.size, 0, none⟩)) rfl rfl
          simp only [Act.eval] at e4
          clear hF hlim hJ
          go_simp
          exact hk
        | 1, ho =>
          simp only [List.getElem?_toArray, List.getElem?_cons_zero, List.getElem?_cons_succ, Option.some.injEq] at ho
          subst ho
          have e72 := hF.pure 0 72 (.pointer (some ⟨w.heap.size, 2, none⟩)) rfl rfl rfl rfl rfl
          have hcl : w'.cell? ⟨w.heap.size, 2, none⟩ = some (.int .u8 d.rate) := (HRr.out.doc.ext hJ.ext).cell 2
          simp only [Act.eval] at e72
          clear hF hlim hJ
          go_simp
          exact hk
        | 2, ho =>
          simp only [List.getElem?_toArray, List.getElem?_cons_zero, List.getElem?_cons_succ, Option.some.injEq] at ho
          subst ho
          have e1 := hF.old 1 (.int .u8 b) rfl rfl
          simp only [Act.eval] at e1
          clear hF hlim hJ
          go_simp
          exact hk
        | 3, ho =>
          simp only [List.getElem?_toArray, List.getElem?_cons_zero, List.getElem?_cons_succ, Option.some.injEq] at ho
          subst ho
          have e18 := hF.old 18 (.pointer (some ⟨g, k * 7, none⟩)) rfl rfl
          simp only [Act.eval] at e18
          clear hF hlim hJ
          go_simp
          exact hk
        | 4, ho =>
          simp only [List.getElem?_toArray, List.getElem?_cons_zero, List.getElem?_cons_succ, Option.some.injEq] at ho
          subst ho
          have e75 := hF.pure 3 75 (.pointer (some ⟨g, k * 7, none⟩)) rfl rfl rfl rfl rfl
          simp only [Act.eval] at e75
          clear hF hlim hJ
          go_simp
          exact hk
        | 5, ho =>
          simp only [List.getElem?_toArray, List.getElem?_cons_zero, List.getElem?_cons_succ, Option.some.injEq] at ho
          subst ho
          have e76 := hF.pure 4 76 (.pointer (some ⟨g, k * 7, none⟩)) rfl rfl rfl rfl rfl
          simp only [Act.eval] at e76
          clear hF hlim hJ
          go_simp
          exact hk
        | 6, ho =>
          simp only [List.getElem?_toArray, List.getElem?_cons_zero, List.getElem?_cons_succ, Option.some.injEq] at ho
          subst ho
          have e77 := hF.pure 5 77 (.pointer (some ⟨g, k * 7 + 1, none⟩)) rfl rfl rfl rfl rfl
          have hcl : w'.cell? ⟨g, k * 7 + 1, none⟩ = some (.int .i64 x.inn) := hJ.ext.cell (HCx.out 1 _ rfl)
          have hcl2 : w'.cell? ⟨g, k * 7 + 1 + 1, none⟩ = some (.int .i64 x.out) := hJ.ext.cell (HCx.out 2 _ rfl)
          simp only [Act.eval] at e77
          clear hF hlim hJ
          go_simp
          exact hk
        | 7, ho =>
          simp only [List.getElem?_toArray, List.getElem?_cons_zero, List.getElem?_cons_succ, Option.some.injEq] at ho
          subst ho
          have e3 := hF.old 3 (.int .u8 m) rfl rfl
          simp only [Act.eval] at e3
          clear hF hlim hJ
          go_simp
          exact hk
        | 8, ho => simp at hc
        | 9, ho =>
          simp only [List.getElem?_toArray, List.getElem?_cons_zero, List.getElem?_cons_succ, Option.some.injEq] at ho
          subst ho
          obtain ⟨v80, hv80⟩ := getElem_ltq (hF.did 0 8 rfl rfl)
          have e80 := hF.link 0 8 80 _ rfl rfl rfl hv80
          rw [hJ.val v80 hv80] at e80
          simp only [Act.eval] at e80
          clear hF hlim hJ
          go_simp
          exact hk
        | 10, ho =>
          simp only [List.getElem?_toArray, List.getElem?_cons_zero, List.getElem?_cons_succ, Option.some.injEq] at ho
          subst ho
          have e71 := hF.pure 9 71 (.tuple #[.agg #[.int .i64 si, .int .i64 so], .int .i64 er]) rfl rfl rfl rfl rfl
          simp only [Act.eval] at e71
          clear hF hlim hJ
          go_simp
          exact hk
        | 11, ho =>
          simp only [List.getElem?_toArray, List.getElem?_cons_zero, List.getElem?_cons_succ, Option.some.injEq] at ho
          subst ho
          have e71 := hF.pure 9 71 (.tuple #[.agg #[.int .i64 si, .int .i64 so], .int .i64 er]) rfl rfl rfl rfl rfl
          simp only [Act.eval] at e71
          clear hF hlim hJ
          go_simp
          exact hk
        | 12, ho => simp at ha
        | 13, ho => simp at hc
        | 14, ho =>
          simp only [List.getElem?_toArray, List.getElem?_cons_zero, List.getElem?_cons_succ, Option.some.injEq] at ho
          subst ho
          have e82 := hF.pure 11 82 (.int .i64 er) rfl rfl rfl rfl rfl
          simp only [Act.eval] at e82
          clear hF hlim hJ
          go_simp
          exact hk
        | i + 15, ho => simp at ho
      · intro p c' o hp ho a w' us gs K' hl hJ hF hk
        match p, hp with
        | 0, hp =>
          obtain rfl : 8 = c' := by simpa using hp
          simp only [List.getElem?_toArray, List.getElem?_cons_zero, List.getElem?_cons_succ, Option.some.injEq] at ho
          subst ho
          obtain rfl : us = [] := List.eq_nil_of_length_eq_zero hl
          have e73 := hF.pure 1 73 (.int .u8 d.rate) rfl rfl rfl rfl rfl
          have e74 := hF.pure 2 74 (.int .u8 b) rfl rfl rfl rfl rfl
          have e78 := hF.pure 6 78 (.agg #[.int .i64 x.inn, .int .i64 x.out]) rfl rfl rfl rfl rfl
          have e79 := hF.pure 7 79 (.int .u8 m) rfl rfl rfl rfl rfl
          refine wp_call4R rfl e73 e74 e78 e79 Tryz.call111 (HSp.out w') ?_
          rintro en w8 ⟨rfl, hx8⟩
          exact ⟨_, rfl, hk _ _ (hJ.call (by omega) hx8 rfl)⟩
        | 1, hp =>
          obtain rfl : 13 = c' := by simpa using hp
          simp only [List.getElem?_toArray, List.getElem?_cons_zero, List.getElem?_cons_succ, Option.some.injEq] at ho
          subst ho
          obtain ⟨u0, rfl⟩ := list_1 hl
          obtain ⟨g19, hg19, e19⟩ := hF.ptr 12 19 rfl rfl rfl rfl
          have e81 := hF.pure 10 81 (.agg #[.int .i64 si, .int .i64 so]) rfl rfl rfl rfl rfl
          exact wp_storeB 42 (.tmp 19) (.tmp 81) rfl g19 42 _ _ e19 e81 (by exact size_span') (by simp [Value.oneCell']) (hJ.blk hg19 (by simp)) rfl (hk undef _ (hJ.store hg19 rfl (by simp)))
        | p + 2, hp => simp at hp
      intro us gs w17 hl hgs hJ
      obtain ⟨u0, u1, rfl⟩ := list_2 hl
      obtain ⟨g12, hg12⟩ := Option.isSome_iff_exists.1 (hgs 12 rfl)
      first | (rename_i hK; refine hK _ _ ?_; clear hK) | (rename_i hK hK_1; refine hK _ _ ?_; clear hK) | (rename_i hK hK_1 hK_2; refine hK _ _ ?_; clear hK) | (rename_i hK hK_1 hK_2 hK_3; refine hK _ _ ?_; clear hK)
      generalize hL : frameA _ _ _ _ _ _ = L
      obtain rfl : L = [(72, .pointer (some ⟨w.heap.size, 2, none⟩)), (73, .int .u8 d.rate), (74, .int .u8 b), (75, .pointer (some ⟨g, k * 7, none⟩)), (76, .pointer (some ⟨g, k * 7, none⟩)), (77, .pointer (some ⟨g, k * 7 + 1, none⟩)), (78, .agg #[.int .i64 x.inn, .int .i64 x.out]), (79, .int .u8 m), (80, u0), (71, .tuple #[.agg #[.int .i64 si, .int .i64 so], .int .i64 er]), (81, .agg #[.int .i64 si, .int .i64 so]), (82, .int .i64 er), (19, .pointer ((gs 12).map fun g => ⟨g, 0, none⟩)), (20, .int .i64 er)] := hL.symm.trans (by kernel_rfl)
      rw [hg12]
      clear hL hl
      simp only [Act.put, Option.map_some, List.foldl_cons, List.foldl_nil, List.setIfInBounds_toArray, List.set_cons_zero, List.set_cons_succ]
      obtain rfl := hJ.val u0 rfl
      obtain ⟨hgs0, hBs⟩ := hJ.end_ hg12 (by simp)
      have hx17 := hJ.ext
      have HX17 := Lib.hid hx17
      have HBs := Lib.hid hBs
      have HR17 := Lib.hid (HRr.out.grow hx17)
      clear hgs0 hBs hx17 hJ hgs hg12
      by_cases he0 : er = 0
      case neg =>
        have hne : (er != 0) = true := by simpa using he0
        have HEr : Hid (d.retE b drop m = er) := by show _ = _; rw [R4.out HH.out HRt.out HM.out]; exact HSe.out.1 he0
        have HZ17 := Lib.hid HR17.out.zero
        have HX18 := Lib.hid HR17.out.ext
        have HE0 := Lib.hid he0
        clear he0
        go_wp2_with (refine wpList_storeB rfl 27 (.tmp 8) _ rfl (w.heap.size + 1) 27 _ _ (by exact rfl) (by exact rfl) (by exact HZ17.out) (by exact rfl) (by exact size_docI) (by simp [Value.oneCell']) ?_)
        exact (fun q => bodyPost_ret q.1 rfl q.2) (HEnd.out _ _ HX18.out HZ17.out (HEr.out) HE0.out _ (by exact rfl) (by exact rfl) (by exact rfl))
      subst he0
      obtain ⟨q1, q2, q3⟩ := HBd.out rfl
      have HP2 := Lib.hid (HSe.out.2 rfl)
      clear HBd HSe
      obtain ⟨nm, Dm, hown, hnm, hmap, hatk⟩ := HR17.out.map
      have HOw := Lib.hid hown
      have HOm := Lib.hid hmap
      have HAk := Lib.hid hatk
      have hkl : (d.evs.take k).length = k := by rw [List.length_take]; omega
      have hnl : nm < maxLen := by simp [maxLen]; omega
      have HNm := Lib.hid hnm
      have hiw : IW x.id := ⟨by omega, by omega⟩
      have HKey := Lib.hid hiw.key
      have HIw := Lib.hid hiw
      have hid17 : w17.cell? ⟨g, k * 7, none⟩ = some (.int .i64 x.id) := HX17.out.cell (by simpa using HCx.out 0 _ rfl)
      have HKl := Lib.hid hkl
      clear hown hmap hatk hnm hiw
      go_wp2_with (at_mapUpdate; refine wpList_mapUpdate_in _ rfl _ _ _ 138 rfl 2 2 key64 Tryz.underlying138 (plainElem Tryz.prog 2) (w5.heap.size + 1) nm Dm rfl (by exact HOw.out) hnl _ _ (.int .i64 x.id) rfl rfl (by exact HKey.out) (.lit (.int .i64 ((k : Int) + 1))) [] (plainElem_int Tryz.underlying2 (IW.wf ⟨by omega, by omega⟩)) ?_; intro w10 hown1 hturn1)
      clear hid17
      have HTu := Lib.hid hturn1
      have HMp : Hid (MapI w10 2 (w5.heap.size + 1) (d.evs.take (k + 1))) := by
        show MapI _ _ _ _
        rw [take_snoc' d.evs k x HXx.out]
        exact MapI.put HNm.out HOm.out HAk.out HIw.out HNo.out (by rw [HKl.out]; exact hown1)
      clear hown1 hturn1 hnl HOm HAk HOw
      obtain ⟨hx10, -, -, -, -, -, hdr10⟩ := HR17.out.turned HXx.out HTu.out (by omega)
      have HX10 := Lib.hid hx10
      have HD10 := Lib.hid hdr10
      have HS10 := Lib.hid (HBs.out.kb (KB.turned HTu.out))
      have HTy10 := Lib.hid ((HTy.out.ext HX17.out).kb (KB.turned HTu.out))
      have HC10 : Hid (∀ j u, (x.cells A' n' c').toList[j]? = some u → w10.cell? ⟨g, k * 7 + j, none⟩ = some u) := fun j u hu => by
        rw [(HTy.out.ext HX17.out).cell_kb (KB.turned HTu.out)]
        exact HX17.out.cell (HCx.out j u hu)
      clear hx10 hdr10
      obtain ⟨ta0, ta1⟩ := rTicks_bd d.rate
      obtain ⟨tb0, tb1⟩ := rTicks_bd b
      have ma := mul_bd (x := si) (t := rTicks b) q1 (by omega) tb0 tb1
      have mb := mul_bd (x := so) (t := rTicks b) (by omega) q3 tb0 tb1
      have mc := mul_bd (x := x.inn) (t := rTicks d.rate) (by omega) (by omega) ta0 ta1
      have md := mul_bd (x := x.out) (t := rTicks d.rate) (by omega) (by omega) ta0 ta1
      refine wp_region_links [some 95, some 96, some 97, some 98, some 99, some 100, some 101, some 102, some 103, some 104, some 105, some 106, some 107, some 108, some 109, some 110, some 111, some 112, some 113, some 114, some 115, some 116, some 117, some 118, some 119, some 120, some 121, some 122, some 123, some 13] [[], [], [], [2], [], [3, 4], [], [6], [7], [8], [9], [], [10, 11], [5, 12], [], [14], [], [15, 16], [], [18], [19], [20], [21], [], [22, 23], [17, 24], [1, 13, 25], [26], [0, 27], [28, 28, 0, 1, 2, 3, 4, 5, 6, 7, 8, 9, 10, 11, 12, 13, 14, 15, 16, 17, 18, 19, 20, 21, 22, 23, 24, 25, 26, 27, 28]] [27, 28, 29] [u13, .int .i64 ((k : Int) + 1), .pointer (some ⟨g12, 0, none⟩), .int .i64 si, .int .i64 (rTicks b), .int .i64 (si * rTicks b), .pointer (some ⟨g, k * 7, none⟩), .pointer (some ⟨g, k * 7, none⟩), .pointer (some ⟨g, k * 7 + 1, none⟩), .pointer (some ⟨g, k * 7 + 1, none⟩), .int .i64 x.inn, .int .i64 (rTicks d.rate), .int .i64 (x.inn * rTicks d.rate), .int .i64 (si * rTicks b - x.inn * rTicks d.rate), .pointer (some ⟨g12, 1, none⟩), .int .i64 so, .int .i64 (rTicks b), .int .i64 (so * rTicks b), .pointer (some ⟨g, k * 7, none⟩), .pointer (some ⟨g, k * 7, none⟩), .pointer (some ⟨g, k * 7 + 1, none⟩), .pointer (some ⟨g, k * 7 + 1 + 1, none⟩), .int .i64 x.out, .int .i64 (rTicks d.rate), .int .i64 (x.out * rTicks d.rate), .int .i64 (so * rTicks b - x.out * rTicks d.rate), .agg #[.int .i64 ((k : Int) + 1), .int .i64 (si * rTicks b - x.inn * rTicks d.rate), .int .i64 (so * rTicks b - x.out * rTicks d.rate)], undef, undef, undef] (ApJ 135 3 #[.int .i64 ((k : Int) + 1), .int .i64 (si * rTicks b - x.inn * rTicks d.rate), .int .i64 (so * rTicks b - x.out * rTicks d.rate)] w.heap.size u13 k ((retDris d.rate b m (d.evs.take k)).flatMap Dri.vals) w10) (by kernel_rfl) (by kernel_rfl) (by kernel_rfl) (by kernel_rfl) (by kernel_rfl) (by kernel_rfl) (by kernel_rfl) (by decide) ?_ ?_ ?_ ?_
      · exact ApJ.start w10
      · intro i o ho hc a w' us K' hJ hF hlim hk
        match i, ho with
        | 0, ho =>
          simp only [List.getElem?_toArray, List.getElem?_cons_zero, List.getElem?_cons_succ, Option.some.injEq] at ho
          subst ho
          have e13 := hF.olds 2 29 13 (u13) rfl rfl (hlim 2 29 rfl rfl) rfl
          simp only [Act.eval] at e13
          clear hF hlim hJ
          go_simp
          exact hk
        | 1, ho =>
          simp only [List.getElem?_toArray, List.getElem?_cons_zero, List.getElem?_cons_succ, Option.some.injEq] at ho
          subst ho
          have e21 := hF.old 21 (.int .i64 ((k : Int) + 1)) rfl rfl
          simp only [Act.eval] at e21
          clear hF hlim hJ
          go_simp
          exact hk
        | 2, ho =>
          simp only [List.getElem?_toArray, List.getElem?_cons_zero, List.getElem?_cons_succ, Option.some.injEq] at ho
          subst ho
          have e19 := hF.old 19 (.pointer (some ⟨g12, 0, none⟩)) rfl rfl
          simp only [Act.eval] at e19
          clear hF hlim hJ
          go_simp
          exact hk
        | 3, ho =>
          simp only [List.getElem?_toArray, List.getElem?_cons_zero, List.getElem?_cons_succ, Option.some.injEq] at ho
          subst ho
          have e97 := hF.pure 2 97 (.pointer (some ⟨g12, 0, none⟩)) rfl rfl rfl rfl
          have hcl : w'.cell? ⟨g12, 0, none⟩ = some (.int .i64 si) := (HS10.out.only hJ.only (by decide)).cell 0
          simp only [Act.eval] at e97
          clear hF hlim hJ
          go_simp
          exact hk
        | 4, ho =>
          simp only [List.getElem?_toArray, List.getElem?_cons_zero, List.getElem?_cons_succ, Option.some.injEq] at ho
          subst ho
          have e16 := hF.old 16 (.int .i64 (rTicks b)) rfl rfl
          simp only [Act.eval] at e16
          clear hF hlim hJ
          go_simp
          exact hk
        | 5, ho =>
          simp only [List.getElem?_toArray, List.getElem?_cons_zero, List.getElem?_cons_succ, Option.some.injEq] at ho
          subst ho
          have e98 := hF.pure 3 98 (.int .i64 si) rfl rfl rfl rfl
          have e99 := hF.pure 4 99 (.int .i64 (rTicks b)) rfl rfl rfl rfl
          exact wp_bin rfl e98 e99 (by first | (go_simp; done) | (go_simp; exact wrap_i64 (by omega) (by omega))) hk
        | 6, ho =>
          simp only [List.getElem?_toArray, List.getElem?_cons_zero, List.getElem?_cons_succ, Option.some.injEq] at ho
          subst ho
          have e18 := hF.old 18 (.pointer (some ⟨g, k * 7, none⟩)) rfl rfl
          simp only [Act.eval] at e18
          clear hF hlim hJ
          go_simp
          exact hk
        | 7, ho =>
          simp only [List.getElem?_toArray, List.getElem?_cons_zero, List.getElem?_cons_succ, Option.some.injEq] at ho
          subst ho
          have e101 := hF.pure 6 101 (.pointer (some ⟨g, k * 7, none⟩)) rfl rfl rfl rfl
          simp only [Act.eval] at e101
          clear hF hlim hJ
          go_simp
          exact hk
        | 8, ho =>
          simp only [List.getElem?_toArray, List.getElem?_cons_zero, List.getElem?_cons_succ, Option.some.injEq] at ho
          subst ho
          have e102 := hF.pure 7 102 (.pointer (some ⟨g, k * 7, none⟩)) rfl rfl rfl rfl
          simp only [Act.eval] at e102
          clear hF hlim hJ
          go_simp
          exact hk
        | 9, ho =>
          simp only [List.getElem?_toArray, List.getElem?_cons_zero, List.getElem?_cons_succ, Option.some.injEq] at ho
          subst ho
          have e103 := hF.pure 8 103 (.pointer (some ⟨g, k * 7 + 1, none⟩)) rfl rfl rfl rfl
          simp only [Act.eval] at e103
          clear hF hlim hJ
          go_simp
          exact hk
        | 10, ho =>
          simp only [List.getElem?_toArray, List.getElem?_cons_zero, List.getElem?_cons_succ, Option.some.injEq] at ho
          subst ho
          have e104 := hF.pure 9 104 (.pointer (some ⟨g, k * 7 + 1, none⟩)) rfl rfl rfl rfl
          have hcl : w'.cell? ⟨g, k * 7 + 1, none⟩ = some (.int .i64 x.inn) := by rw [HTy10.out.cell_kb (hJ.only.kb _ (by decide))]; exact HC10.out 1 _ rfl
          simp only [Act.eval] at e104
          clear hF hlim hJ
          go_simp
          exact hk
        | 11, ho =>
          simp only [List.getElem?_toArray, List.getElem?_cons_zero, List.getElem?_cons_succ, Option.some.injEq] at ho
          subst ho
          have e15 := hF.old 15 (.int .i64 (rTicks d.rate)) rfl rfl
          simp only [Act.eval] at e15
          clear hF hlim hJ
          go_simp
          exact hk
        | 12, ho =>
          simp only [List.getElem?_toArray, List.getElem?_cons_zero, List.getElem?_cons_succ, Option.some.injEq] at ho
          subst ho
          have e105 := hF.pure 10 105 (.int .i64 x.inn) rfl rfl rfl rfl
          have e106 := hF.pure 11 106 (.int .i64 (rTicks d.rate)) rfl rfl rfl rfl
          exact wp_bin rfl e105 e106 (by first | (go_simp; done) | (go_simp; exact wrap_i64 (by omega) (by omega))) hk
        | 13, ho =>
          simp only [List.getElem?_toArray, List.getElem?_cons_zero, List.getElem?_cons_succ, Option.some.injEq] at ho
          subst ho
          have e100 := hF.pure 5 100 (.int .i64 (si * rTicks b)) rfl rfl rfl rfl
          have e107 := hF.pure 12 107 (.int .i64 (x.inn * rTicks d.rate)) rfl rfl rfl rfl
          exact wp_bin rfl e100 e107 (by first | (go_simp; done) | (go_simp; exact wrap_i64 (by omega) (by omega))) hk
        | 14, ho =>
          simp only [List.getElem?_toArray, List.getElem?_cons_zero, List.getElem?_cons_succ, Option.some.injEq] at ho
          subst ho
          have e19 := hF.old 19 (.pointer (some ⟨g12, 0, none⟩)) rfl rfl
          simp only [Act.eval] at e19
          clear hF hlim hJ
          go_simp
          exact hk
        | 15, ho =>
          simp only [List.getElem?_toArray, List.getElem?_cons_zero, List.getElem?_cons_succ, Option.some.injEq] at ho
          subst ho
          have e109 := hF.pure 14 109 (.pointer (some ⟨g12, 1, none⟩)) rfl rfl rfl rfl
          have hcl : w'.cell? ⟨g12, 1, none⟩ = some (.int .i64 so) := (HS10.out.only hJ.only (by decide)).cell 1
          simp only [Act.eval] at e109
          clear hF hlim hJ
          go_simp
          exact hk
        | 16, ho =>
          simp only [List.getElem?_toArray, List.getElem?_cons_zero, List.getElem?_cons_succ, Option.some.injEq] at ho
          subst ho
          have e16 := hF.old 16 (.int .i64 (rTicks b)) rfl rfl
          simp only [Act.eval] at e16
          clear hF hlim hJ
          go_simp
          exact hk
        | 17, ho =>
          simp only [List.getElem?_toArray, List.getElem?_cons_zero, List.getElem?_cons_succ, Option.some.injEq] at ho
          subst ho
          have e110 := hF.pure 15 110 (.int .i64 so) rfl rfl rfl rfl
          have e111 := hF.pure 16 111 (.int .i64 (rTicks b)) rfl rfl rfl rfl
          exact wp_bin rfl e110 e111 (by first | (go_simp; done) | (go_simp; exact wrap_i64 (by omega) (by omega))) hk
        | 18, ho =>
          simp only [List.getElem?_toArray, List.getElem?_cons_zero, List.getElem?_cons_succ, Option.some.injEq] at ho
          subst ho
          have e18 := hF.old 18 (.pointer (some ⟨g, k * 7, none⟩)) rfl rfl
          simp only [Act.eval] at e18
          clear hF hlim hJ
          go_simp
          exact hk
        | 19, ho =>
          simp only [List.getElem?_toArray, List.getElem?_cons_zero, List.getElem?_cons_succ, Option.some.injEq] at ho
          subst ho
          have e113 := hF.pure 18 113 (.pointer (some ⟨g, k * 7, none⟩)) rfl rfl rfl rfl
          simp only [Act.eval] at e113
          clear hF hlim hJ
          go_simp
          exact hk
        | 20, ho =>
          simp only [List.getElem?_toArray, List.getElem?_cons_zero, List.getElem?_cons_succ, Option.some.injEq] at ho
          subst ho
          have e114 := hF.pure 19 114 (.pointer (some ⟨g, k * 7, none⟩)) rfl rfl rfl rfl
          simp only [Act.eval] at e114
          clear hF hlim hJ
          go_simp
          exact hk
        | 21, ho =>
          simp only [List.getElem?_toArray, List.getElem?_cons_zero, List.getElem?_cons_succ, Option.some.injEq] at ho
          subst ho
          have e115 := hF.pure 20 115 (.pointer (some ⟨g, k * 7 + 1, none⟩)) rfl rfl rfl rfl
          simp only [Act.eval] at e115
          clear hF hlim hJ
          go_simp
          exact hk
        | 22, ho =>
          simp only [List.getElem?_toArray, List.getElem?_cons_zero, List.getElem?_cons_succ, Option.some.injEq] at ho
          subst ho
          have e116 := hF.pure 21 116 (.pointer (some ⟨g, k * 7 + 1 + 1, none⟩)) rfl rfl rfl rfl
          have hcl : w'.cell? ⟨g, k * 7 + 1 + 1, none⟩ = some (.int .i64 x.out) := by rw [HTy10.out.cell_kb (hJ.only.kb _ (by decide))]; exact HC10.out 2 _ rfl
          simp only [Act.eval] at e116
          clear hF hlim hJ
          go_simp
          exact hk
        | 23, ho =>
          simp only [List.getElem?_toArray, List.getElem?_cons_zero, List.getElem?_cons_succ, Option.some.injEq] at ho
          subst ho
          have e15 := hF.old 15 (.int .i64 (rTicks d.rate)) rfl rfl
          simp only [Act.eval] at e15
          clear hF hlim hJ
          go_simp
          exact hk
        | 24, ho =>
          simp only [List.getElem?_toArray, List.getElem?_cons_zero, List.getElem?_cons_succ, Option.some.injEq] at ho
          subst ho
          have e117 := hF.pure 22 117 (.int .i64 x.out) rfl rfl rfl rfl
          have e118 := hF.pure 23 118 (.int .i64 (rTicks d.rate)) rfl rfl rfl rfl
          exact wp_bin rfl e117 e118 (by first | (go_simp; done) | (go_simp; exact wrap_i64 (by omega) (by omega))) hk
        | 25, ho =>
          simp only [List.getElem?_toArray, List.getElem?_cons_zero, List.getElem?_cons_succ, Option.some.injEq] at ho
          subst ho
          have e112 := hF.pure 17 112 (.int .i64 (so * rTicks b)) rfl rfl rfl rfl
          have e119 := hF.pure 24 119 (.int .i64 (x.out * rTicks d.rate)) rfl rfl rfl rfl
          exact wp_bin rfl e112 e119 (by first | (go_simp; done) | (go_simp; exact wrap_i64 (by omega) (by omega))) hk
        | 26, ho =>
          simp only [List.getElem?_toArray, List.getElem?_cons_zero, List.getElem?_cons_succ, Option.some.injEq] at ho
          subst ho
          have e96 := hF.pure 1 96 (.int .i64 ((k : Int) + 1)) rfl rfl rfl rfl
          have e108 := hF.pure 13 108 (.int .i64 (si * rTicks b - x.inn * rTicks d.rate)) rfl rfl rfl rfl
          have e120 := hF.pure 25 120 (.int .i64 (so * rTicks b - x.out * rTicks d.rate)) rfl rfl rfl rfl
          simp [Act.eval] at e96 e108 e120
          clear hF hlim hJ
          go_simp
          exact hk
        | 27, ho => simp at hc
        | 28, ho => simp at hc
        | 29, ho => simp at hc
        | i + 30, ho => simp at ho
      · intro p c' o hp ho a w' us K' hl hJ hF hk
        match p, hp with
        | 0, hp =>
          obtain rfl : 27 = c' := by simpa using hp
          simp only [List.getElem?_toArray, List.getElem?_cons_zero, List.getElem?_cons_succ, Option.some.injEq] at ho
          subst ho
          obtain rfl : us = [] := List.eq_nil_of_length_eq_zero hl
          have e121 := hF.pure 26 121 (.agg #[.int .i64 ((k : Int) + 1), .int .i64 (si * rTicks b - x.inn * rTicks d.rate), .int .i64 (so * rTicks b - x.out * rTicks d.rate)]) rfl rfl rfl rfl
          have HK := Lib.hid (hk (.slice (some ⟨w'.heap.size, 0, none⟩) 1 1) (w'.alloc (.cells #[.int .i64 ((k : Int) + 1), .int .i64 (si * rTicks b - x.inn * rTicks d.rate), .int .i64 (so * rTicks b - x.out * rTicks d.rate)] 135)) hJ.build)
          simp [Act.eval] at e121
          clear hk hF hJ
          go_simp
          exact HK.out
        | 1, hp =>
          obtain rfl : 28 = c' := by simpa using hp
          simp only [List.getElem?_toArray, List.getElem?_cons_zero, List.getElem?_cons_succ, Option.some.injEq] at ho
          subst ho
          obtain ⟨u0, rfl⟩ := list_1 hl
          obtain ⟨g8, rfl, _, hB8, hx8⟩ := hJ.one u0 rfl
          have e95 := hF.pure 0 95 (u13) rfl rfl rfl rfl
          have e122 := hF.link 0 27 122 _ rfl rfl rfl rfl
          exact wp_append1a (.tmp 95) (.tmp 122) 74 rfl info_dri Tryz.underlying74 rfl (by decide) (own_ext HD10.out hx8) e95 g8 _ e122 hB8 rfl (by simp [Value.oneCell']) (by omega) (by simp [maxLen]; omega) (by have := HX10.out.size; have := hx8.size; omega) (fun v' w9 ho9 hg9 _ => hk v' w9 (ApJ.app hx8 (own_typed (own_ext HD10.out hx8)) hg9 ho9))
        | 2, hp =>
          obtain rfl : 29 = c' := by simpa using hp
          simp only [List.getElem?_toArray, List.getElem?_cons_zero, List.getElem?_cons_succ, Option.some.injEq] at ho
          subst ho
          obtain ⟨u0, u1, rfl⟩ := list_2 hl
          have e123 := hF.link 1 28 123 _ rfl rfl rfl rfl
          exact wp_assignx _ _ rfl e123 (hk _ _ hJ.asg)
        | p + 3, hp => simp at hp
      intro us w22 hl hJ
      obtain ⟨u0_1, u1_1, u2_1, rfl⟩ := list_3 hl
      first | (rename_i hK; refine hK _ _ ?_; clear hK) | (rename_i hK hK_1; refine hK _ _ ?_; clear hK) | (rename_i hK hK_1 hK_2; refine hK _ _ ?_; clear hK) | (rename_i hK hK_1 hK_2 hK_3; refine hK _ _ ?_; clear hK)
      generalize hL : frameL _ _ _ _ = L
      obtain rfl : L = [(95, u13), (96, .int .i64 ((k : Int) + 1)), (97, .pointer (some ⟨g12, 0, none⟩)), (98, .int .i64 si), (99, .int .i64 (rTicks b)), (100, .int .i64 (si * rTicks b)), (101, .pointer (some ⟨g, k * 7, none⟩)), (102, .pointer (some ⟨g, k * 7, none⟩)), (103, .pointer (some ⟨g, k * 7 + 1, none⟩)), (104, .pointer (some ⟨g, k * 7 + 1, none⟩)), (105, .int .i64 x.inn), (106, .int .i64 (rTicks d.rate)), (107, .int .i64 (x.inn * rTicks d.rate)), (108, .int .i64 (si * rTicks b - x.inn * rTicks d.rate)), (109, .pointer (some ⟨g12, 1, none⟩)), (110, .int .i64 so), (111, .int .i64 (rTicks b)), (112, .int .i64 (so * rTicks b)), (113, .pointer (some ⟨g, k * 7, none⟩)), (114, .pointer (some ⟨g, k * 7, none⟩)), (115, .pointer (some ⟨g, k * 7 + 1, none⟩)), (116, .pointer (some ⟨g, k * 7 + 1 + 1, none⟩)), (117, .int .i64 x.out), (118, .int .i64 (rTicks d.rate)), (119, .int .i64 (x.out * rTicks d.rate)), (120, .int .i64 (so * rTicks b - x.out * rTicks d.rate)), (121, .agg #[.int .i64 ((k : Int) + 1), .int .i64 (si * rTicks b - x.inn * rTicks d.rate), .int .i64 (so * rTicks b - x.out * rTicks d.rate)]), (122, u0_1), (123, u1_1), (13, u2_1)] := hL.symm.trans (by kernel_rfl)
      clear hL hl
      simp only [Act.put, List.foldl_cons, List.foldl_nil, List.setIfInBounds_toArray, List.set_cons_zero, List.set_cons_succ]
      obtain ⟨rfl, w21, hx21, hgr22, hown22⟩ := hJ.three u0_1 u1_1 u2_1 rfl
      have HO22 := Lib.hid hJ.only
      have HE22 := Lib.hid (((HX10.out.trans hx21).grown hgr22 (fun q hq => (own_lt HD10.out q hq))) : Ext w w22)
      have HD22 := Lib.hid hown22
      clear hJ hgr22 hown22 hx21
      have HTy22 := Lib.hid (HTy10.out.kb (HO22.out.kb _ (by decide)))
      have HC22 : Hid (∀ j u, (x.cells A' n' c').toList[j]? = some u → w22.cell? ⟨g, k * 7 + j, none⟩ = some u) := fun j u hu => by
        rw [HTy10.out.cell_kb (HO22.out.kb _ (by decide))]
        exact HC10.out j u hu
      have HS22 := Lib.hid (HS10.out.only HO22.out (by decide))
      refine wp_region_links [some 124, some 125, some 126, some 127, some 128, some 129, none, some 130, some 131, none] [[], [], [], [], [0, 0, 2], [4, 0, 2], [5, 2, 0, 2], [1, 0, 1, 2, 3, 4, 5, 6], [7, 0, 1, 2, 3, 4, 5, 6], [8, 3, 6, 0, 1, 2, 3, 4, 5, 6]] [6, 9] [.pointer (some ⟨g, k * 7, none⟩), .pointer (some ⟨g, k * 7, none⟩), .int .i64 ((k : Int) + 1), .agg #[.int .i64 si, .int .i64 so], .pointer (some ⟨g, k * 7, none⟩), .pointer (some ⟨g, k * 7, none⟩), undef, .pointer (some ⟨g, k * 7, none⟩), .pointer (some ⟨g, k * 7 + 1, none⟩), undef] (StJ g (k * 7) (.int .i64 ((k : Int) + 1)) (.int .i64 si) (.int .i64 so) w22) (by kernel_rfl) (by kernel_rfl) (by kernel_rfl) (by kernel_rfl) (by kernel_rfl) (by kernel_rfl) (by kernel_rfl) (by decide) ?_ ?_ ?_ ?_
      · exact StJ.start w22
      · intro i o ho hc a w' us K' hJ hF hlim hk
        match i, ho with
        | 0, ho =>
          simp only [List.getElem?_toArray, List.getElem?_cons_zero, List.getElem?_cons_succ, Option.some.injEq] at ho
          subst ho
          have e18 := hF.old 18 (.pointer (some ⟨g, k * 7, none⟩)) rfl rfl
          simp only [Act.eval] at e18
          clear hF hlim hJ
          go_simp
          exact hk
        | 1, ho =>
          simp only [List.getElem?_toArray, List.getElem?_cons_zero, List.getElem?_cons_succ, Option.some.injEq] at ho
          subst ho
          have e18 := hF.old 18 (.pointer (some ⟨g, k * 7, none⟩)) rfl rfl
          simp only [Act.eval] at e18
          clear hF hlim hJ
          go_simp
          exact hk
        | 2, ho =>
          simp only [List.getElem?_toArray, List.getElem?_cons_zero, List.getElem?_cons_succ, Option.some.injEq] at ho
          subst ho
          have e21 := hF.old 21 (.int .i64 ((k : Int) + 1)) rfl rfl
          simp only [Act.eval] at e21
          clear hF hlim hJ
          go_simp
          exact hk
        | 3, ho =>
          simp only [List.getElem?_toArray, List.getElem?_cons_zero, List.getElem?_cons_succ, Option.some.injEq] at ho
          subst ho
          have e19 := hF.old 19 (.pointer (some ⟨g12, 0, none⟩)) rfl rfl
          exact wp_loadBk 42 (.tmp 19) rfl _ 42 _ _ e19 (HS22.out.only hJ.only (by decide)) Tryz.underlying42 rfl (by exact size_span') hk
        | 4, ho =>
          simp only [List.getElem?_toArray, List.getElem?_cons_zero, List.getElem?_cons_succ, Option.some.injEq] at ho
          subst ho
          have e124 := hF.pure 0 124 (.pointer (some ⟨g, k * 7, none⟩)) rfl rfl rfl rfl
          simp only [Act.eval] at e124
          clear hF hlim hJ
          go_simp
          exact hk
        | 5, ho =>
          simp only [List.getElem?_toArray, List.getElem?_cons_zero, List.getElem?_cons_succ, Option.some.injEq] at ho
          subst ho
          have e128 := hF.pure 4 128 (.pointer (some ⟨g, k * 7, none⟩)) rfl rfl rfl rfl
          simp only [Act.eval] at e128
          clear hF hlim hJ
          go_simp
          exact hk
        | 6, ho => simp at hc
        | 7, ho =>
          simp only [List.getElem?_toArray, List.getElem?_cons_zero, List.getElem?_cons_succ, Option.some.injEq] at ho
          subst ho
          have e125 := hF.pure 1 125 (.pointer (some ⟨g, k * 7, none⟩)) rfl rfl rfl rfl
          simp only [Act.eval] at e125
          clear hF hlim hJ
          go_simp
          exact hk
        | 8, ho =>
          simp only [List.getElem?_toArray, List.getElem?_cons_zero, List.getElem?_cons_succ, Option.some.injEq] at ho
          subst ho
          have e130 := hF.pure 7 130 (.pointer (some ⟨g, k * 7, none⟩)) rfl rfl rfl rfl
          simp only [Act.eval] at e130
          clear hF hlim hJ
          go_simp
          exact hk
        | 9, ho => simp at hc
        | i + 10, ho => simp at ho
      · intro p c' o hp ho a w' us K' hl hJ hF hk
        match p, hp with
        | 0, hp =>
          obtain rfl : 6 = c' := by simpa using hp
          simp only [List.getElem?_toArray, List.getElem?_cons_zero, List.getElem?_cons_succ, Option.some.injEq] at ho
          subst ho
          obtain rfl : us = [] := List.eq_nil_of_length_eq_zero hl
          have e129 := hF.pure 5 129 (.pointer (some ⟨g, k * 7, none⟩)) rfl rfl rfl rfl
          have e126 := hF.pure 2 126 (.int .i64 ((k : Int) + 1)) rfl rfl rfl rfl
          have hx8 := hJ.nil rfl
          have hcl : w'.cell? ⟨g, k * 7, none⟩ = some (.int .i64 x.id) := hx8.cell (by simpa using HC22.out 0 _ rfl)
          have hfr : w'.frozen? ⟨g, k * 7, none⟩ = false := (HTy22.out.ext hx8).frozen _
          have HK := Lib.hid (hk undef _ (hJ.first HTy22.out))
          simp only [Act.eval] at e129 e126
          clear hk hF hJ hx8
          go_simp
          exact HK.out
        | 1, hp =>
          obtain rfl : 9 = c' := by simpa using hp
          simp only [List.getElem?_toArray, List.getElem?_cons_zero, List.getElem?_cons_succ, Option.some.injEq] at ho
          subst ho
          obtain ⟨u0, rfl⟩ := list_1 hl
          obtain ⟨w9, hx9, hw9⟩ := hJ.one u0 rfl
          have e131 := hF.pure 8 131 (.pointer (some ⟨g, k * 7 + 1, none⟩)) rfl rfl rfl rfl
          have e127 := hF.pure 3 127 (.agg #[.int .i64 si, .int .i64 so]) rfl rfl rfl rfl
          have hty9 : Typed w' 51 g := by rw [hw9]; exact (HTy22.out.ext hx9).setCell _ _
          refine wp_store_mid 42 (.tmp 131) (.tmp 127) rfl g (k * 7 + 1) #[.int .i64 si, .int .i64 so] e131 e127 (fun j hj => ⟨?_, hty9.frozen _⟩) (by exact size_span') (by simp [Value.oneCell']) (hk undef _ (hJ.second HTy22.out))
          have hj2 : j < 2 := hj
          rw [hw9, World.cell?_setCell_other _ _ _ _ (by intro e; injection e with _ e2 _; omega)]
          have hjx : j = 0 ∨ j = 1 := by omega
          rcases hjx with rfl | rfl
          · rw [hx9.cell (HC22.out 1 _ rfl)]; rfl
          · rw [hx9.cell (HC22.out 2 _ rfl)]; rfl
        | p + 2, hp => simp at hp
      intro us w24 hl hJ
      obtain ⟨u0_2, u1_2, rfl⟩ := list_2 hl
      first | (rename_i hK; refine hK _ _ ?_; clear hK) | (rename_i hK hK_1; refine hK _ _ ?_; clear hK) | (rename_i hK hK_1 hK_2; refine hK _ _ ?_; clear hK) | (rename_i hK hK_1 hK_2 hK_3; refine hK _ _ ?_; clear hK)
      generalize hL : frameL _ _ _ _ = L
      obtain rfl : L = [(124, .pointer (some ⟨g, k * 7, none⟩)), (125, .pointer (some ⟨g, k * 7, none⟩)), (126, .int .i64 ((k : Int) + 1)), (127, .agg #[.int .i64 si, .int .i64 so]), (128, .pointer (some ⟨g, k * 7, none⟩)), (129, .pointer (some ⟨g, k * 7, none⟩)), (130, .pointer (some ⟨g, k * 7, none⟩)), (131, .pointer (some ⟨g, k * 7 + 1, none⟩))] := hL.symm.trans (by kernel_rfl)
      clear hL hl
      simp only [Act.put, List.foldl_cons, List.foldl_nil, List.setIfInBounds_toArray, List.set_cons_zero, List.set_cons_succ]
      obtain ⟨w23, hx23, rfl⟩ := hJ.two u0_2 u1_2 rfl
      clear hJ
      go_wp2_with fail
      refine ⟨⟨k + 1, (show k + 1 ≤ nn by omega), by go_num, ?_, HP2.out⟩, by simp [intOf]; omega⟩
      exact RtRel.step (hh := ⟨ra, rn, rc, some ⟨g, 0, none⟩, nn, ec, ca, cn, cc⟩) HRr.out HXx.out HSq.out HX17.out HTu.out (by omega) HMp.out HO22.out HE22.out (by simpa using HD22.out) hx23
    · have hkn : k = nn := by omega
      subst hkn
      have hz0 : retErr d.rate b m d.evs = 0 := by rw [HP.out, List.drop_eq_nil_of_le (by omega)]; rfl
      have HE0 : Hid (d.retE b drop m = 0) := by show _ = _; rw [R4.out HH.out HRt.out HM.out, hz0]
      have htk : d.evs.take k = d.evs := List.take_of_length_le (by omega)
      have hmid : midEvs d.rate b m d.evs k = retEvs d.rate b m d.evs := by unfold midEvs; rw [htk, List.drop_eq_nil_of_le (by omega), List.append_nil]
      have hq := fun o => HRr.out.out.cell o
      have hqf := fun o => HRr.out.out.frozen o
      have hqs := setCell_put HRr.out.out 4 (.int .i64 (k : Int))
      have hqp := fun o => (HRr.out.out.put #[.string d.title, .string d.lang, .int .u8 b, .bool drop, .int .i64 (k : Int), .slice ra rn rc, .slice ea k ec, .slice none 0 0]).cell o
      have hdb := HRr.out.doc.put_other (g' := w5.heap.size) (t' := 27) (by omega) #[.string d.title, .string d.lang, .int .u8 b, .bool drop, .int .i64 (k : Int), .slice ra rn rc, .slice ea k ec, .slice none 0 0]
      have hdc := fun o => hdb.cell o
      simp at hqs
      unfold Doc.cells at hdc
      have HC0 : Hid (RcRel d h b m drop w5.heap.size (w5.heap.size + 1) ⟨ra, rn, rc, ea, k, ec, ca, cn, cc⟩ w u13 0 (.slice none 0 0) (putB wr w5.heap.size 27 #[.string d.title, .string d.lang, .int .u8 b, .bool drop, .int .i64 (k : Int), .slice ra rn rc, .slice ea k ec, .slice none 0 0])) := by
        have o := HRr.out.out
        have e1 : ocells d b drop ((d.evs.length : Int) + liveN (d.coms.take 0)) (.slice ra rn rc) (.slice ea k ec) (.slice none 0 0) = #[.string d.title, .string d.lang, .int .u8 b, .bool drop, .int .i64 (k : Int), .slice ra rn rc, .slice ea k ec, .slice none 0 0] := by rw [hnn]; simp [ocells, liveN]
        refine ⟨HRr.out.ext.put hwz5 _ _, HRr.out.doc.put_other (by omega) _, HRr.out.zero.put_other (by omega) _, by rw [e1]; exact o.put _, own_kb HRr.out.regs (KB.put o (by decide)), ?_, ?_, ?_, ?_⟩
        · rw [← hmid]
          exact HRr.out.evs.kb (KB.put o (by decide)) (KB.put o (by decide)) (KB.put o (by decide))
        · have hm := HRr.out.map
          rw [htk] at hm
          exact hm.km (Only.put o).km
        · have hd := HRr.out.dris
          rw [htk] at hd
          rw [hnn]
          exact own_kb hd (KB.put o (by decide))
        · exact ⟨rfl, .inl ⟨rfl, rfl⟩⟩
      clear HRr HP hz0 htk hmid hdb HTa HTb HD HV
      go_wp2_with fail
      clear hq hqf hqs hqp hdc
      have HNn := Lib.hid hnn
      clear hnn
      go_loopw [140] (fun i wr => RcLoop d h b m drop w5.heap.size (w5.heap.size + 1) ⟨ra, rn, rc, ea, k, ec, ca, cn, cc⟩ w u13 h.cn i wr) (fun i _ => h.cn - (intOf i).toNat)
      case atStart => exact ⟨0, _, Nat.zero_le _, rfl, ⟨_, _, _, rfl⟩, HC0.out⟩
      case round =>
        obtain ⟨j, _, hj, rfl, ⟨Av, nv, cv, rfl⟩, hr⟩ := hrel
        have HRc := Lib.hid hr
        clear hr HC0
        by_cases hlj : j < h.cn
        · obtain ⟨bb, off, c, hbA, hcc, c0, c1, c2, c3, c4, c5, c6, c7⟩ := (HAt.out.coms.ext HRc.out.ext).at8 hlj
          have HCc := Lib.hid hcc
          have hck := coms_ok HK6.out j c hcc
          obtain ⟨y1, y2, -, -, y5, -, -, -, -⟩ := com_ok hck
          obtain ⟨z1, z2, -, z4⟩ := anchor_ok y5
          have HZ4 := Lib.hid z4
          have hcid : IW c.id := HFt.out.coms c (List.mem_of_getElem? hcc) |>.1
          have hcev : IW c.ev := HFt.out.coms c (List.mem_of_getElem? hcc) |>.2.1
          have HIe := Lib.hid hcev
          have hdoc := fun o => HRc.out.doc.cell o
          unfold Doc.cells at hdoc
          rw [hbA] at hdoc
          clear hcc hck y5 z4 hcid hcev
          have hlv : liveN (d.coms.take j) ≤ 64 := by have := liveN_le (d.coms.take j); rw [List.length_take] at this; omega
          cases hlo : c.lost
          case true =>
            have HLo := Lib.hid hlo
            rw [hlo] at c7
            have HX28 := Lib.hid ((Ext.refl wr).alloc (.cells #[.int .i64 c.id, .int .i64 c.ev, .int .i64 c.fr, .int .i64 c.til, .string c.author, .string c.text, .bool c.done, .bool true] 72))
            have HB28 := Lib.hid (Blk.new wr 72 #[.int .i64 c.id, .int .i64 c.ev, .int .i64 c.fr, .int .i64 c.til, .string c.author, .string c.text, .bool c.done, .bool true])
            have hcom := fun o => HB28.out.cell o
            clear hlo
            go_wp2_with fail
            exact ⟨⟨j + 1, _, by omega, by go_num, ⟨_, _, _, rfl⟩, RcRel.skip HRc.out HCc.out HLo.out HX28.out⟩, by simp [intOf]; omega⟩
          case false =>
            have HLo := Lib.hid hlo
            rw [hlo] at c7
            obtain ⟨pj, pe, hpf, -⟩ := HZ4.out hlo
            have HPf := Lib.hid hpf
            have HX28 := Lib.hid ((Ext.refl wr).alloc (.cells #[.int .i64 c.id, .int .i64 c.ev, .int .i64 c.fr, .int .i64 c.til, .string c.author, .string c.text, .bool c.done, .bool false] 72))
            have HB28 := Lib.hid (Blk.new wr 72 #[.int .i64 c.id, .int .i64 c.ev, .int .i64 c.fr, .int .i64 c.til, .string c.author, .string c.text, .bool c.done, .bool false])
            have hcom := fun o => HB28.out.cell o
            have ho28 := HRc.out.out
            unfold ocells at ho28
            have HO28 := Lib.hid ho28
            clear ho28 hlo hpf
            have hq28 := fun o => HO28.out.cell o
            have hf28 := fun o => HO28.out.frozen o
            have hs28 := setCell_put HO28.out 4 (.int .i64 ((d.evs.length : Int) + liveN (d.coms.take j) + 1))
            simp at hs28
            have hsz28 : w5.heap.size < wr.heap.size := HRc.out.out.lt
            go_wp2_with fail
            clear hcom hq28 hf28 hs28 c0 c1 c2 c3 c4 c5 c6 c7 hdoc
            have HB30 := Lib.hid ((HO28.out.put #[.string d.title, .string d.lang, .int .u8 b, .bool drop, .int .i64 ((d.evs.length : Int) + liveN (d.coms.take j) + 1), .slice ra rn rc, .slice ea k ec, (.slice Av nv cv)]).alloc (.cells #[.int .i64 c.id, .int .i64 c.ev, .int .i64 c.fr, .int .i64 c.til, .string c.author, .string c.text, .bool c.done, .bool false] 72))
            have HC30 := Lib.hid (Blk.new' (w := putB wr w5.heap.size 27 #[.string d.title, .string d.lang, .int .u8 b, .bool drop, .int .i64 ((d.evs.length : Int) + liveN (d.coms.take j) + 1), .slice ra rn rc, .slice ea k ec, (.slice Av nv cv)]) (g := wr.heap.size) (t := 72) (cs := #[.int .i64 c.id, .int .i64 c.ev, .int .i64 c.fr, .int .i64 c.til, .string c.author, .string c.text, .bool c.done, .bool false]) (by rw [putB_size]))
            have HM30 := Lib.hid ((HRc.out.map.km (Only.put (cs' := #[.string d.title, .string d.lang, .int .u8 b, .bool drop, .int .i64 ((d.evs.length : Int) + liveN (d.coms.take j) + 1), .slice ra rn rc, .slice ea k ec, (.slice Av nv cv)]) HO28.out).km).ext ((Ext.refl _).alloc (.cells #[.int .i64 c.id, .int .i64 c.ev, .int .i64 c.fr, .int .i64 c.til, .string c.author, .string c.text, .bool c.done, .bool false] 72)))
            have HX30 := Lib.hid ((Ext.refl (putB wr w5.heap.size 27 #[.string d.title, .string d.lang, .int .u8 b, .bool drop, .int .i64 ((d.evs.length : Int) + liveN (d.coms.take j) + 1), .slice ra rn rc, .slice ea k ec, (.slice Av nv cv)])).alloc (.cells #[.int .i64 c.id, .int .i64 c.ev, .int .i64 c.fr, .int .i64 c.til, .string c.author, .string c.text, .bool c.done, .bool false] 72))
            generalize hw30 : (putB wr w5.heap.size 27 #[.string d.title, .string d.lang, .int .u8 b, .bool drop, .int .i64 ((d.evs.length : Int) + liveN (d.coms.take j) + 1), .slice ra rn rc, .slice ea k ec, (.slice Av nv cv)]).alloc (.cells #[.int .i64 c.id, .int .i64 c.ev, .int .i64 c.fr, .int .i64 c.til, .string c.author, .string c.text, .bool c.done, .bool false] 72) = w30 at *
            refine wp_region_links [some 151, some 152, some 153, some 154, some 155, some 156, some 157, none, some 158, none] [[], [0], [], [], [3], [2, 4], [0, 1, 3, 4], [6, 1, 0, 1, 3, 4], [0, 1, 2, 3, 4, 5, 6, 7], [8, 5, 7, 0, 1, 2, 3, 4, 5, 6, 7]] [7, 9] [.pointer (some ⟨w5.heap.size, 4, none⟩), .int .i64 ((d.evs.length : Int) + liveN (d.coms.take j) + 1), .map (some (w5.heap.size + 1)), .pointer (some ⟨wr.heap.size, 1, none⟩), .int .i64 c.ev, .int .i64 ((pj : Int) + 1), .pointer (some ⟨wr.heap.size, 0, none⟩), undef, .pointer (some ⟨wr.heap.size, 1, none⟩), undef] (CsJ wr.heap.size #[.int .i64 ((d.evs.length : Int) + liveN (d.coms.take j) + 1), .int .i64 c.ev, .int .i64 c.fr, .int .i64 c.til, .string c.author, .string c.text, .bool c.done, .bool false] #[.int .i64 ((d.evs.length : Int) + liveN (d.coms.take j) + 1), .int .i64 ((pj : Int) + 1), .int .i64 c.fr, .int .i64 c.til, .string c.author, .string c.text, .bool c.done, .bool false] w30) (by kernel_rfl) (by kernel_rfl) (by kernel_rfl) (by kernel_rfl) (by kernel_rfl) (by kernel_rfl) (by kernel_rfl) (by decide) ?_ ?_ ?_ ?_
            · exact CsJ.start w30
            · intro i o ho hc a w' us K' hJ hF hlim hk
              match i, ho with
              | 0, ho =>
                simp only [List.getElem?_toArray, List.getElem?_cons_zero, List.getElem?_cons_succ, Option.some.injEq] at ho
                subst ho
                have e12 := hF.old 12 (.pointer (some ⟨w5.heap.size, 0, none⟩)) rfl rfl
                simp only [Act.eval] at e12
                clear hF hlim hJ
                go_simp
                exact hk
              | 1, ho =>
                simp only [List.getElem?_toArray, List.getElem?_cons_zero, List.getElem?_cons_succ, Option.some.injEq] at ho
                subst ho
                have e151 := hF.pure 0 151 (.pointer (some ⟨w5.heap.size, 4, none⟩)) rfl rfl rfl rfl
                have hcl : w'.cell? ⟨w5.heap.size, 4, none⟩ = some (.int .i64 ((d.evs.length : Int) + liveN (d.coms.take j) + 1)) := (HB30.out.only hJ.only (by decide)).cell 4
                simp only [Act.eval] at e151
                clear hF hlim hJ
                go_simp
                exact hk
              | 2, ho =>
                simp only [List.getElem?_toArray, List.getElem?_cons_zero, List.getElem?_cons_succ, Option.some.injEq] at ho
                subst ho
                have e14 := hF.old 14 (.map (some (w5.heap.size + 1))) rfl rfl
                simp only [Act.eval] at e14
                clear hF hlim hJ
                go_simp
                exact hk
              | 3, ho =>
                simp only [List.getElem?_toArray, List.getElem?_cons_zero, List.getElem?_cons_succ, Option.some.injEq] at ho
                subst ho
                have e23 := hF.old 23 (.pointer (some ⟨wr.heap.size, 0, none⟩)) rfl rfl
                simp only [Act.eval] at e23
                clear hF hlim hJ
                go_simp
                exact hk
              | 4, ho =>
                simp only [List.getElem?_toArray, List.getElem?_cons_zero, List.getElem?_cons_succ, Option.some.injEq] at ho
                subst ho
                have e154 := hF.pure 3 154 (.pointer (some ⟨wr.heap.size, 1, none⟩)) rfl rfl rfl rfl
                have hl0 := hlim 0 7 rfl rfl
                have hcl : w'.cell? ⟨wr.heap.size, 1, none⟩ = some (.int .i64 c.ev) := (HC30.out.ext (hJ.nil (List.eq_nil_of_length_eq_zero (by omega)))).cell 1
                clear hl0
                simp only [Act.eval] at e154
                clear hF hlim hJ
                go_simp
                exact hk
              | 5, ho =>
                simp only [List.getElem?_toArray, List.getElem?_cons_zero, List.getElem?_cons_succ, Option.some.injEq] at ho
                subst ho
                have e153 := hF.pure 2 153 (.map (some (w5.heap.size + 1))) rfl rfl rfl rfl
                have e155 := hF.pure 4 155 (.int .i64 c.ev) rfl rfl rfl rfl
                exact wp_lookup_mapI rfl e153 e155 (HM30.out.km hJ.only.km) HIe.out HPf.out hk
              | 6, ho =>
                simp only [List.getElem?_toArray, List.getElem?_cons_zero, List.getElem?_cons_succ, Option.some.injEq] at ho
                subst ho
                have e23 := hF.old 23 (.pointer (some ⟨wr.heap.size, 0, none⟩)) rfl rfl
                simp only [Act.eval] at e23
                clear hF hlim hJ
                go_simp
                exact hk
              | 7, ho => simp at hc
              | 8, ho =>
                simp only [List.getElem?_toArray, List.getElem?_cons_zero, List.getElem?_cons_succ, Option.some.injEq] at ho
                subst ho
                have e23 := hF.old 23 (.pointer (some ⟨wr.heap.size, 0, none⟩)) rfl rfl
                simp only [Act.eval] at e23
                clear hF hlim hJ
                go_simp
                exact hk
              | 9, ho => simp at hc
              | i + 10, ho => simp at ho
            · intro p c' o hp ho a w' us K' hl hJ hF hk
              match p, hp with
              | 0, hp =>
                obtain rfl : 7 = c' := by simpa using hp
                simp only [List.getElem?_toArray, List.getElem?_cons_zero, List.getElem?_cons_succ, Option.some.injEq] at ho
                subst ho
                obtain rfl : us = [] := List.eq_nil_of_length_eq_zero hl
                have e157 := hF.pure 6 157 (.pointer (some ⟨wr.heap.size, 0, none⟩)) rfl rfl rfl rfl
                have e152 := hF.pure 1 152 (.int .i64 ((d.evs.length : Int) + liveN (d.coms.take j) + 1)) rfl rfl rfl rfl
                have hb8 := HC30.out.ext (hJ.nil rfl)
                have hcl := hb8.cell 0
                have hfr := hb8.frozen 0
                have hset := setCell_put hb8 0 (.int .i64 ((d.evs.length : Int) + liveN (d.coms.take j) + 1))
                simp at hcl hset
                have HK := Lib.hid (hk undef _ (hJ.first HC30.out))
                simp only [Act.eval] at e157 e152
                clear hk hF hJ hb8
                go_simp
                exact HK.out
              | 1, hp =>
                obtain rfl : 9 = c' := by simpa using hp
                simp only [List.getElem?_toArray, List.getElem?_cons_zero, List.getElem?_cons_succ, Option.some.injEq] at ho
                subst ho
                obtain ⟨u0, rfl⟩ := list_1 hl
                obtain ⟨w9, hx9, rfl⟩ := hJ.one u0 rfl
                have e158 := hF.pure 8 158 (.pointer (some ⟨wr.heap.size, 1, none⟩)) rfl rfl rfl rfl
                have e156 := hF.pure 5 156 (.int .i64 ((pj : Int) + 1)) rfl rfl rfl rfl
                have hb8 := (HC30.out.ext hx9).put #[.int .i64 ((d.evs.length : Int) + liveN (d.coms.take j) + 1), .int .i64 c.ev, .int .i64 c.fr, .int .i64 c.til, .string c.author, .string c.text, .bool c.done, .bool false]
                have hcl := hb8.cell 1
                have hfr := hb8.frozen 1
                have hset := setCell_put hb8 1 (.int .i64 ((pj : Int) + 1))
                simp at hcl hset
                have HK := Lib.hid (hk undef _ (hJ.second HC30.out))
                simp only [Act.eval] at e158 e156
                clear hk hF hJ hb8
                go_simp
                exact HK.out
              | p + 2, hp => simp at hp
            intro us w32 hl hJ
            obtain ⟨u0_3, u1_3, rfl⟩ := list_2 hl
            first | (rename_i hK; refine hK _ _ ?_; clear hK) | (rename_i hK hK_1; refine hK _ _ ?_; clear hK) | (rename_i hK hK_1 hK_2; refine hK _ _ ?_; clear hK) | (rename_i hK hK_1 hK_2 hK_3; refine hK _ _ ?_; clear hK)
            generalize hL : frameL _ _ _ _ = L
            obtain rfl : L = [(151, .pointer (some ⟨w5.heap.size, 4, none⟩)), (152, .int .i64 ((d.evs.length : Int) + liveN (d.coms.take j) + 1)), (153, .map (some (w5.heap.size + 1))), (154, .pointer (some ⟨wr.heap.size, 1, none⟩)), (155, .int .i64 c.ev), (156, .int .i64 ((pj : Int) + 1)), (157, .pointer (some ⟨wr.heap.size, 0, none⟩)), (158, .pointer (some ⟨wr.heap.size, 1, none⟩))] := hL.symm.trans (by kernel_rfl)
            clear hL hl
            simp only [Act.put, List.foldl_cons, List.foldl_nil, List.setIfInBounds_toArray, List.set_cons_zero, List.set_cons_succ]
            obtain ⟨w31, hx31, hw32⟩ := hJ.two u0_3 u1_3 rfl
            clear hJ
            have hB32 : Blk w32 w5.heap.size 27 #[.string d.title, .string d.lang, .int .u8 b, .bool drop, .int .i64 ((d.evs.length : Int) + liveN (d.coms.take j) + 1), .slice ra rn rc, .slice ea k ec, (.slice Av nv cv)] := by rw [hw32]; exact (HB30.out.ext hx31).put_other (by omega) _
            have hC32 : Blk w32 wr.heap.size 72 #[.int .i64 ((d.evs.length : Int) + liveN (d.coms.take j) + 1), .int .i64 ((pj : Int) + 1), .int .i64 c.fr, .int .i64 c.til, .string c.author, .string c.text, .bool c.done, .bool false] := by rw [hw32]; exact (HC30.out.ext hx31).put _
            have hx31' := HX30.out.trans hx31
            have HRow : Hid (w32.ownsRow w.heap.size 72 8 (.slice Av nv cv) (liveN (d.coms.take j)) ((retComs d.evs d.evs.length (d.coms.take j)).flatMap Com.vals)) := by
              show World.ownsRow _ _ _ _ _ _ _
              rw [hw32]
              exact RcRel.row HRc.out (Ext.refl _) hx31' (Nat.le_refl _)
            have HX31 := Lib.hid hx31'
            have HC32 := Lib.hid hC32
            have HC31 := Lib.hid (HC30.out.ext hx31)
            have HW32 := Lib.hid hw32
            have hnew : newId d.evs c.ev = (pj : Int) + 1 := by unfold newId; rw [HPf.out]
            have hWs : w.heap.size ≤ w32.heap.size := by rw [hw32, putB_size]; have := HRc.out.ext.size; have := HC31.out.lt; omega
            have hq32 := fun o => hB32.cell o
            have HNw := Lib.hid hnew
            clear hx31 hx31' hC32 hw32 hB32 hnew
            go_wp2_with (first | (refine wpList_loadB rfl 72 (.tmp 23) rfl wr.heap.size 72 _ _ (by exact rfl) (by exact HC32.out) Tryz.underlying72 rfl (by exact size_com) ?_) | (at_builtin; refine wpList_append1a rfl (.tmp 160) (.tmp 162) 25 rfl info_comI Tryz.underlying25 rfl (by decide) (by exact HRow.out.alloc _) (by exact rfl) w32.heap.size _ (by exact rfl) (by exact Blk.new w32 _ _) (by exact rfl) (by simp [Value.oneCell']) (by omega) (by simp [maxLen]; omega) (by simp; omega) ?_; intro v' w33 ho33 hgr33 hat33; obtain ⟨A33, c33, rfl⟩ := own_shape ho33; rw [HW32.out] at hgr33; have hst := RcRel.step HRc.out HCc.out HLo.out (Ext.refl _) HX31.out (Nat.le_refl _) HC31.out (by omega) hgr33 (by rw [HNw.out, HLo.out]; exact ho33); have HSt := Lib.hid hst.2; have hq33 := fun o => hst.1.cell o; have hf33 := fun o => hst.1.frozen o; have hs33 := setCell_put hst.1 7 (.slice A33 (liveN (d.coms.take j) + 1) c33); simp at hs33; clear hst ho33 hgr33 hat33))
            exact ⟨⟨j + 1, _, by omega, by go_num, ⟨_, _, _, rfl⟩, HSt.out⟩, by simp [intOf]; omega⟩
        · have hjn : j = h.cn := by omega
          have htj : d.coms.take j = d.coms := List.take_of_length_le (by have := HKl.out; omega)
          obtain ⟨a1, a2, a3, a4, a5, a6, a7, a8, a9⟩ := HRc.out
          rw [htj] at a4 a9
          unfold ocells at a4
          unfold docZero at a3
          have HA1 := Lib.hid a1
          have HA3 := Lib.hid a3
          have HA4 := Lib.hid a4
          have HA5 := Lib.hid a5
          have HA6 := Lib.hid a6
          have HA8 := Lib.hid a8
          have HA9 := Lib.hid a9
          clear a1 a2 a3 a4 a5 a6 a7 a8 a9 htj
          go_wp2_with (first | (refine wpList_loadB rfl 27 (.tmp 12) rfl w5.heap.size 27 _ _ (by exact rfl) (by exact HA4.out) Tryz.underlying27 rfl (by exact size_docI) ?_) | (refine wpList_storeB rfl 27 (.tmp 8) _ rfl (w.heap.size + 1) 27 _ _ (by exact rfl) (by exact rfl) (by exact HA3.out) (by exact rfl) (by exact size_docI) (by simp [Value.oneCell']) ?_))
          obtain ⟨A9, c9, hv9, hc9, hm9, hsl9, -⟩ := own_sl (f := Com.vals) (size := 8) (fun _ => rfl) (retComs_len _ _ _) HA9.out
          obtain ⟨A8, c8, hv8, hc8, hm8, hsl8, -⟩ := own_sl (f := Dri.vals) (size := 3) (fun _ => rfl) (by unfold retDris; simp) HA8.out
          cases hv9
          subst hv8
          have hD : d.retD b drop m = d.ret b drop m := by unfold Doc.retD; rw [if_pos HE0.out]
          have hL : d.retL b drop m = retDris d.rate b m d.evs := by unfold Doc.retL; rw [if_pos HE0.out]
          have hcs : (d.ret b drop m).cells ⟨ra, rn, rc, ea, k, ec, Av, liveN d.coms, cv⟩ = #[.string d.title, .string d.lang, .int .u8 b, .bool drop, .int .i64 ((d.evs.length : Int) + liveN d.coms), .slice ra rn rc, .slice ea k ec, .slice Av (liveN d.coms) cv] := rfl
          refine bodyPost_ret (v := .tuple #[.agg ((d.retD b drop m).cells ⟨ra, rn, rc, ea, k, ec, Av, liveN d.coms, cv⟩), .slice A8 d.evs.length c8, .int .i64 (d.retE b drop m)]) ?_ rfl ⟨⟨ra, rn, rc, ea, k, ec, Av, liveN d.coms, cv⟩, A8, d.evs.length, c8, rfl, ?_, ?_, hc8, ?_⟩
          · rw [hD, HE0.out, hcs]
            exact results_B_tmp2 (P := Tryz.prog) Tryz.results55 (g := w.heap.size + 1) rfl (by exact HA3.out.put _) Tryz.underlying27 rfl size_docI
          · rw [hD]
            refine DocAt.mk (Sl.change (own_slice (f := Reg.vals) (fun _ => rfl) ?_ (own_kb HA5.out (KB.put HA3.out (by decide)))).2.2 fun _ _ _ => regC_cells) (HA6.out.kb (KB.put HA3.out (by decide)) (KB.put HA3.out (by decide)) (KB.put HA3.out (by decide))).evs (own_slice (f := Com.vals) (fun _ => rfl) (retComs_len _ _ _) (own_kb HA9.out (KB.put HA3.out (by decide)))).2.2
            exact HRln.out
          · rw [hL]
            exact (own_slice (f := Dri.vals) (fun _ => rfl) (by unfold retDris; simp) (own_kb HA8.out (KB.put HA3.out (by decide)))).2.2
          · exact HA1.out.put (by omega) _ _
end Go.Proofs.YtbfaghgjbipilaaGreatDoor
