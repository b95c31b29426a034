/- Laid together: The walk of the law DisplayAlone. The walk of the law DisplayChecks. The walk of the law DisplayChanges. The walk of the law DisplayPlaces. -/
import Derived.Test.YtajbhfmdmajpmaaGreatDoorPk22
import Derived.Test.YtajbhfmdmajpmaaGreatDoorPk23
import Derived.Test.YtajbhfmdmajpmaaGreatDoorPk12

/-! LawAlone32 -/
namespace Go.Proofs.YtajbhfmdmajpmaaGreatDoor
set_option linter.unusedVariables false
set_option linter.unusedSimpArgs false
open Go.RowKit
theorem vis_len (d : Doc) (h : d.err = 0) : ∀ (is : List Int), (visL d.evs d.regs is).length ≤ is.length * 480
  | [] => by simp [visL]
  | i :: is => by
    have h1 := vis_len d h is
    have e : visL d.evs d.regs (i :: is) = (((d.evs[i.toNat]?).map fun e => e.gls d.regs).getD []) ++ visL d.evs d.regs is := rfl
    rw [e, List.length_append, List.length_cons]
    have h2 : (((d.evs[i.toNat]?).map fun e => e.gls d.regs).getD []).length ≤ 480 := by
      cases hx : d.evs[i.toNat]? with
      | none => simp
      | some x => exact gls_len (doc_ev h (List.mem_of_getElem? hx))
    omega
theorem qc_stable (gl : List Gl) : QCSt [(fun v w => ∃ A c, v = .tuple #[.slice A gl.length c, .int .i64 0] ∧ GlsAt w A gl.length gl), (fun v w => ∃ A c, v = .tuple #[.slice A gl.length c, .int .i64 0] ∧ GlsAt w A gl.length gl), (fun v w => ∃ A c, v = .slice A gl.length c ∧ GlsAt w A gl.length gl), (fun v w => ∃ A c, v = .slice A gl.length c ∧ GlsAt w A gl.length gl)] := by
  intro p hp u w w' hx h
  simp only [List.mem_cons, List.not_mem_nil, or_false] at hp
  rcases hp with rfl | rfl | rfl | rfl
  · obtain ⟨A, c, h1, h2⟩ := h; exact ⟨A, c, h1, h2.ext hx⟩
  · obtain ⟨A, c, h1, h2⟩ := h; exact ⟨A, c, h1, h2.ext hx⟩
  · obtain ⟨A, c, h1, h2⟩ := h; exact ⟨A, c, h1, h2.ext hx⟩
  · obtain ⟨A, c, h1, h2⟩ := h; exact ⟨A, c, h1, h2.ext hx⟩
set_option maxRecDepth 100000 in
set_option maxHeartbeats 8000000 in
theorem DisplayAlone_any (d : Doc) (h : DocH) (f : Int) (w : World) (hE : Env w) (hat : DocAt w d h) (hi : DocIn d h) :
    Calls Tryz.prog 6 #[.agg (d.cells h), .int .i64 f] w fun en w' => en = .returned (.bool true) ∧ Ext w w' := by
  have HX0 : Hid (Ext w (w.alloc (.cells (d.cells h) 27))) := (Ext.refl w).alloc _
  have HB0 : Hid (Blk (w.alloc (.cells (d.cells h) 27)) w.heap.size 27 (d.cells h)) := Blk.new w _ _
  have HAw := Lib.hid (fun w' (hx : Ext w w') => awake32_any w' (hE.ext hx))
  have HSm := Lib.hid (fun w' => Small_any d h w')
  have HHi := Lib.hid hi
  have HEn := Lib.hid hE
  have HAt := Lib.hid hat
  have HS1 := Lib.hid (fun w' (hx : Ext w w') => Screen_any d h f w' (hE.ext hx) (hat.ext hx) hi.fit hi.rn hi.en hi.cn)
  have HOv := Lib.hid (fun (hn : h.en ≤ 1000) w' (hx : Ext w w') => Overlaps_any d h w' (hE.ext hx) (hat.ext hx) hi.fit hi.rn hn hi.cn)
  have HLe := Lib.hid hat.evs.len
  have HIA := Lib.hid (fun w' (hx : Ext w w') => DAtL_any d h f w' (hat.ext hx).evs hi.en)
  clear hE hat hi
  obtain ⟨ra, nr, rc, ea, en, ec, ca, nc, cc⟩ := h
  unfold Doc.cells at *
  dsimp only at *
  go_enter Tryz.func6, Tryz.ntmps6
  go_wp2_with fail
  refine (HAw.out _ HX0.out).mono ?_
  rintro en1 w1 ⟨rfl, hx1⟩
  have HX1 := Lib.hid (HX0.out.trans hx1)
  have HB1 := Lib.hid (HB0.out.ext hx1)
  clear hx1 HX0 HB0 HAw
  go_wp2_with (refine wpList_loadB rfl 27 (.tmp 2) rfl w.heap.size 27 _ _ (by exact rfl) (by exact HB1.out) Tryz.underlying27 rfl (by exact size_docI) ?_)
  refine (HSm.out _).mono ?_
  rintro en2 w2 ⟨rfl, hx2⟩
  have HX2 := Lib.hid (HX1.out.trans hx2)
  have HB2 := Lib.hid (HB1.out.ext hx2)
  clear hx2 HX1 HB1 HSm
  by_cases hsm : en ≤ 40 ∧ nr ≤ 40 ∧ nc ≤ 100
  case neg =>
    rw [decide_eq_false hsm]
    clear hsm
    go_wp2_with fail
    go_ret
    exact ⟨rfl, HX2.out⟩
  rw [decide_eq_true hsm]
  have HSml := Lib.hid hsm
  clear hsm
  have hen : en ≤ 40 := HSml.out.1
  have HLn := Lib.hid (dscreen_480 d f)
  unfold ScreenPost at HS1
  unfold OvPost at HOv
  unfold AtLPost at HIA
  go_wp2_with (refine wpList_loadB rfl 27 (.tmp 2) rfl w.heap.size 27 _ _ (by exact rfl) (by exact HB2.out) Tryz.underlying27 rfl (by exact size_docI) ?_)
  refine (HS1.out _ HX2.out).mono ?_
  rintro en3 w3 ⟨A1, c1, rfl, hg1, hc1, hx3, -⟩
  have HG1 := Lib.hid hg1
  have HX3 := Lib.hid (HX2.out.trans hx3)
  have HB3 := Lib.hid (HB2.out.ext hx3)
  clear hg1 hx3 HX2 HB2 HS1
  go_wp2_with (refine wpList_loadB rfl 27 (.tmp 2) rfl w.heap.size 27 _ _ (by exact rfl) (by exact HB3.out) Tryz.underlying27 rfl (by exact size_docI) ?_)
  refine (HOv.out (by omega) _ HX3.out).mono ?_
  rintro en4 w4 ⟨A2, c2, rfl, hS2, hc2, hx4⟩
  have HG4 := Lib.hid (HG1.out.ext hx4)
  have HX4 := Lib.hid (HX3.out.trans hx4)
  have HB4 := Lib.hid (HB3.out.ext hx4)
  clear hS2 hx4 HX3 HB3 HOv HG1
  by_cases h1 : d.scrErr f = 0
  case neg =>
    have hne : (d.scrErr f != 0) = true := by simpa using h1
    clear h1
    go_wp2_with fail
    go_ret
    exact ⟨rfl, HX4.out⟩
  have h0 := scrErr_ok h1
  have HOk := Lib.hid h0
  have HE1 : Hid (d.screen f = d.scr f) := by show _ = _; unfold Doc.screen; rw [if_pos h1]
  have HE2 : Hid (d.ovl = d.ovs) := by show _ = _; unfold Doc.ovl; rw [if_pos h0]
  have HVl := Lib.hid (scr_len h0 f)
  have HVa := Lib.hid (fun ho => scr_alone h0 ho f)
  have HMm := Lib.hid (fun i => @at_mem d.evs f i)
  have HIl : Hid ((atL d.evs f).length ≤ 40) := by show _ ≤ _; have := at_len d.evs f d.evs.length; have h2 := HLe.out; unfold atL; omega
  have HVb := Lib.hid (fun is => vis_len d h0 is)
  rw [h1, h0, HE1.out, HE2.out]
  rw [HE1.out] at HG4 HLn
  clear h0 h1 HE1 HE2
  generalize atL d.evs f = is at *
  generalize d.scr f = sl at *
  generalize d.ovs = os at *
  go_wp2_with (refine wpList_loadB rfl 27 (.tmp 2) rfl w.heap.size 27 _ _ (by exact rfl) (by exact HB4.out) Tryz.underlying27 rfl (by exact size_docI) ?_)
  refine (HIA.out _ HX4.out).mono ?_
  rintro en5 w5 ⟨IA, ic, rfl, hI, hic, hx5, -⟩
  have HI := Lib.hid hI
  have HX5 := Lib.hid (HX4.out.trans hx5)
  have HB5 := Lib.hid (HB4.out.ext hx5)
  have HG5 := Lib.hid (HG4.out.ext hx5)
  clear hI hx5 HX4 HB4 HG4 HIA
  go_wp2_with fail
  go_loopw [9, 42] (fun nv i wr => ∃ k : Nat, k ≤ is.length ∧ i = .int .i64 k ∧ nv = .int .i64 (visL d.evs d.regs (is.take k)).length ∧ Ext w5 wr) (fun _ i _ => is.length - (intOf i).toNat)
  case atStart => exact ⟨0, Nat.zero_le _, rfl, rfl, Ext.refl _⟩
  case round =>
    obtain ⟨k, hk, rfl, rfl, hx⟩ := hrel
    have HX := Lib.hid hx
    clear hx
    by_cases hlt : k < is.length
    · obtain ⟨ib, ioff, q, rfl, hq, hcell⟩ := IntsAt.cell (HI.out.ext HX.out) hlt
      obtain ⟨p, x, hqp, hpx, -⟩ := HMm.out q (List.mem_of_getElem? hq)
      subst hqp
      have hpn : p < en := by rw [← HLe.out]; exact (List.getElem?_eq_some_iff.1 hpx).1
      obtain ⟨eb, eoff, x', hea, hx', hC⟩ := (HAt.out.evs.ext (HX5.out.trans HX.out)).at_ hpn
      obtain rfl : x' = x := by rw [hpx] at hx'; exact (Option.some.inj hx').symm
      subst hea
      obtain ⟨A', n', c', hRx, hEx⟩ := hC
      have HRx := Lib.hid hRx
      have hmx := List.mem_of_getElem? hpx
      have he0 := doc_ev HOk.out hmx
      have HV := Lib.hid (vis_snoc d.evs d.regs is k p x' hq hpx)
      have hpe : x'.plc d.regs = x'.gls d.regs := by unfold Ev.plc; rw [if_pos he0]
      have HPl := Lib.hid (fun w' (hx : Ext wr w') => Place32_any x' A' n' c' ra nr rc d.regs w' (HEn.out.ext (HX5.out.trans (HX.out.trans hx))) (hEx.ext hx) (HHi.out.fit.evs x' hmx).1 (HAt.out.regs.ext (HX5.out.trans (HX.out.trans hx))) HHi.out.rn HHi.out.fit.regs)
      unfold Plc32Post at HPl
      unfold Ev.cells at HPl HRx
      rw [hpe, he0] at HPl
      have HBd := Lib.hid (HB5.out.ext HX.out)
      have HGs := Lib.hid (HG5.out.ext HX.out)
      have hgl : (x'.gls d.regs).length ≤ 480 := gls_len he0
      have HVt := Lib.hid (HVb.out (is.take k))
      have hvt : (visL d.evs d.regs (is.take k)).length ≤ 19200 := by have h1 := HVt.out; have h2 := HIl.out; rw [List.length_take] at h1; omega
      have HIn : Hid (∀ y ∈ x'.gls d.regs, y ∈ visL d.evs d.regs is) := fun y hy => by
        have : y ∈ visL d.evs d.regs (is.take (k + 1)) := by rw [HV.out]; exact List.mem_append_right _ hy
        unfold visL at this ⊢
        obtain ⟨i, hi, hy⟩ := List.mem_flatMap.1 this
        exact List.mem_flatMap.2 ⟨i, List.mem_of_mem_take hi, hy⟩
      have hkb : k ≤ 40 := by have := HIl.out; omega
      clear hRx hEx hx' hpx hq hmx he0 hpe HVt
      generalize x'.gls d.regs = gl at *
      have hb6 : wr.cell? ⟨w.heap.size, 6, none⟩ = some (.slice (some ⟨eb, eoff, none⟩) en ec) := HBd.out.cell 6
      have hp1 : decide ((p : Int) < 0) = false := by simp
      have hp2 : decide ((en : Int) ≤ p) = false := by simp; omega
      have hp3 : decide (en ≤ p) = false := by simp; omega
      have hST := qc_stable gl
      go_upto_region 15 with fail
      clear hcell hb6
      refine wp_region_links [some 56, some 57, some 58, some 59, some 60, some 61, some 62, some 63, some 55, some 64, some 65, some 12, some 13] [[], [0], [], [2], [], [3, 4], [5], [1, 6], [7], [8], [8], [9, 7, 0, 1, 2, 3, 4, 5, 6, 7, 8, 9], [10, 11, 0, 1, 2, 3, 4, 5, 6, 7, 8, 9, 10, 11]] [7, 8, 9, 11] [.pointer (some ⟨w.heap.size, 5, none⟩), .slice ra nr rc, .pointer (some ⟨w.heap.size, 6, none⟩), .slice (some ⟨eb, eoff, none⟩) en ec, .int .i64 (p : Int), .pointer (some ⟨eb, eoff + p * 7, none⟩), .agg #[.int .i64 x'.id, .int .i64 x'.inn, .int .i64 x'.out, .string x'.region, .int .u8 x'.kind, .string x'.speaker, .slice A' n' c'], undef, undef, undef, .int .i64 0, undef, .int .i64 0] (QC [(fun v w => ∃ A c, v = .tuple #[.slice A gl.length c, .int .i64 0] ∧ GlsAt w A gl.length gl), (fun v w => ∃ A c, v = .tuple #[.slice A gl.length c, .int .i64 0] ∧ GlsAt w A gl.length gl), (fun v w => ∃ A c, v = .slice A gl.length c ∧ GlsAt w A gl.length gl), (fun v w => ∃ A c, v = .slice A gl.length c ∧ GlsAt w A gl.length gl)] wr) (by kernel_rfl) (by kernel_rfl) (by kernel_rfl) (by kernel_rfl) (by kernel_rfl) (by kernel_rfl) (by kernel_rfl) (by decide) ?_ ?_ ?_ ?_
      · exact QC.start _ wr
      · intro i o ho hc a w' us K' hJ hF hlim hk
        match i, ho with
        | 0, ho =>
          simp only [List.getElem?_toArray, List.getElem?_cons_zero, List.getElem?_cons_succ, Option.some.injEq] at ho
          subst ho
          have e2 := hF.old 2 (.pointer (some ⟨w.heap.size, 0, none⟩)) rfl rfl
          simp only [Act.eval] at e2
          clear hF hlim hJ
          go_simp
          exact hk
        | 1, ho =>
          simp only [List.getElem?_toArray, List.getElem?_cons_zero, List.getElem?_cons_succ, Option.some.injEq] at ho
          subst ho
          have e56 := hF.pure 0 56 (.pointer (some ⟨w.heap.size, 5, none⟩)) rfl rfl rfl rfl
          have hcl := (HBd.out.ext hJ.ext).cell 5
          simp only [Act.eval] at e56
          clear hF hlim hJ
          go_simp
          exact hk
        | 2, ho =>
          simp only [List.getElem?_toArray, List.getElem?_cons_zero, List.getElem?_cons_succ, Option.some.injEq] at ho
          subst ho
          have e2 := hF.old 2 (.pointer (some ⟨w.heap.size, 0, none⟩)) rfl rfl
          simp only [Act.eval] at e2
          clear hF hlim hJ
          go_simp
          exact hk
        | 3, ho =>
          simp only [List.getElem?_toArray, List.getElem?_cons_zero, List.getElem?_cons_succ, Option.some.injEq] at ho
          subst ho
          have e58 := hF.pure 2 58 (.pointer (some ⟨w.heap.size, 6, none⟩)) rfl rfl rfl rfl
          have hcl := (HBd.out.ext hJ.ext).cell 6
          simp only [Act.eval] at e58
          clear hF hlim hJ
          go_simp
          exact hk
        | 4, ho =>
          simp only [List.getElem?_toArray, List.getElem?_cons_zero, List.getElem?_cons_succ, Option.some.injEq] at ho
          subst ho
          have e11 := hF.old 11 (.int .i64 (p : Int)) rfl rfl
          simp only [Act.eval] at e11
          clear hF hlim hJ
          go_simp
          exact hk
        | 5, ho =>
          simp only [List.getElem?_toArray, List.getElem?_cons_zero, List.getElem?_cons_succ, Option.some.injEq] at ho
          subst ho
          have e59 := hF.pure 3 59 (.slice (some ⟨eb, eoff, none⟩) en ec) rfl rfl rfl rfl
          have e60 := hF.pure 4 60 (.int .i64 (p : Int)) rfl rfl rfl rfl
          simp only [Act.eval] at e59 e60
          clear hF hlim hJ
          go_simp
          exact hk
        | 6, ho =>
          simp only [List.getElem?_toArray, List.getElem?_cons_zero, List.getElem?_cons_succ, Option.some.injEq] at ho
          subst ho
          have e61 := hF.pure 5 61 (.pointer (some ⟨eb, eoff + p * 7, none⟩)) rfl rfl rfl rfl
          exact wp_load_mid 53 (.tmp 61) rfl eb (eoff + p * 7) e61 [.int .i64 x'.id, .int .i64 x'.inn, .int .i64 x'.out, .string x'.region, .int .u8 x'.kind, .string x'.speaker, .slice A' n' c'] _ (fun j v hv => hJ.ext.cell (HRx.out j v hv)) Tryz.underlying53 rfl (by exact size_evt) hk
        | 7, ho => simp at hc
        | 8, ho => simp at hc
        | 9, ho => simp at hc
        | 10, ho =>
          simp only [List.getElem?_toArray, List.getElem?_cons_zero, List.getElem?_cons_succ, Option.some.injEq] at ho
          subst ho
          obtain ⟨v55, hv55⟩ := getElem_ltq (hF.did 1 8 rfl rfl)
          have e55 := hF.link 1 8 55 _ rfl rfl rfl hv55
          obtain ⟨qa, qc, hq, _⟩ : (fun v w => ∃ A c, v = .tuple #[.slice A gl.length c, .int .i64 0] ∧ GlsAt w A gl.length gl) v55 w' := hJ.val 1 v55 _ hv55 rfl
          subst hq
          simp only [Act.eval] at e55
          clear hF hlim hJ
          go_simp
          exact hk
        | 11, ho => simp at hc
        | 12, ho =>
          simp only [List.getElem?_toArray, List.getElem?_cons_zero, List.getElem?_cons_succ, Option.some.injEq] at ho
          subst ho
          have e65 := hF.pure 10 65 (.int .i64 0) rfl rfl rfl rfl
          simp only [Act.eval] at e65
          clear hF hlim hJ
          go_simp
          exact hk
        | i + 13, ho => simp at ho
      · intro p c' o hp ho a w' us K' hl hJ hF hk
        match p, hp with
        | 0, hp =>
          obtain rfl : 7 = c' := by simpa using hp
          simp only [List.getElem?_toArray, List.getElem?_cons_zero, List.getElem?_cons_succ, Option.some.injEq] at ho
          subst ho
          obtain rfl : us = [] := List.eq_nil_of_length_eq_zero hl
          have e57 := hF.pure 1 57 (.slice ra nr rc) rfl rfl rfl rfl
          have e62 := hF.pure 6 62 (.agg #[.int .i64 x'.id, .int .i64 x'.inn, .int .i64 x'.out, .string x'.region, .int .u8 x'.kind, .string x'.speaker, .slice A' n' c']) rfl rfl rfl rfl
          exact wp_call2g rfl e57 e62 Tryz.call23 (HPl.out _ hJ.ext) (fun en w5 hp => by obtain ⟨qa, qc, rfl, h1, h3⟩ := hp; exact ⟨_, rfl, hk _ w5 (hJ.push hST h3 (fun p hp => by cases hp; exact ⟨qa, qc, rfl, h1⟩))⟩)
        | 1, hp =>
          obtain rfl : 8 = c' := by simpa using hp
          simp only [List.getElem?_toArray, List.getElem?_cons_zero, List.getElem?_cons_succ, Option.some.injEq] at ho
          subst ho
          obtain ⟨u0, rfl⟩ := list_1 hl
          have e63 := hF.link 0 7 63 _ rfl rfl rfl rfl
          obtain ⟨qa, qc, hu, hg⟩ : (fun v w => ∃ A c, v = .tuple #[.slice A gl.length c, .int .i64 0] ∧ GlsAt w A gl.length gl) u0 w' := hJ.val 0 u0 _ rfl rfl
          rw [hu] at e63
          have HK := Lib.hid (hk (.tuple #[.slice qa gl.length qc, .int .i64 0]) w' (hJ.push hST (Ext.refl _) (fun p hp => by cases hp; exact ⟨qa, qc, rfl, hg⟩)))
          simp only [Act.eval] at e63
          clear hk hF hJ hu hg
          go_simp
          exact HK.out
        | 2, hp =>
          obtain rfl : 9 = c' := by simpa using hp
          simp only [List.getElem?_toArray, List.getElem?_cons_zero, List.getElem?_cons_succ, Option.some.injEq] at ho
          subst ho
          obtain ⟨u0, u1, rfl⟩ := list_2 hl
          have e55 := hF.link 1 8 55 _ rfl rfl rfl rfl
          obtain ⟨qa, qc, hu, hg⟩ : (fun v w => ∃ A c, v = .tuple #[.slice A gl.length c, .int .i64 0] ∧ GlsAt w A gl.length gl) u1 w' := hJ.val 1 u1 _ rfl rfl
          rw [hu] at e55
          have HK := Lib.hid (hk (.slice qa gl.length qc) w' (hJ.push hST (Ext.refl _) (fun p hp => by cases hp; exact ⟨qa, qc, rfl, hg⟩)))
          simp only [Act.eval] at e55
          clear hk hF hJ hu hg
          go_simp
          exact HK.out
        | 3, hp =>
          obtain rfl : 11 = c' := by simpa using hp
          simp only [List.getElem?_toArray, List.getElem?_cons_zero, List.getElem?_cons_succ, Option.some.injEq] at ho
          subst ho
          obtain ⟨u0, u1, u2, rfl⟩ := list_3 hl
          have e64 := hF.link 2 9 64 _ rfl rfl rfl rfl
          obtain ⟨qa, qc, hu, hg⟩ : (fun v w => ∃ A c, v = .slice A gl.length c ∧ GlsAt w A gl.length gl) u2 w' := hJ.val 2 u2 _ rfl rfl
          rw [hu] at e64
          have HK := Lib.hid (hk (.slice qa gl.length qc) w' (hJ.push hST (Ext.refl _) (fun p hp => by cases hp; exact ⟨qa, qc, rfl, hg⟩)))
          simp only [Act.eval] at e64
          clear hk hF hJ hu hg
          go_simp
          exact HK.out
        | p + 4, hp => simp at hp
      intro us w7 hl hJ
      obtain ⟨u0, u1, u2, u3, rfl⟩ := list_4 hl
      first | (rename_i hK; refine hK _ _ ?_; clear hK) | (rename_i hK hK_1; refine hK _ _ ?_; clear hK) | (rename_i hK hK_1 hK_2; refine hK _ _ ?_; clear hK) | (rename_i hK hK_1 hK_2 hK_3; refine hK _ _ ?_; clear hK)
      generalize hL : frameL _ _ _ _ = L
      obtain rfl : L = [(56, .pointer (some ⟨w.heap.size, 5, none⟩)), (57, .slice ra nr rc), (58, .pointer (some ⟨w.heap.size, 6, none⟩)), (59, .slice (some ⟨eb, eoff, none⟩) en ec), (60, .int .i64 (p : Int)), (61, .pointer (some ⟨eb, eoff + p * 7, none⟩)), (62, .agg #[.int .i64 x'.id, .int .i64 x'.inn, .int .i64 x'.out, .string x'.region, .int .u8 x'.kind, .string x'.speaker, .slice A' n' c']), (63, u0), (55, u1), (64, u2), (65, .int .i64 0), (12, u3), (13, .int .i64 0)] := hL.symm.trans (by kernel_rfl)
      clear hL hl
      simp only [Act.put, List.foldl_cons, List.foldl_nil, List.setIfInBounds_toArray, List.set_cons_zero, List.set_cons_succ]
      obtain ⟨GA, gc, rfl, hgA⟩ : (fun v w => ∃ A c, v = .slice A gl.length c ∧ GlsAt w A gl.length gl) u3 w7 := hJ.val 3 u3 _ rfl rfl
      have HGA := Lib.hid hgA
      have HX7 := Lib.hid (HX.out.trans hJ.ext)
      have HG7 := Lib.hid (HGs.out.ext hJ.ext)
      clear hJ hgA hST HPl HRx HBd HGs HX
      go_wp2_with fail
      go_loopw [74] (fun i wq => ∃ j : Nat, j ≤ gl.length ∧ i = .int .i64 j ∧ Ext w7 wq) (fun i _ => gl.length - (intOf i).toNat)
      case atStart => exact ⟨0, Nat.zero_le _, rfl, Ext.refl _⟩
      case round =>
        obtain ⟨j, hj, rfl, hxq⟩ := hrel
        have HXq := Lib.hid hxq
        clear hxq
        by_cases hjn : j < gl.length
        · obtain ⟨gb, goff, y, rfl, hy, c0, c1, c2, c3, c4, c5⟩ := (HGA.out.ext HXq.out).at6 hjn
          have HYm := Lib.hid (HIn.out y (List.mem_of_getElem? hy))
          clear hy
          go_upto_region 22 with fail
          clear c0 c1 c2 c3 c4 c5
          have HBy := Lib.hid (Blk.new wr 58 #[.int .i64 y.row, .int .i64 y.col, .int .i32 y.ch, .int .u8 y.color, .bool y.italic, .bool y.under])
          have HXa := Lib.hid ((Ext.refl wr).alloc (.cells #[.int .i64 y.row, .int .i64 y.col, .int .i32 y.ch, .int .u8 y.color, .bool y.italic, .bool y.under] 58))
          generalize wr.alloc (.cells #[.int .i64 y.row, .int .i64 y.col, .int .i32 y.ch, .int .u8 y.color, .bool y.italic, .bool y.under] 58) = W6 at *
          generalize wr.heap.size = gy at *
          by_cases ho : os = []
          · have HHas := Lib.hid (Has32_any A1 sl.length c1 sl y W6 (HG7.out.ext (HXq.out.trans HXa.out)) (by have := HLn.out; omega))
            have hin : y ∈ sl := (HVa.out ho).2 y HYm.out
            rw [decide_eq_true hin] at HHas
            unfold Gl.aggV at HHas
            have hol : os.length = 0 := by rw [ho]; rfl
            have ho2 : ((os.length : Int) == 0) = true := by rw [hol]; rfl
            clear hin ho hol
            have hby := fun o => HBy.out.cell o
            go_wp2_with fail
            refine HHas.out.mono ?_
            rintro en8 w8 ⟨rfl, hx8⟩
            have HX8 := Lib.hid (HXq.out.trans (HXa.out.trans hx8))
            clear hx8 HHas
            go_wp2_with fail
            exact ⟨⟨j + 1, by omega, by go_num, HX8.out⟩, by simp [intOf]; omega⟩
          · have hol : 0 < os.length := List.length_pos_iff.2 ho
            have ho2 : ((os.length : Int) == 0) = false := by simp; omega
            clear ho
            go_wp2_with fail
            exact ⟨⟨j + 1, by omega, by go_num, HXq.out.trans HXa.out⟩, by simp [intOf]; omega⟩
        · have HXf := Lib.hid (HX7.out.trans HXq.out)
          go_wp2_with fail
          refine ⟨⟨k + 1, by omega, by go_num, ?_, HXf.out⟩, by simp [intOf]; omega⟩
          rw [HV.out, List.length_append]
          go_num
    · have hkk : is.take k = is := List.take_of_length_le (by omega)
      rw [hkk]
      have hvl := HVl.out
      have hvb : (visL d.evs d.regs is).length ≤ 19200 := by have h1 := HVb.out is; have h2 := HIl.out; omega
      have HXf := Lib.hid (HX5.out.trans HX.out)
      have hq1 : decide ((sl.length : Int) ≤ (visL d.evs d.regs is).length) = true := by simp; omega
      by_cases ho : os = []
      · have hol : os.length = 0 := by rw [ho]; rfl
        have hsl : sl.length = (visL d.evs d.regs is).length := (HVa.out ho).1
        have ho2 : decide ((0 : Int) < os.length) = false := by simp; exact ho
        have hq2 : ((sl.length : Int) == (visL d.evs d.regs is).length) = true := by simp; omega
        clear ho hkk
        go_wp2_with fail
        go_ret
        exact ⟨rfl, HXf.out⟩
      · have hol : 0 < os.length := List.length_pos_iff.2 ho
        have ho2 : decide ((0 : Int) < os.length) = true := by simp; omega
        clear ho hkk
        go_wp2_with fail
        go_ret
        exact ⟨rfl, HXf.out⟩
end Go.Proofs.YtajbhfmdmajpmaaGreatDoor

/-! LawChecks32 -/
namespace Go.Proofs.YtajbhfmdmajpmaaGreatDoor
set_option linter.unusedVariables false
set_option linter.unusedSimpArgs false
open Go.RowKit
set_option maxRecDepth 100000 in
set_option maxHeartbeats 4000000 in
theorem DisplayChecks_any (A : Option Addr) (n c : Nat) (l : List Gl) (B : Option Addr) (m c2 : Nat) (l2 : List Gl) (w : World) (hE : Env w) (h1 : GlsAt w A n l) (h2 : GlsAt w B m l2) :
    Calls Tryz.prog 8 #[.slice A n c, .slice B m c2] w fun en w' => en = .returned (.bool true) ∧ Ext w w' := by
  have HAw := Lib.hid (awake32_any w hE)
  have H1 := Lib.hid h1
  have H2 := Lib.hid h2
  clear hE h1 h2
  go_enter Tryz.func8, Tryz.ntmps8
  go_wp2_with fail
  refine HAw.out.mono ?_
  rintro en1 w1 ⟨rfl, hx1⟩
  have HX1 := Lib.hid hx1
  clear hx1 HAw
  by_cases hn : 600 < n
  · have hb : decide ((n : Int) > 600) = true := by simp; omega
    have hb2 : decide ((600 : Int) < n) = true := by simp; omega
    go_wp2_with fail
    go_ret
    exact ⟨rfl, HX1.out⟩
  by_cases hm : 600 < m
  · have hb : decide ((n : Int) > 600) = false := by simp; omega
    have hb2 : decide ((600 : Int) < n) = false := by simp; omega
    have hb3 : decide ((m : Int) > 600) = true := by simp; omega
    have hb4 : decide ((600 : Int) < m) = true := by simp; omega
    go_wp2_with fail
    go_ret
    exact ⟨rfl, HX1.out⟩
  have hb : decide ((n : Int) > 600) = false := by simp; omega
  have hb2 : decide ((600 : Int) < n) = false := by simp; omega
  have hb3 : decide ((m : Int) > 600) = false := by simp; omega
  have hb4 : decide ((600 : Int) < m) = false := by simp; omega
  have HC1 := Lib.hid (fun w' (hx : Ext w w') => GCheck_any A n c l w' (H1.out.ext hx) (by omega))
  have HC2 := Lib.hid (fun w' (hx : Ext w w') => R32Check_any A n c l w' (H1.out.ext hx) (by omega))
  have HQ1 := Lib.hid (fun w' (hx : Ext w w') => GSame_any A n c B m c2 l l2 w' (H1.out.ext hx) (H2.out.ext hx) (by omega))
  have HQ2 := Lib.hid (fun w' (hx : Ext w w') => R32Same_any A n c B m c2 l l2 w' (H1.out.ext hx) (H2.out.ext hx) (by omega))
  have HQ3 := Lib.hid (fun w' (hx : Ext w w') => GSame_any A n c A n c l l w' (H1.out.ext hx) (H1.out.ext hx) (by omega))
  generalize glsErr l = ge at *
  generalize decide (l = l2) = gb at *
  go_wp2_with fail
  refine (HC1.out _ HX1.out).mono ?_
  rintro en2 w2 ⟨rfl, hx2⟩
  have HX2 := Lib.hid (HX1.out.trans hx2)
  clear hx2
  go_wp2_with fail
  refine (HC2.out _ HX2.out).mono ?_
  rintro en3 w3 ⟨rfl, hx3⟩
  have HX3 := Lib.hid (HX2.out.trans hx3)
  clear hx3
  go_wp2_with fail
  refine (HQ1.out _ HX3.out).mono ?_
  rintro en4 w4 ⟨rfl, hx4⟩
  have HX4 := Lib.hid (HX3.out.trans hx4)
  clear hx4
  go_wp2_with fail
  refine (HQ2.out _ HX4.out).mono ?_
  rintro en5 w5 ⟨rfl, hx5⟩
  have HX5 := Lib.hid (HX4.out.trans hx5)
  clear hx5
  go_wp2_with fail
  refine (HQ3.out _ HX5.out).mono ?_
  rintro en6 w6 ⟨rfl, hx6⟩
  have HX6 := Lib.hid (HX5.out.trans hx6)
  clear hx6
  simp only [decide_true]
  go_wp2_with fail
  go_ret
  exact ⟨rfl, HX6.out⟩
end Go.Proofs.YtajbhfmdmajpmaaGreatDoor

/-! LawChanges32 -/
namespace Go.Proofs.YtajbhfmdmajpmaaGreatDoor
set_option linter.unusedVariables false
set_option linter.unusedSimpArgs false
open Go.RowKit
theorem shw_facts {d : Doc} (h : d.err = 0) {ps : List ShP} (hps : ps.map (·.1) = d.shw) :
    (∀ p ∈ ps, p.1.inn < p.1.out ∧ p.1.scr ≠ [] ∧ glsErr p.1.scr = 0) ∧ (∀ (j : Nat) (p q : ShP), ps[j]? = some q → ps[j + 1]? = some p → q.1.out ≤ p.1.inn ∧ ¬ (q.1.out = p.1.inn ∧ q.1.scr = p.1.scr)) := by
  have e : d.shw = d.shows := by unfold Doc.shw; rw [if_pos h]
  rw [e] at hps
  obtain ⟨f1, f2, f3, f4, f5, f6⟩ := doc_shows d
  refine ⟨fun p hp => ?_, fun j p q hq hp => ?_⟩
  · have hm : p.1 ∈ d.shows := by rw [← hps]; exact List.mem_map.2 ⟨p, hp, rfl⟩
    obtain ⟨f, hf⟩ := f6 p.1 hm
    exact ⟨f2 p.1 hm, f1 p.1 hm, by rw [hf]; exact scr_screen h f⟩
  · have h1 : d.shows[j]? = some q.1 := by rw [← hps, List.getElem?_map, hq]; rfl
    have h2 : d.shows[j + 1]? = some p.1 := by rw [← hps, List.getElem?_map, hp]; rfl
    refine ⟨?_, fun hh => f4 j q.1 p.1 h1 h2 hh⟩
    obtain ⟨k1, e1⟩ := List.getElem?_eq_some_iff.1 h1
    obtain ⟨k2, e2⟩ := List.getElem?_eq_some_iff.1 h2
    have := List.pairwise_iff_getElem.1 f3 j (j + 1) k1 k2 (by omega)
    rw [← e1, ← e2]
    exact this
set_option maxRecDepth 100000 in
set_option maxHeartbeats 8000000 in
theorem DisplayChanges_any (d : Doc) (h : DocH) (w : World) (hE : Env w) (hat : DocAt w d h) (hi : DocIn d h) :
    Calls Tryz.prog 9 #[.agg (d.cells h)] w fun en w' => en = .returned (.bool true) ∧ Ext w w' := by
  have HX0 : Hid (Ext w (w.alloc (.cells (d.cells h) 27))) := (Ext.refl w).alloc _
  have HB0 : Hid (Blk (w.alloc (.cells (d.cells h) 27)) w.heap.size 27 (d.cells h)) := Blk.new w _ _
  have HAw := Lib.hid (fun w' (hx : Ext w w') => awake32_any w' (hE.ext hx))
  have HSm := Lib.hid (fun w' => Small_any d h w')
  have HHi := Lib.hid hi
  have HEn := Lib.hid hE
  have HAt := Lib.hid hat
  have HSh := Lib.hid (fun w' (hx : Ext w w') => Shows_any d h w' (hE.ext hx) (hat.ext hx) hi.fit hi.rn hi.en hi.cn)
  have HLe := Lib.hid hat.evs.len
  clear hE hat hi
  obtain ⟨ra, nr, rc, ea, en, ec, ca, nc, cc⟩ := h
  unfold Doc.cells at *
  dsimp only at *
  go_enter Tryz.func9, Tryz.ntmps9
  go_wp2_with fail
  refine (HAw.out _ HX0.out).mono ?_
  rintro en1 w1 ⟨rfl, hx1⟩
  have HX1 := Lib.hid (HX0.out.trans hx1)
  have HB1 := Lib.hid (HB0.out.ext hx1)
  clear hx1 HX0 HB0 HAw
  go_wp2_with (refine wpList_loadB rfl 27 (.tmp 1) rfl w.heap.size 27 _ _ (by exact rfl) (by exact HB1.out) Tryz.underlying27 rfl (by exact size_docI) ?_)
  refine (HSm.out _).mono ?_
  rintro en2 w2 ⟨rfl, hx2⟩
  have HX2 := Lib.hid (HX1.out.trans hx2)
  have HB2 := Lib.hid (HB1.out.ext hx2)
  clear hx2 HX1 HB1 HSm
  by_cases hsm : en ≤ 40 ∧ nr ≤ 40 ∧ nc ≤ 100
  case neg =>
    rw [decide_eq_false hsm]
    clear hsm
    go_wp2_with fail
    go_ret
    exact ⟨rfl, HX2.out⟩
  rw [decide_eq_true hsm]
  have HSml := Lib.hid hsm
  clear hsm
  have HLw : Hid (d.shw.length ≤ 2000) := shw_len d (by have := HSml.out; have := HLe.out; omega)
  have HL4 := Lib.hid (shw_480 d)
  unfold ShowsPost at HSh
  go_wp2_with (refine wpList_loadB rfl 27 (.tmp 1) rfl w.heap.size 27 _ _ (by exact rfl) (by exact HB2.out) Tryz.underlying27 rfl (by exact size_docI) ?_)
  refine (HSh.out _ HX2.out).mono ?_
  rintro en3 w3 ⟨A1, c1, ps, rfl, hps, hS, hc1, hsc, hx3⟩
  have HPs := Lib.hid hps
  have hpl : ps.length = d.shw.length := by rw [← hps, List.length_map]
  have HX3 := Lib.hid (HX2.out.trans hx3)
  have HS := Lib.hid hS
  have HSc := Lib.hid hsc
  clear hps hS hsc hx3 HX2 HB2 HSh
  by_cases h0 : d.err = 0
  case neg =>
    have hne : (d.err != 0) = true := by simpa using h0
    have HN : Hid (d.shw = []) := by show _ = _; unfold Doc.shw; rw [if_neg h0]
    clear h0 hpl
    rw [HN.out]
    go_wp2_with fail
    go_ret
    exact ⟨rfl, HX3.out⟩
  have HF := Lib.hid (shw_facts h0 HPs.out)
  have HP4 : Hid (∀ p ∈ ps, p.1.scr.length ≤ 480) := fun p hp => HL4.out p.1 (by rw [← HPs.out]; exact List.mem_map.2 ⟨p, hp, rfl⟩)
  rw [h0]
  clear h0 HPs
  rw [← hpl] at HLw ⊢
  rw [← hpl] at HS
  clear hpl
  have hLw := HLw.out
  go_wp2_with fail
  go_loopw [24] (fun i wr => ∃ k : Nat, k ≤ ps.length ∧ i = .int .i64 k ∧ Ext w3 wr) (fun i _ => ps.length - (intOf i).toNat)
  case atStart => exact ⟨0, Nat.zero_le _, rfl, Ext.refl _⟩
  case round =>
    obtain ⟨k, hk, rfl, hx⟩ := hrel
    have HX := Lib.hid hx
    clear hx
    by_cases hlt : k < ps.length
    · obtain ⟨b, off, p, rfl, hp, hC⟩ := (Sl.ext (Cells.stays _) HS.out HX.out).at_ hlt
      have c0 : wr.cell? ⟨b, off + k * 3, none⟩ = some (.int .i64 p.1.inn) := by simpa using hC 0 _ rfl
      have c1 : wr.cell? ⟨b, off + k * 3 + 1, none⟩ = some (.int .i64 p.1.out) := hC 1 _ rfl
      have c2 : wr.cell? ⟨b, off + k * 3 + 2, none⟩ = some (.slice p.2.1 p.1.scr.length p.2.2) := hC 2 _ rfl
      have hmp := List.mem_of_getElem? hp
      obtain ⟨f1, f2, f3⟩ := HF.out.1 p hmp
      have HSp := Lib.hid ((HSc.out p hmp).gls.ext HX.out)
      have hpl := HP4.out p hmp
      have HMp := Lib.hid hp
      clear hC hp hmp
      have hb1 : decide (p.1.out ≤ p.1.inn) = false := by simp; omega
      have hb2 : (((p.1.scr.length : Nat) : Int) == 0) = false := by simp; exact f2
      have HCk := Lib.hid (fun w' (hx : Ext wr w') => GCheck_any p.2.1 p.1.scr.length p.2.2 p.1.scr w' (HSp.out.ext hx) (by omega))
      have hq := fun w' hx => HCk.out w' hx
      simp only [f3] at hq
      have HCk := Lib.hid hq
      clear hq f2 f3
      go_upto_region 11 with fail
      clear c0 c1 c2
      have HBs := Lib.hid (Blk.new wr 64 #[.int .i64 p.1.inn, .int .i64 p.1.out, .slice p.2.1 p.1.scr.length p.2.2])
      have HXa := Lib.hid ((Ext.refl wr).alloc (.cells #[.int .i64 p.1.inn, .int .i64 p.1.out, .slice p.2.1 p.1.scr.length p.2.2] 64))
      generalize wr.alloc (.cells #[.int .i64 p.1.inn, .int .i64 p.1.out, .slice p.2.1 p.1.scr.length p.2.2] 64) = W5 at *
      generalize wr.heap.size = gs at *
      have hs0 : W5.cell? ⟨gs, 0, none⟩ = some (.int .i64 p.1.inn) := HBs.out.cell 0
      have hs1 : W5.cell? ⟨gs, 1, none⟩ = some (.int .i64 p.1.out) := HBs.out.cell 1
      have hs2 : W5.cell? ⟨gs, 2, none⟩ = some (.slice p.2.1 p.1.scr.length p.2.2) := HBs.out.cell 2
      go_wp2_with fail
      refine (HCk.out _ HXa.out).mono ?_
      rintro en5 w5 ⟨rfl, hx5⟩
      have HX5 := Lib.hid (HX.out.trans (HXa.out.trans hx5))
      have HB5 := Lib.hid (HBs.out.ext hx5)
      have HSp5 := Lib.hid (HSp.out.ext (HXa.out.trans hx5))
      clear hs0 hs1 hs2 hx5 HBs HSp HXa HCk hb1 hb2
      go_upto_region 13 with fail
      cases k with
      | zero =>
        refine wp_region_ew w5 (Ext.refl _) (by kernel_rfl) (by kernel_rfl) ?_
        repeat (go_big_quiet_step (fail))
        refine wpQuiet_nil ?_
        rintro w6 ⟨⟨_, hx6⟩, rfl⟩
        try dsimp only
        have HX6 := Lib.hid (HX5.out.trans hx6)
        clear hx6 HX5
        go_wp2_with fail
        exact ⟨⟨1, by omega, by go_num, HX6.out⟩, by simp [intOf]; omega⟩
      | succ j =>
        obtain ⟨b2, off2, q, hA2, hqq, hC2⟩ := (Sl.ext (Cells.stays _) HS.out HX5.out).at_ (show j < ps.length by omega)
        cases hA2
        have c1 : w5.cell? ⟨b, off + j * 3 + 1, none⟩ = some (.int .i64 q.1.out) := hC2 1 _ rfl
        have c2 : w5.cell? ⟨b, off + j * 3 + 2, none⟩ = some (.slice q.2.1 q.1.scr.length q.2.2) := hC2 2 _ rfl
        have hmq := List.mem_of_getElem? hqq
        obtain ⟨g1, g2⟩ := HF.out.2 j p q hqq HMp.out
        have HSq := Lib.hid ((HSc.out q hmq).gls.ext HX5.out)
        have HSm := Lib.hid (fun w' (hx : Ext w5 w') => GSame_any p.2.1 p.1.scr.length p.2.2 q.2.1 q.1.scr.length q.2.2 p.1.scr q.1.scr w' (HSp5.out.ext hx) (HSq.out.ext hx) (by omega))
        clear hC2 hqq hmq
        have hr1 := fun (z : EW w5) => z.ext.cell c1
        have hr2 := fun (z : EW w5) => z.ext.cell c2
        have hr3 := fun (z : EW w5) (o : Nat) => (HB5.out.ext z.ext).cell o
        have hjb : j ≤ 2000 := by omega
        have hlj : j < ps.length := by omega
        have hn1 : decide (p.1.inn < q.1.out) = false := by simp; omega
        have hkj : ((j + 1 : Nat) : Int) - 1 = (j : Int) := by omega
        have hkj2 : (j : Int) + 1 - 1 = (j : Int) := by omega
        by_cases hio : p.1.inn = q.1.out
        · have hns : ¬ p.1.scr = q.1.scr := fun hh => g2 ⟨hio.symm, hh.symm⟩
          have hb4 : (p.1.inn == q.1.out) = true := by simpa using hio
          have hq := fun w' hx => HSm.out w' hx
          simp only [decide_eq_false hns] at hq
          have HSm := Lib.hid hq
          clear hq hns hio g1 g2 c1 c2
          refine wp_region_ew w5 (Ext.refl _) (by kernel_rfl) (by kernel_rfl) ?_
          repeat (go_big_quiet_step ((go_at_call 26; with_reducible exact EW.calls _ (HSm.out _ (EW.ext _)))))
          refine wpQuiet_nil ?_
          rintro w6 ⟨⟨_, hx6⟩, rfl⟩
          try dsimp only
          have HX6 := Lib.hid (HX5.out.trans hx6)
          clear hr1 hr2 hr3 hx6 HX5
          go_wp2_with fail
          exact ⟨⟨j + 1 + 1, by omega, by go_num, HX6.out⟩, by simp [intOf]; omega⟩
        · have hb4 : (p.1.inn == q.1.out) = false := by simpa using hio
          clear hio g1 g2 c1 c2
          refine wp_region_ew w5 (Ext.refl _) (by kernel_rfl) (by kernel_rfl) ?_
          repeat (go_big_quiet_step (fail))
          refine wpQuiet_nil ?_
          rintro w6 ⟨⟨_, hx6⟩, rfl⟩
          try dsimp only
          have HX6 := Lib.hid (HX5.out.trans hx6)
          clear hr1 hr2 hr3 hx6 HX5
          go_wp2_with fail
          exact ⟨⟨j + 1 + 1, by omega, by go_num, HX6.out⟩, by simp [intOf]; omega⟩
    · go_wp2_with fail
      go_ret
      exact ⟨rfl, HX3.out.trans HX.out⟩
end Go.Proofs.YtajbhfmdmajpmaaGreatDoor

/-! LawPlaces32 -/
namespace Go.Proofs.YtajbhfmdmajpmaaGreatDoor
set_option linter.unusedVariables false
set_option linter.unusedSimpArgs false
open Go.RowKit
theorem plc_ok (e : Ev) (regs : List Reg) (h : e.err regs = 0) : glsErr (e.plc regs) = 0 := by
  unfold Ev.plc
  rw [if_pos h]
  exact gls_screen h
set_option maxRecDepth 100000 in
set_option maxHeartbeats 4000000 in
theorem DisplayPlaces_any (A2 : Option Addr) (n2 c2 : Nat) (regs : List Reg) (e : Ev) (A : Option Addr) (n c : Nat) (w : World) (hE : Env w) (he : EvAt w e A n c) (hb : EvSmall e) (hby : e.bytes ≤ 1099511627776) (hr : RegsAt w A2 n2 regs) (hr2 : n2 ≤ 9223372036854775807) (hrs : RegsSmall regs) :
    Calls Tryz.prog 10 #[.slice A2 n2 c2, .agg (e.cells A n c)] w fun en w' => en = .returned (.bool true) ∧ Ext w w' := by
  have HAw := Lib.hid (fun w' (hx : Ext w w') => awake32_any w' (hE.ext hx))
  have HP1 := Lib.hid (fun w' (hx : Ext w w') => Place32_any e A n c A2 n2 c2 regs w' (hE.ext hx) (he.ext hx) hb (hr.ext hx) hr2 hrs)
  have HP2 := Lib.hid (fun w' (hx : Ext w w') => R32Place_any e A n c A2 n2 c2 regs w' (hE.ext hx) (he.ext hx) hb hby (hr.ext hx) hr2 hrs)
  have HX0 := Lib.hid ((Ext.refl w).alloc (.cells (e.cells A n c) 53))
  have HB0 := Lib.hid (Blk.new w 53 (e.cells A n c))
  have HLn := Lib.hid (plc_len e regs)
  have HOk := Lib.hid (plc_ok e regs)
  clear hE he hb hr hr2 hrs hby
  unfold Plc32Post at HP1 HP2
  unfold Ev.cells at *
  generalize e.plc regs = pl at *
  generalize e.err regs = pe at *
  go_enter Tryz.func10, Tryz.ntmps10
  go_wp2_with fail
  refine (HAw.out _ HX0.out).mono ?_
  rintro en1 w1 ⟨rfl, hx1⟩
  have HX1 := Lib.hid (HX0.out.trans hx1)
  have HB1 := Lib.hid (HB0.out.ext hx1)
  clear hx1 HAw HX0 HB0
  have hb5 : w1.cell? ⟨w.heap.size, 6, none⟩ = some (.slice A n c) := HB1.out.cell 6
  by_cases hn2 : 40 < n2
  · have hb : decide ((n2 : Int) > 40) = true := by simp; omega
    have hb2 : decide ((40 : Int) < n2) = true := by simp; omega
    go_wp2_with fail
    go_ret
    exact ⟨rfl, HX1.out⟩
  by_cases hn : 20 < n
  · have hb : decide ((n2 : Int) > 40) = false := by simp; omega
    have hb2 : decide ((40 : Int) < n2) = false := by simp; omega
    have hb3 : decide ((n : Int) > 20) = true := by simp; omega
    have hb4 : decide ((20 : Int) < n) = true := by simp; omega
    go_wp2_with fail
    go_ret
    exact ⟨rfl, HX1.out⟩
  have hb : decide ((n2 : Int) > 40) = false := by simp; omega
  have hb2 : decide ((40 : Int) < n2) = false := by simp; omega
  have hb3 : decide ((n : Int) > 20) = false := by simp; omega
  have hb4 : decide ((20 : Int) < n) = false := by simp; omega
  go_wp2_with (refine wpList_loadB rfl 53 (.tmp 3) rfl w.heap.size 53 _ _ (by exact rfl) (by exact HB1.out) Tryz.underlying53 rfl (by exact size_evt) ?_)
  refine (HP1.out _ HX1.out).mono ?_
  rintro en2 w2 ⟨GA, gc, rfl, hg, hx2⟩
  have HG := Lib.hid hg
  have HX2 := Lib.hid (HX1.out.trans hx2)
  have HB2 := Lib.hid (HB1.out.ext hx2)
  clear hg hx2 HX1 HB1 hb5
  go_wp2_with (refine wpList_loadB rfl 53 (.tmp 3) rfl w.heap.size 53 _ _ (by exact rfl) (by exact HB2.out) Tryz.underlying53 rfl (by exact size_evt) ?_)
  refine (HP2.out _ HX2.out).mono ?_
  rintro en3 w3 ⟨GB, gd, rfl, hg, hx3⟩
  have HX3 := Lib.hid (HX2.out.trans hx3)
  have HG3 := Lib.hid (HG.out.ext hx3)
  have HSame := Lib.hid (R32Same_any GA pl.length gc GB pl.length gd pl pl w3 (HG.out.ext hx3) hg (by have := HLn.out; omega))
  clear hg hx3 HX2 HB2 HG
  go_wp2_with fail
  refine HSame.out.mono ?_
  rintro en4 w4 ⟨rfl, hx4⟩
  have HX4 := Lib.hid (HX3.out.trans hx4)
  have HC := Lib.hid (GCheck_any GA pl.length gc pl w4 (HG3.out.ext hx4) (by have := HLn.out; omega))
  clear hx4 HX3 HSame
  simp only [decide_true]
  by_cases h0 : pe = 0
  · have HO := Lib.hid (HOk.out h0)
    rw [h0]
    clear h0
    go_wp2_with fail
    refine HC.out.mono ?_
    rintro en5 w5 ⟨rfl, hx5⟩
    have HX5 := Lib.hid (HX4.out.trans hx5)
    clear hx5
    rw [HO.out]
    go_wp2_with fail
    go_ret
    exact ⟨rfl, HX5.out⟩
  · have hne : (pe != 0) = true := by simpa using h0
    clear h0
    go_wp2_with fail
    go_ret
    exact ⟨rfl, HX4.out⟩
end Go.Proofs.YtajbhfmdmajpmaaGreatDoor
