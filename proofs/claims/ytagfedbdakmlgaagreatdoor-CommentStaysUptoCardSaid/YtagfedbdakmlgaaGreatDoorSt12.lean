/- Laid together: The walks of comment.find and comment.Quoted. The walk of comment.Move. The walk of the law package's awake: the chapter's example. -/
import Derived.Test.YtagfedbdakmlgaaGreatDoorSt11
import Derived.Test.YtagfedbdakmlgaaGreatDoorSt05
import Derived.Test.YtagfedbdakmlgaaGreatDoorSt10

/-! QuoteD -/
namespace Go.Proofs.YtagfedbdakmlgaaGreatDoor
set_option linter.unusedVariables false
set_option linter.unusedSimpArgs false
open Go.RowKit
set_option maxRecDepth 100000 in
set_option maxHeartbeats 2000000 in
theorem cfind_any (d : Doc) (h : DocH) (id : Int) (w : World) (hE : Env w) (hat : DocAt w d h) (hf : DocFit d) (hrn : h.rn ≤ 9223372036854775807) (hn : h.en ≤ 1000000) (hcn : h.cn ≤ 1000000) :
    Calls Tryz.prog 83 #[.agg (d.cells h), .int .i64 id] w fun en w' => en = .returned (.tuple #[.int .i64 (d.cfIdx id), .int .i64 (d.cfErr id)]) ∧ Ext w w' := by
  have HX := Lib.hid ((Ext.refl w).alloc (.cells (d.cells h) 27))
  have HB := Lib.hid (Blk.new w 27 (d.cells h))
  have HCk := Lib.hid (fun w' (hx : Ext w w') => DCheck_any d h w' (hE.ext hx) (hat.ext hx) hf hrn hn (by omega))
  have HFd := Lib.hid (fun w' (hx : Ext w w') => CFind_any d h id w' (hat.coms.ext hx) (by omega))
  clear hat hE hf
  unfold Doc.cells at *
  go_enter Tryz.func83, Tryz.ntmps83
  go_wp2_with (refine wpList_loadB rfl 27 (.tmp 2) rfl w.heap.size 27 _ _ (by exact rfl) (by exact HB.out) Tryz.underlying27 rfl (by exact size_docI) ?_)
  refine (HCk.out _ HX.out).mono ?_
  rintro en w_1 ⟨rfl, hx_2⟩
  have HX_3 := Lib.hid (HX.out.trans hx_2)
  have HB_4 := Lib.hid (HB.out.ext hx_2)
  clear hx_2 HX HB
  by_cases h1 : d.err = 0
  case neg =>
    have hne : (d.err != 0) = true := by simpa using h1
    have HE1 : Hid (d.cfErr id = d.err) := by show _ = _; unfold Doc.cfErr; rw [if_pos h1]
    have HE2 : Hid (d.cfIdx id = 0) := by show _ = _; unfold Doc.cfIdx; rw [if_neg (by rw [HE1.out]; exact h1)]
    clear h1
    go_wp2_with fail
    go_ret2
    exact ⟨by rw [HE1.out, HE2.out]; rfl, HX_3.out⟩
  have H1 := Lib.hid h1
  rw [h1]
  clear h1
  go_wp2_with (refine wpList_loadB rfl 27 (.tmp 2) rfl w.heap.size 27 _ _ (by exact rfl) (by exact HB_4.out) Tryz.underlying27 rfl (by exact size_docI) ?_)
  refine (HFd.out _ HX_3.out).mono ?_
  rintro en w_5 ⟨rfl, hx_6⟩
  have HX_7 := Lib.hid (HX_3.out.trans hx_6)
  have HB_8 := Lib.hid (HB_4.out.ext hx_6)
  clear hx_6 HX_3 HB_4
  by_cases h2 : findCI d.coms id < 0
  · have HE1 : Hid (d.cfErr id = 6) := by show _ = _; unfold Doc.cfErr; rw [if_neg (by rw [H1.out]; decide), if_pos h2]
    have HE2 : Hid (d.cfIdx id = 0) := by show _ = _; unfold Doc.cfIdx; rw [if_neg (by rw [HE1.out]; decide)]
    go_wp2_with fail
    go_ret2
    exact ⟨by rw [HE1.out, HE2.out]; rfl, HX_7.out⟩
  have HE1 : Hid (d.cfErr id = 0) := by show _ = _; unfold Doc.cfErr; rw [if_neg (by rw [H1.out]; decide), if_neg h2]
  have HE2 : Hid (d.cfIdx id = findCI d.coms id) := by show _ = _; unfold Doc.cfIdx; rw [if_pos HE1.out]
  go_wp2_with fail
  go_ret2
  exact ⟨by rw [HE1.out, HE2.out]; rfl, HX_7.out⟩
def QtRel (W : World) (fr til : Int) (l : List Int) (n : Nat) (v i : Value) (wr : World) : Prop := ∃ k : Nat, k ≤ n ∧ v = .string (quoteT fr til (l.take k)) ∧ i = .int .i64 k ∧ Ext W wr
theorem text_size (e : Ev) {n : Nat} (h : e.bytes ≤ 1099511627776) (hn : n * 24 ≤ 140737488355328) (hl : e.rows.length = n) : (⟨e.text.toArray⟩ : ByteArray).size ≤ 35184372088831 := by
  have h1 := join_len [10] (e.rows.map rowText)
  have h2 : ((e.rows.map rowText).map List.length) = e.rows.map rowBytes := by
    rw [List.map_map]
    apply List.map_congr_left
    intro r _
    exact rowText_len r
  have h3 : (⟨e.text.toArray⟩ : ByteArray).size = e.text.length := rfl
  rw [h2] at h1
  unfold Ev.bytes at h
  rw [h3]
  unfold Ev.text
  simp only [List.length_map, List.length_singleton, Nat.mul_one] at h1
  omega
set_option maxRecDepth 100000 in
set_option maxHeartbeats 8000000 in
theorem Quoted_any (d : Doc) (h : DocH) (id : Int) (w : World) (hE : Env w) (hat : DocAt w d h) (hf : DocFit d) (hrn : h.rn ≤ 9223372036854775807) (hn : h.en ≤ 1000000) (hcn : h.cn ≤ 1000000) :
    Calls Tryz.prog 25 #[.agg (d.cells h), .int .i64 id] w fun en w' => en = .returned (.tuple #[.string (d.quX id).1, .int .i64 (d.quX id).2]) ∧ Ext w w' := by
  have HX := Lib.hid ((Ext.refl w).alloc (.cells (d.cells h) 27))
  have HB := Lib.hid (Blk.new w 27 (d.cells h))
  have HCf := Lib.hid (fun w' (hx : Ext w w') => cfind_any d h id w' (hE.ext hx) (hat.ext hx) hf hrn hn hcn)
  have HFd := Lib.hid (fun w' (hx : Ext w w') ev => DFind_any d h ev w' (hat.evs.ext hx) (by omega))
  have HEv := Lib.hid hat.evs
  have HCo := Lib.hid hat.coms
  have HSm := Lib.hid hf.evs
  have HEl := Lib.hid hat.evs.len
  have HCl := Lib.hid hat.coms.len
  clear hat hE hf
  obtain ⟨hra, nr, hrc, hea, hen, hec, hca, nc, hcc⟩ := h
  unfold Doc.cells at *
  dsimp only at *
  go_enter Tryz.func25, Tryz.ntmps25
  go_wp2_with (refine wpList_loadB rfl 27 (.tmp 2) rfl w.heap.size 27 _ _ (by exact rfl) (by exact HB.out) Tryz.underlying27 rfl (by exact size_docI) ?_)
  refine (HCf.out _ HX.out).mono ?_
  rintro en w_9 ⟨rfl, hx_10⟩
  have HX_11 := Lib.hid (HX.out.trans hx_10)
  have HB_12 := Lib.hid (HB.out.ext hx_10)
  clear hx_10 HX HB
  by_cases h1 : d.err = 0
  case neg =>
    have HE1 : Hid (d.cfErr id = d.err) := by show _ = _; unfold Doc.cfErr; rw [if_pos h1]
    have HQ := Lib.hid (qu_1 (id := id) h1)
    rw [HE1.out]
    have hne : (d.err != 0) = true := by simpa using h1
    clear h1
    go_wp2_with fail
    go_ret2
    exact ⟨by rw [HQ.out]; rfl, HX_11.out⟩
  have H1 := Lib.hid h1
  clear h1
  cases hfc : findC d.coms id with
  | none =>
      have HE1 : Hid (d.cfErr id = 6) := by show _ = _; unfold Doc.cfErr findCI; rw [if_neg (by rw [H1.out]; decide), hfc]; rfl
      have HQ := Lib.hid (qu_2 H1.out hfc)
      rw [HE1.out]
      clear hfc
      go_wp2_with fail
      go_ret2
      exact ⟨by rw [HQ.out]; rfl, HX_11.out⟩
  | some k =>
      have HE1 : Hid (d.cfErr id = 0) := by show _ = _; unfold Doc.cfErr findCI; rw [if_neg (by rw [H1.out]; decide), hfc]; simp only; rw [if_neg (by omega)]
      have HE2 : Hid (d.cfIdx id = (k : Int)) := by show _ = _; unfold Doc.cfIdx findCI; rw [if_pos HE1.out, hfc]
      have hkn : k < nc := by have := (List.findIdx?_eq_some_iff_getElem.1 hfc).1; have := HCl.out; omega
      have HFc := Lib.hid hfc
      rw [HE1.out, HE2.out]
      clear hfc
      obtain ⟨cb, coff, c, rfl, hcc', c0, c1, c2, c3, c4, c5, c6, c7⟩ := (HCo.out.ext HX_11.out).at8 hkn
      have HCc := Lib.hid hcc'
      clear hcc'
      have hcd0 := fun o => HB_12.out.cell o
      have HB_13 := Lib.hid (Blk.new w_9 78 #[.int .i64 c.id, .int .i64 c.ev, .int .i64 c.fr, .int .i64 c.til, .string c.author, .string c.text, .bool c.done, .bool c.lost])
      have ha_14 := (Ext.refl w_9).alloc (.cells #[.int .i64 c.id, .int .i64 c.ev, .int .i64 c.fr, .int .i64 c.til, .string c.author, .string c.text, .bool c.done, .bool c.lost] 78)
      have HX_15 := Lib.hid (HX_11.out.trans ha_14)
      have HB_16 := Lib.hid (HB_12.out.ext ha_14)
      clear ha_14 HX_11 HB_12
      cases hlo : c.lost
      case true =>
        have HQ := Lib.hid (qu_3 H1.out HFc.out HCc.out hlo)
        rw [hlo] at c7 HB_13 HB_16 HX_15
        have HLo := Lib.hid hlo
        clear hlo
        have hc_17 := fun o => HB_16.out.cell o
        have hc_18 := fun o => HB_13.out.cell o
        go_wp2_with fail
        clear hc_17 hc_18
        go_ret2
        exact ⟨by rw [HQ.out]; rfl, HX_15.out⟩
      obtain ⟨m, x, hfe, hxe, hfr, htl, -⟩ := com_anchor H1.out HCc.out hlo
      have HQ := Lib.hid (qu_4 H1.out HFc.out HCc.out hlo hfe hxe)
      have hmn : m < hen := by have := (List.getElem?_eq_some_iff.1 hxe).1; have := HEl.out; omega
      have hfi : findI d.evs c.ev = (m : Int) := by unfold findI; rw [hfe]
      have HFv := Lib.hid (fun w' hx => by have := HFd.out w' hx c.ev; rwa [hfi] at this : ∀ w', Ext w w' → Calls Tryz.prog 38 #[.agg #[.string d.title, .string d.lang, .int .u8 d.rate, .bool d.drop, .int .i64 d.last, .slice hra nr hrc, .slice hea hen hec, .slice (some ⟨cb, coff, none⟩) nc hcc], .int .i64 c.ev] w' fun e w'' => e = .returned (.int .i64 (m : Int)) ∧ Ext w' w'')
      clear hfi hfe
      rw [hlo] at c7 HB_13 HB_16 HX_15
      have HLo := Lib.hid hlo
      clear hlo
      have hc_19 := fun o => HB_16.out.cell o
      have hc_20 := fun o => HB_13.out.cell o
      go_wp2_with fail
      clear hc_19 hc_20
      clear c0 c1 c2 c3 c4 c5 c6 c7 hcd0
      obtain ⟨gC, hgC⟩ : ∃ gC, gC = w_9.heap.size := ⟨_, rfl⟩
      rw [← hgC]
      rw [← hgC] at HB_13
      generalize hWg : (w_9.alloc (.cells #[.int .i64 c.id, .int .i64 c.ev, .int .i64 c.fr, .int .i64 c.til, .string c.author, .string c.text, .bool c.done, .bool false] 78)) = W1 at *
      clear hWg hgC
      obtain ⟨eb, eoff, x', heA, hx', A', n', c', hcx, hxat⟩ := (HEv.out.ext HX_15.out).at_ hmn
      obtain rfl : x' = x := by rw [hxe] at hx'; exact (Option.some.inj hx').symm
      subst heA
      have hsx := HSm.out x' (List.mem_of_getElem? hxe)
      have HPl := Lib.hid (fun w' (hx : Ext W1 w') => EPlain_any x' A' n' c' w' (hxat.ext hx) hsx.2)
      have htx : (⟨x'.text.toArray⟩ : ByteArray).size ≤ 35184372088831 := text_size x' hsx.2 hxat.2.2 hxat.1.len
      have HRu := Lib.hid (fun w' => CRunes_any ⟨x'.text.toArray⟩ w' htx)
      have hL9 := runes_len ⟨x'.text.toArray⟩
      have HCx := Lib.hid hcx
      generalize hT : (⟨x'.text.toArray⟩ : ByteArray) = T at *
      clear hT hcx hxat hsx hx' hxe
      unfold Ev.cells at HPl
      unfold RunesPost at HRu
      have hST : QSt [fun u _ => u = Value.int .i64 (m : Int), fun u _ => u = .string T, fun u w => ∃ A c, u = .slice A (runes T 0).length c ∧ RunesAt w A (runes T 0).length (runes T 0) ∧ (runes T 0).length ≤ c, fun u _ => u = .int .i64 ((runes T 0).length : Int)] := by
        intro p hp u w w' hx h
        simp only [List.mem_cons, List.not_mem_nil, or_false] at hp
        rcases hp with rfl | rfl | rfl | rfl
        · exact h
        · exact h
        · obtain ⟨A, c, h1, h2, h3⟩ := h; exact ⟨A, c, h1, h2.ext hx, h3⟩
        · exact h
      refine wp_region_links [some 28, some 29, some 30, some 31, some 32, some 33, some 34, some 35, some 36, some 37, some 38, some 39] [[], [0], [], [], [3], [2, 4], [1, 5], [6], [7, 5], [8, 8], [9], []] [5, 8, 9, 10] [.pointer (some ⟨w.heap.size, 6, none⟩), .slice (some ⟨eb, eoff, none⟩) hen hec, .agg #[.string d.title, .string d.lang, .int .u8 d.rate, .bool d.drop, .int .i64 d.last, .slice hra nr hrc, .slice (some ⟨eb, eoff, none⟩) hen hec, .slice (some ⟨cb, coff, none⟩) nc hcc], .pointer (some ⟨gC, 1, none⟩), .int .i64 c.ev, undef, .pointer (some ⟨eb, eoff + m * 7, none⟩), .agg #[.int .i64 x'.id, .int .i64 x'.inn, .int .i64 x'.out, .string x'.region, .int .u8 x'.kind, .string x'.speaker, .slice A' n' c'], undef, undef, undef, .int .i64 0] (QJ [fun u _ => u = Value.int .i64 (m : Int), fun u _ => u = .string T, fun u w => ∃ A c, u = .slice A (runes T 0).length c ∧ RunesAt w A (runes T 0).length (runes T 0) ∧ (runes T 0).length ≤ c, fun u _ => u = .int .i64 ((runes T 0).length : Int)] W1) (by kernel_rfl) (by kernel_rfl) (by kernel_rfl) (by kernel_rfl) (by kernel_rfl) (by kernel_rfl) (by kernel_rfl) (by decide) ?_ ?_ ?_ ?_
      · exact QJ.start _ W1
      · intro i o ho hc a w' us K' hJ hF hlim hk
        match i, ho with
        | 0, ho =>
          simp only [List.getElem?_toArray, List.getElem?_cons_zero, List.getElem?_cons_succ, Option.some.injEq] at ho
          subst ho
          have e2 := hF.old 2 (.pointer (some ⟨w.heap.size, 0, none⟩)) rfl rfl
          simp only [Act.eval] at e2
          clear hF hlim hJ
          go_simp
          exact hk
        | 1, ho =>
          simp only [List.getElem?_toArray, List.getElem?_cons_zero, List.getElem?_cons_succ, Option.some.injEq] at ho
          subst ho
          have e28 := hF.pure 0 28 (.pointer (some ⟨w.heap.size, 6, none⟩)) rfl rfl rfl rfl
          have hcl : w'.cell? ⟨w.heap.size, 6, none⟩ = some (.slice (some ⟨eb, eoff, none⟩) hen hec) := (HB_16.out.ext hJ.ext).cell 6
          simp only [Act.eval] at e28
          clear hF hlim hJ
          go_simp
          exact hk
        | 2, ho =>
          simp only [List.getElem?_toArray, List.getElem?_cons_zero, List.getElem?_cons_succ, Option.some.injEq] at ho
          subst ho
          have e2 := hF.old 2 (.pointer (some ⟨w.heap.size, 0, none⟩)) rfl rfl
          exact wp_loadBk 27 (.tmp 2) rfl _ 27 _ _ e2 (HB_16.out.ext hJ.ext) Tryz.underlying27 rfl (by exact size_docI) hk
        | 3, ho =>
          simp only [List.getElem?_toArray, List.getElem?_cons_zero, List.getElem?_cons_succ, Option.some.injEq] at ho
          subst ho
          have e8 := hF.old 8 (.pointer (some ⟨gC, 0, none⟩)) rfl rfl
          simp only [Act.eval] at e8
          clear hF hlim hJ
          go_simp
          exact hk
        | 4, ho =>
          simp only [List.getElem?_toArray, List.getElem?_cons_zero, List.getElem?_cons_succ, Option.some.injEq] at ho
          subst ho
          have e31 := hF.pure 3 31 (.pointer (some ⟨gC, 1, none⟩)) rfl rfl rfl rfl
          have hcl : w'.cell? ⟨gC, 1, none⟩ = some (.int .i64 c.ev) := (HB_13.out.ext hJ.ext).cell 1
          simp only [Act.eval] at e31
          clear hF hlim hJ
          go_simp
          exact hk
        | 5, ho => simp at hc
        | 6, ho =>
          simp only [List.getElem?_toArray, List.getElem?_cons_zero, List.getElem?_cons_succ, Option.some.injEq] at ho
          subst ho
          have e29 := hF.pure 1 29 (.slice (some ⟨eb, eoff, none⟩) hen hec) rfl rfl rfl rfl
          obtain ⟨v33, hv33⟩ := getElem_ltq (hF.did 0 5 rfl rfl)
          have e33 := hF.link 0 5 33 _ rfl rfl rfl hv33
          have hu0 : v33 = .int .i64 (m : Int) := hJ.val 0 v33 _ hv33 rfl
          rw [hu0] at e33
          exact wp_ix_ev rfl e29 e33 (by omega) hk
        | 7, ho =>
          simp only [List.getElem?_toArray, List.getElem?_cons_zero, List.getElem?_cons_succ, Option.some.injEq] at ho
          subst ho
          have e34 := hF.pure 6 34 (.pointer (some ⟨eb, eoff + m * 7, none⟩)) rfl rfl rfl rfl
          exact wp_load_ev rfl eb _ x' A' n' c' e34 (fun j u hu => hJ.ext.cell (HCx.out j u hu)) hk
        | 8, ho => simp at hc
        | 9, ho => simp at hc
        | 10, ho => simp at hc
        | 11, ho =>
          simp only [List.getElem?_toArray, List.getElem?_cons_zero, List.getElem?_cons_succ, Option.some.injEq] at ho
          subst ho
          clear hF hlim hJ
          go_simp
          exact hk
        | i + 12, ho => simp at ho
      · intro p c' o hp ho a w' us K' hl hJ hF hk
        match p, hp with
        | 0, hp =>
          obtain rfl : 5 = c' := by simpa using hp
          simp only [List.getElem?_toArray, List.getElem?_cons_zero, List.getElem?_cons_succ, Option.some.injEq] at ho
          subst ho
          obtain rfl : us = [] := List.eq_nil_of_length_eq_zero hl
          have e30 := hF.pure 2 30 (.agg #[.string d.title, .string d.lang, .int .u8 d.rate, .bool d.drop, .int .i64 d.last, .slice hra nr hrc, .slice (some ⟨eb, eoff, none⟩) hen hec, .slice (some ⟨cb, coff, none⟩) nc hcc]) rfl rfl rfl rfl
          have e32 := hF.pure 4 32 (.int .i64 c.ev) rfl rfl rfl rfl
          exact wp_call2 rfl e30 e32 Tryz.call38 (HFv.out w' (HX_15.out.trans hJ.ext)) (fun w2 hx2 => hk _ w2 (hJ.push hST hx2 (fun p hp => by cases hp; rfl)))
        | 1, hp =>
          obtain rfl : 8 = c' := by simpa using hp
          simp only [List.getElem?_toArray, List.getElem?_cons_zero, List.getElem?_cons_succ, Option.some.injEq] at ho
          subst ho
          obtain ⟨u0, rfl⟩ := list_1 hl
          have e35 := hF.pure 7 35 (.agg #[.int .i64 x'.id, .int .i64 x'.inn, .int .i64 x'.out, .string x'.region, .int .u8 x'.kind, .string x'.speaker, .slice A' n' c']) rfl rfl rfl rfl
          exact wp_call1s rfl e35 Tryz.call86 (HPl.out w' hJ.ext) (fun w2 hx2 => hk _ w2 (hJ.push hST hx2 (fun p hp => by cases hp; rfl)))
        | 2, hp =>
          obtain rfl : 9 = c' := by simpa using hp
          simp only [List.getElem?_toArray, List.getElem?_cons_zero, List.getElem?_cons_succ, Option.some.injEq] at ho
          subst ho
          obtain ⟨u0, u1, rfl⟩ := list_2 hl
          have e36 := hF.link 1 8 36 _ rfl rfl rfl rfl
          have hu1 : u1 = .string T := hJ.val 1 u1 _ rfl rfl
          rw [hu1] at e36
          refine wp_call1 rfl e36 Tryz.call85 (HRu.out w') ?_
          rintro en w2 ⟨A9, n9, c9, rfl, hat9, hc9, hx9⟩
          have hn9 : (runes T 0).length = n9 := hat9.len
          subst hn9
          exact ⟨_, rfl, hk _ w2 (hJ.push hST hx9 (fun p hp => by cases hp; exact ⟨A9, c9, rfl, hat9, hc9⟩))⟩
        | 3, hp =>
          obtain rfl : 10 = c' := by simpa using hp
          simp only [List.getElem?_toArray, List.getElem?_cons_zero, List.getElem?_cons_succ, Option.some.injEq] at ho
          subst ho
          obtain ⟨u0, u1, u2, rfl⟩ := list_3 hl
          have e37 := hF.link 2 9 37 _ rfl rfl rfl rfl
          obtain ⟨A9, c9, hu2, hat9, hc9⟩ : ∃ A c, u2 = .slice A (runes T 0).length c ∧ RunesAt w' A (runes T 0).length (runes T 0) ∧ (runes T 0).length ≤ c := hJ.val 2 u2 _ rfl rfl
          rw [hu2] at e37
          simp only [Act.eval] at e37
          have HK := Lib.hid (hk (.int .i64 ((runes T 0).length : Int)) w' (hJ.push hST (Ext.refl _) (fun p hp => by cases hp; rfl)))
          clear hk hF hJ hu2
          go_simp
          exact HK.out
        | p + 4, hp => simp at hp
      intro us w9 hl hJ
      obtain ⟨u0, u1, u2, u3, rfl⟩ := list_4 hl
      first | (rename_i hK; refine hK _ _ ?_; clear hK) | (rename_i hK hK_1; refine hK _ _ ?_; clear hK) | (rename_i hK hK_1 hK_2; refine hK _ _ ?_; clear hK) | (rename_i hK hK_1 hK_2 hK_3; refine hK _ _ ?_; clear hK)
      generalize hL : frameL _ _ _ _ = L
      obtain rfl : L = [(28, .pointer (some ⟨w.heap.size, 6, none⟩)), (29, .slice (some ⟨eb, eoff, none⟩) hen hec), (30, .agg #[.string d.title, .string d.lang, .int .u8 d.rate, .bool d.drop, .int .i64 d.last, .slice hra nr hrc, .slice (some ⟨eb, eoff, none⟩) hen hec, .slice (some ⟨cb, coff, none⟩) nc hcc]), (31, .pointer (some ⟨gC, 1, none⟩)), (32, .int .i64 c.ev), (33, u0), (34, .pointer (some ⟨eb, eoff + m * 7, none⟩)), (35, .agg #[.int .i64 x'.id, .int .i64 x'.inn, .int .i64 x'.out, .string x'.region, .int .u8 x'.kind, .string x'.speaker, .slice A' n' c']), (36, u1), (37, u2), (38, u3), (39, .int .i64 0)] := hL.symm.trans (by kernel_rfl)
      clear hL hl
      simp only [Act.put, List.foldl_cons, List.foldl_nil, List.setIfInBounds_toArray, List.set_cons_zero, List.set_cons_succ]
      obtain ⟨A9, c9, hu2, hat9, hc9⟩ : ∃ A c, u2 = .slice A (runes T 0).length c ∧ RunesAt w9 A (runes T 0).length (runes T 0) ∧ (runes T 0).length ≤ c := hJ.val 2 u2 _ rfl rfl
      have hu3 : u3 = .int .i64 ((runes T 0).length : Int) := hJ.val 3 u3 _ rfl rfl
      subst hu2 hu3
      have HX9 := Lib.hid (HX_15.out.trans hJ.ext)
      have HBc9 := Lib.hid (HB_13.out.ext hJ.ext)
      have HRt := Lib.hid hat9
      have HQt := Lib.hid (quoteT_size c.fr c.til (runes T 0))
      have hLs : (runes T 0).length ≤ 35184372088831 := by omega
      generalize hLn : runes T 0 = l at *
      obtain ⟨n, hn9⟩ : ∃ n, n = l.length := ⟨_, rfl⟩
      have HRt2 : Hid (RunesAt w9 A9 n l) := by show RunesAt _ _ _ _; rw [hn9]; exact HRt.out
      have hLs2 : n ≤ 35184372088831 := by omega
      have HLn := Lib.hid hn9
      rw [← hn9]
      clear HRt hLs hJ hat9 hLn hn9 hST HPl HRu HCx
      go_wp2_with fail
      go_loopw [9, 39] (fun v i wr => QtRel w9 c.fr c.til l n v i wr) (fun _ i _ => n - (intOf i).toNat)
      case atStart => exact ⟨0, Nat.zero_le _, rfl, rfl, Ext.refl _⟩
      case round =>
        obtain ⟨j, hj, rfl, rfl, hx⟩ := hrel
        have HXj := Lib.hid hx
        have HBj := Lib.hid (HBc9.out.ext hx)
        have hcj := fun o => HBj.out.cell o
        clear hx
        by_cases hlt : j < n
        · obtain ⟨b, off, y, rfl, hy, hcy⟩ := (HRt2.out.ext HXj.out).cell hlt
          have HT := Lib.hid (quoteT_take (fr := c.fr) (til := c.til) hy)
          have hsz := HQt.out j (by have := HLn.out; omega)
          have hes := enc_size y
          clear hy
          by_cases q1 : c.fr ≤ (j : Int)
          · by_cases q2 : (j : Int) < c.til
            · have HQ2 : Hid (quoteT c.fr c.til (l.take (j + 1)) = quoteT c.fr c.til (l.take j) ++ Utf8.encode y) := by show _ = _; rw [HT.out]; unfold qstep; rw [if_pos ⟨q1, q2⟩]
              generalize quoteT c.fr c.til (l.take j) = acc at *
              have hs9 : ¬ 9223372036854775807 < acc.size + (Utf8.encode y).size := by omega
              go_wp2_with fail
              exact ⟨⟨j + 1, by omega, by rw [HQ2.out], by go_num, HXj.out⟩, by simp [intOf]; omega⟩
            have HQ2 : Hid (quoteT c.fr c.til (l.take (j + 1)) = quoteT c.fr c.til (l.take j)) := by show _ = _; rw [HT.out]; unfold qstep; rw [if_neg (by simp only; omega)]
            go_wp2_with fail
            exact ⟨⟨j + 1, by omega, by rw [HQ2.out], by go_num, HXj.out⟩, by simp [intOf]; omega⟩
          have HQ2 : Hid (quoteT c.fr c.til (l.take (j + 1)) = quoteT c.fr c.til (l.take j)) := by show _ = _; rw [HT.out]; unfold qstep; rw [if_neg (by simp only; omega)]
          go_wp2_with fail
          exact ⟨⟨j + 1, by omega, by rw [HQ2.out], by go_num, HXj.out⟩, by simp [intOf]; omega⟩
        have hjn : j = n := by omega
        subst hjn
        have htk : Hid (l.take j = l) := List.take_of_length_le (by have := HLn.out; omega)
        go_wp2_with fail
        go_ret2
        exact ⟨by rw [HQ.out, htk.out]; rfl, HX9.out.trans HXj.out⟩
end Go.Proofs.YtagfedbdakmlgaaGreatDoor

/-! Move -/
namespace Go.Proofs.YtagfedbdakmlgaaGreatDoor
set_option linter.unusedVariables false
set_option linter.unusedSimpArgs false
open Go.RowKit
set_option maxRecDepth 100000 in
set_option maxHeartbeats 8000000 in
theorem CMove_any (before after : ByteArray) (i : Int) (e : Bool) (w : World) (hb : before.size ≤ 35184372088831) (ha : after.size ≤ 35184372088831) :
    Calls Tryz.prog 58 #[.string before, .string after, .int .i64 i, .bool e] w fun en w' => en = .returned (.int .i64 (Mv.move (runes before 0) (runes after 0) i e)) ∧ Ext w w' := by
  have HRa := Lib.hid (fun w' => CRunes_any before w' hb)
  have HRb := Lib.hid (fun w' => CRunes_any after w' ha)
  have hna := runes_len before
  have hnb := runes_len after
  unfold RunesPost at HRa HRb
  generalize runes before 0 = a at *
  generalize runes after 0 = b at *
  go_enter Tryz.func58, Tryz.ntmps58
  go_wp2_with fail
  refine (HRa.out _).mono ?_
  rintro en w1 ⟨A, n, c1, rfl, hat1, hc1, hx1⟩
  go_wp2_with fail
  refine (HRb.out _).mono ?_
  rintro en W ⟨B, m, c2, rfl, hat2, hc2, hx2⟩
  have HXW := Lib.hid (hx1.trans hx2)
  have HA := Lib.hid (hat1.ext hx2)
  have HBr := Lib.hid hat2
  have HLa := Lib.hid hat1.len
  have HLb := Lib.hid hat2.len
  have hn9 : n ≤ 35184372088831 := by have := hat1.len; omega
  have hm9 : m ≤ 35184372088831 := by have := hat2.len; omega
  clear hx1 hx2 hat1 hat2 hna hnb HRa HRb
  go_wp2_with fail
  have hpl := Mv.pre_le a b
  have hsl := Mv.suf_le a b (Mv.pre a b)
  have hla := HLa.out
  have hlb := HLb.out
  obtain ⟨P0, hP0⟩ : ∃ P0, P0 = Mv.pre a b := ⟨_, rfl⟩
  obtain ⟨S0, hS0⟩ : ∃ S0, S0 = Mv.suf a b (Mv.pre a b) := ⟨_, rfl⟩
  have hp1 : P0 ≤ n ∧ P0 ≤ m := by omega
  have hs1 : P0 + S0 ≤ n ∧ P0 + S0 ≤ m := by rw [hP0, hS0]; omega
  have HP0 := Lib.hid hP0
  have HS0 := Lib.hid hS0
  clear hpl hsl hP0 hS0 hla hlb
  go_loopw [13] (fun v wr => PreRel W a b v wr) (fun v _ => n - (intOf v).toNat)
  case atStart => exact ⟨0, Nat.zero_le _, rfl, Ext.refl _⟩
  case round =>
    obtain ⟨k, hk, rfl, hx⟩ := hrel
    have HX := Lib.hid hx
    have HK := Lib.hid hk
    have hkP : k ≤ P0 := by rw [HP0.out]; exact hk
    clear hk hx
    by_cases hlt : k < n ∧ k < m
    · obtain ⟨hn1, hm1⟩ := hlt
      obtain ⟨b1, o1, x, hA1, hx1, c1⟩ := (HA.out.ext HX.out).cell hn1
      obtain ⟨b2, o2, y, hA2, hx2, c2⟩ := (HBr.out.ext HX.out).cell hm1
      subst hA1 hA2
      have hmn : (k : Int) < min (n : Int) (m : Int) := by omega
      have hn1i : (k : Int) < (n : Int) := by omega
      have hm1i : (k : Int) < (m : Int) := by omega
      have hk0 : (0 : Int) ≤ (k : Int) := by omega
      have fc1 := fun (y : EW wr) => y.ext.cell c1
      have fc2 := fun (y : EW wr) => y.ext.cell c2
      clear c1 c2
      by_cases he : x = y
      · have heb : (x == y) = true := by simpa using he
        have HN := Lib.hid (Mv.pre_step HK.out hx1 hx2 he)
        clear hx1 hx2 he
        go_wp2_with fail
        refine wp_region_ew wr (Ext.refl _) (by kernel_rfl) (by kernel_rfl) ?_
        repeat (go_big_quiet_step ((fail)))
        refine wpQuiet_nil ?_
        rintro w9 ⟨⟨_, hx9⟩, rfl⟩
        clear fc1 fc2
        go_wp2_with fail
        exact ⟨⟨k + 1, HN.out, by go_num, HX.out.trans hx9⟩, by simp [intOf]; omega⟩
      have heb : (x == y) = false := by simpa using he
      have hkp : k = P0 := by rw [HP0.out]; exact Mv.pre_stop HK.out (.inr (.inr ⟨x, y, hx1, hx2, he⟩))
      subst hkp
      clear hx1 hx2 he
      go_wp2_with fail
      refine wp_region_ew wr (Ext.refl _) (by kernel_rfl) (by kernel_rfl) ?_
      repeat (go_big_quiet_step ((fail)))
      refine wpQuiet_nil ?_
      rintro w9 ⟨⟨_, hx9⟩, rfl⟩
      clear fc1 fc2 hmn hn1i hm1i hk0 heb
      have HX9 := Lib.hid (HX.out.trans hx9)
      clear hx9 HX
      go_wp2_with fail
      obtain ⟨wo, rfl⟩ : ∃ wo : World, wo = w9 := ⟨_, rfl⟩
      go_loopw [14] (fun v wr => SufRel wo a b v wr) (fun v _ => n - (intOf v).toNat)
      case atStart => exact ⟨0, Nat.zero_le _, rfl, Ext.refl _⟩
      case round =>
        obtain ⟨j, hj, rfl, hx⟩ := hrel
        have HXj := Lib.hid (HX9.out.trans hx)
        have HXo := Lib.hid hx
        have HJ := Lib.hid hj
        have hjS : j ≤ S0 := by rw [HS0.out]; exact hj
        clear hj hx
        have hj0 : (0 : Int) ≤ (j : Int) := by omega
        by_cases hlt2 : j < n - k ∧ j < m - k
        · obtain ⟨hn2, hm2⟩ := hlt2
          obtain ⟨b1, o1, x, hA1, hx1, c1⟩ := (HA.out.ext HXj.out).cell (i := n - 1 - j) (by omega)
          obtain ⟨b2, o2, y, hA2, hx2, c2⟩ := (HBr.out.ext HXj.out).cell (i := m - 1 - j) (by omega)
          have HA1 := Lib.hid hA1
          have HA2 := Lib.hid hA2
          clear hA1 hA2
          have hmn : (j : Int) < min (n : Int) (m : Int) - (k : Int) := by omega
          have hd1 : (j : Int) < (n : Int) - (k : Int) := by omega
          have hd2 : (j : Int) < (m : Int) - (k : Int) := by omega
          have hi1 : (n : Int) - 1 - (j : Int) = ((n - 1 - j : Nat) : Int) := by omega
          have hi2 : (m : Int) - 1 - (j : Int) = ((m - 1 - j : Nat) : Int) := by omega
          have hi3 : ((n : Int) - 1 - (j : Int)).toNat = n - 1 - j := by omega
          have hi4 : ((m : Int) - 1 - (j : Int)).toNat = m - 1 - j := by omega
          have hi5 : (0 : Int) ≤ (n : Int) - 1 - (j : Int) ∧ (n : Int) - 1 - (j : Int) < (n : Int) := by omega
          have hi6 : (0 : Int) ≤ (m : Int) - 1 - (j : Int) ∧ (m : Int) - 1 - (j : Int) < (m : Int) := by omega
          obtain ⟨hi7, hi8⟩ := hi5
          obtain ⟨hi9, hi10⟩ := hi6
          have hi11 : n - 1 - j < n := by omega
          have hi12 : m - 1 - j < m := by omega
          have fc1 := fun (y : EW wr) => y.ext.cell c1
          have fc2 := fun (y : EW wr) => y.ext.cell c2
          clear c1 c2
          have hA1 := HA1.out
          have hA2 := HA2.out
          by_cases he : x = y
          · have heb : (x == y) = true := by simpa using he
            have HN := Lib.hid (Mv.suf_step HJ.out (by have := HLa.out; have := HP0.out; omega) (by have := HLb.out; have := HP0.out; omega) (by rw [HLa.out]; exact hx1) (by rw [HLb.out]; exact hx2) he)
            clear hx1 hx2 he
            first | subst hA1 | skip
            first | subst hA2 | skip
            go_wp2_with fail
            refine wp_region_ew wr (Ext.refl _) (by kernel_rfl) (by kernel_rfl) ?_
            repeat (go_big_quiet_step ((fail)))
            refine wpQuiet_nil ?_
            rintro w9 ⟨⟨_, hx9⟩, rfl⟩
            clear fc1 fc2
            go_wp2_with fail
            exact ⟨⟨j + 1, HN.out, by go_num, HXo.out.trans hx9⟩, by simp [intOf]; omega⟩
          have heb : (x == y) = false := by simpa using he
          have hjs : j = S0 := by
            rw [HS0.out]
            exact Mv.suf_stop HJ.out (.inr (.inr ⟨x, y, by have := HLa.out; have := HP0.out; omega, by have := HLb.out; have := HP0.out; omega, by rw [HLa.out]; exact hx1, by rw [HLb.out]; exact hx2, he⟩))
          subst hjs
          clear hx1 hx2 he
          first | subst hA1 | skip
          first | subst hA2 | skip
          go_wp2_with fail
          refine wp_region_ew wr (Ext.refl _) (by kernel_rfl) (by kernel_rfl) ?_
          repeat (go_big_quiet_step ((fail)))
          refine wpQuiet_nil ?_
          rintro w9 ⟨⟨_, hx9⟩, rfl⟩
          clear fc1 fc2 hmn hd1 hd2 hi1 hi2 hi3 hi4 hi7 hi8 hi9 hi10 hi11 hi12 heb
          have HXe := Lib.hid (HXj.out.trans hx9)
          clear hx9 HXj HXo
          go_upto_block 4 with (fail)
          have HMv : Hid (Mv.move a b i e = if e = true then Mv.to_ n m k j (min (max i 0) (n : Int)) else Mv.from_ n m k j (min (max i 0) (n : Int))) := by
            show _ = _
            unfold Mv.move Mv.clamp
            rw [HLa.out, HLb.out, ← HS0.out, ← HP0.out]
          have ht0 : 0 ≤ min (max i 0) (n : Int) := by omega
          have ht1 : min (max i 0) (n : Int) ≤ (n : Int) := by omega
          generalize min (max i 0) (n : Int) = t at *
          clear HK HJ
          cases e
          · by_cases z1 : (n : Int) - (j : Int) ≤ t
            · have z2 : ¬ t < (n : Int) - (j : Int) := by omega
              go_wp2_with fail
              go_ret
              exact ⟨ret_int (by rw [HMv.out]; unfold Mv.from_; simp; repeat' split; all_goals omega), HXW.out.trans HXe.out⟩
            have z2 : t < (n : Int) - (j : Int) := by omega
            by_cases z3 : t < (k : Int)
            · go_wp2_with fail
              go_ret
              exact ⟨ret_int (by rw [HMv.out]; unfold Mv.from_; simp; repeat' split; all_goals omega), HXW.out.trans HXe.out⟩
            go_wp2_with fail
            go_ret
            exact ⟨ret_int (by rw [HMv.out]; unfold Mv.from_; simp; repeat' split; all_goals omega), HXW.out.trans HXe.out⟩
          · by_cases z1 : t ≤ (k : Int)
            · go_wp2_with fail
              go_ret
              exact ⟨ret_int (by rw [HMv.out]; unfold Mv.to_; simp; repeat' split; all_goals omega), HXW.out.trans HXe.out⟩
            by_cases z3 : (n : Int) - (j : Int) < t
            · go_wp2_with fail
              go_ret
              exact ⟨ret_int (by rw [HMv.out]; unfold Mv.to_; simp; repeat' split; all_goals omega), HXW.out.trans HXe.out⟩
            go_wp2_with fail
            go_ret
            exact ⟨ret_int (by rw [HMv.out]; unfold Mv.to_; simp; repeat' split; all_goals omega), HXW.out.trans HXe.out⟩
        have hjs : j = S0 := by
          rw [HS0.out]
          refine Mv.suf_stop HJ.out ?_
          have h1 := HLa.out
          have h2 := HLb.out
          have h3 := HP0.out
          by_cases h : j < n - k
          · exact .inr (.inl (by omega))
          · exact .inl (by omega)
        subst hjs
        have hmn : decide ((j : Int) < min (n : Int) (m : Int) - (k : Int)) = false := decide_eq_false (by omega)
        go_wp2_with fail
        refine wp_region_ew wr (Ext.refl _) (by kernel_rfl) (by kernel_rfl) ?_
        repeat (go_big_quiet_step ((fail)))
        refine wpQuiet_nil ?_
        rintro w9 ⟨⟨_, hx9⟩, rfl⟩
        clear hmn hlt2
        have HXe := Lib.hid (HXj.out.trans hx9)
        clear hx9 HXj HXo
        go_upto_block 4 with (fail)
        have HMv : Hid (Mv.move a b i e = if e = true then Mv.to_ n m k j (min (max i 0) (n : Int)) else Mv.from_ n m k j (min (max i 0) (n : Int))) := by
          show _ = _
          unfold Mv.move Mv.clamp
          rw [HLa.out, HLb.out, ← HS0.out, ← HP0.out]
        have ht0 : 0 ≤ min (max i 0) (n : Int) := by omega
        have ht1 : min (max i 0) (n : Int) ≤ (n : Int) := by omega
        generalize min (max i 0) (n : Int) = t at *
        clear HK HJ
        cases e
        · by_cases z1 : (n : Int) - (j : Int) ≤ t
          · have z2 : ¬ t < (n : Int) - (j : Int) := by omega
            go_wp2_with fail
            go_ret
            exact ⟨ret_int (by rw [HMv.out]; unfold Mv.from_; simp; repeat' split; all_goals omega), HXW.out.trans HXe.out⟩
          have z2 : t < (n : Int) - (j : Int) := by omega
          by_cases z3 : t < (k : Int)
          · go_wp2_with fail
            go_ret
            exact ⟨ret_int (by rw [HMv.out]; unfold Mv.from_; simp; repeat' split; all_goals omega), HXW.out.trans HXe.out⟩
          go_wp2_with fail
          go_ret
          exact ⟨ret_int (by rw [HMv.out]; unfold Mv.from_; simp; repeat' split; all_goals omega), HXW.out.trans HXe.out⟩
        · by_cases z1 : t ≤ (k : Int)
          · go_wp2_with fail
            go_ret
            exact ⟨ret_int (by rw [HMv.out]; unfold Mv.to_; simp; repeat' split; all_goals omega), HXW.out.trans HXe.out⟩
          by_cases z3 : (n : Int) - (j : Int) < t
          · go_wp2_with fail
            go_ret
            exact ⟨ret_int (by rw [HMv.out]; unfold Mv.to_; simp; repeat' split; all_goals omega), HXW.out.trans HXe.out⟩
          go_wp2_with fail
          go_ret
          exact ⟨ret_int (by rw [HMv.out]; unfold Mv.to_; simp; repeat' split; all_goals omega), HXW.out.trans HXe.out⟩
    have hkp : k = P0 := by
      rw [HP0.out]
      refine Mv.pre_stop HK.out ?_
      have h1 := HLa.out
      have h2 := HLb.out
      by_cases h : k < n
      · exact .inr (.inl (by omega))
      · exact .inl (by omega)
    subst hkp
    have hmn : decide ((k : Int) < min (n : Int) (m : Int)) = false := decide_eq_false (by omega)
    have w9x := HX.out
    go_wp2_with fail
    refine wp_region_ew wr (Ext.refl _) (by kernel_rfl) (by kernel_rfl) ?_
    repeat (go_big_quiet_step ((fail)))
    refine wpQuiet_nil ?_
    rintro w9 ⟨⟨_, hx9⟩, rfl⟩
    clear hmn w9x hlt
    have HX9 := Lib.hid (HX.out.trans hx9)
    clear hx9 HX
    go_wp2_with fail
    obtain ⟨wo, rfl⟩ : ∃ wo : World, wo = w9 := ⟨_, rfl⟩
    go_loopw [14] (fun v wr => SufRel wo a b v wr) (fun v _ => n - (intOf v).toNat)
    case atStart => exact ⟨0, Nat.zero_le _, rfl, Ext.refl _⟩
    case round =>
      obtain ⟨j, hj, rfl, hx⟩ := hrel
      have HXj := Lib.hid (HX9.out.trans hx)
      have HXo := Lib.hid hx
      have HJ := Lib.hid hj
      have hjS : j ≤ S0 := by rw [HS0.out]; exact hj
      clear hj hx
      have hj0 : (0 : Int) ≤ (j : Int) := by omega
      by_cases hlt2 : j < n - k ∧ j < m - k
      · obtain ⟨hn2, hm2⟩ := hlt2
        obtain ⟨b1, o1, x, hA1, hx1, c1⟩ := (HA.out.ext HXj.out).cell (i := n - 1 - j) (by omega)
        obtain ⟨b2, o2, y, hA2, hx2, c2⟩ := (HBr.out.ext HXj.out).cell (i := m - 1 - j) (by omega)
        have HA1 := Lib.hid hA1
        have HA2 := Lib.hid hA2
        clear hA1 hA2
        have hmn : (j : Int) < min (n : Int) (m : Int) - (k : Int) := by omega
        have hd1 : (j : Int) < (n : Int) - (k : Int) := by omega
        have hd2 : (j : Int) < (m : Int) - (k : Int) := by omega
        have hi1 : (n : Int) - 1 - (j : Int) = ((n - 1 - j : Nat) : Int) := by omega
        have hi2 : (m : Int) - 1 - (j : Int) = ((m - 1 - j : Nat) : Int) := by omega
        have hi3 : ((n : Int) - 1 - (j : Int)).toNat = n - 1 - j := by omega
        have hi4 : ((m : Int) - 1 - (j : Int)).toNat = m - 1 - j := by omega
        have hi5 : (0 : Int) ≤ (n : Int) - 1 - (j : Int) ∧ (n : Int) - 1 - (j : Int) < (n : Int) := by omega
        have hi6 : (0 : Int) ≤ (m : Int) - 1 - (j : Int) ∧ (m : Int) - 1 - (j : Int) < (m : Int) := by omega
        obtain ⟨hi7, hi8⟩ := hi5
        obtain ⟨hi9, hi10⟩ := hi6
        have hi11 : n - 1 - j < n := by omega
        have hi12 : m - 1 - j < m := by omega
        have fc1 := fun (y : EW wr) => y.ext.cell c1
        have fc2 := fun (y : EW wr) => y.ext.cell c2
        clear c1 c2
        have hA1 := HA1.out
        have hA2 := HA2.out
        by_cases he : x = y
        · have heb : (x == y) = true := by simpa using he
          have HN := Lib.hid (Mv.suf_step HJ.out (by have := HLa.out; have := HP0.out; omega) (by have := HLb.out; have := HP0.out; omega) (by rw [HLa.out]; exact hx1) (by rw [HLb.out]; exact hx2) he)
          clear hx1 hx2 he
          first | subst hA1 | skip
          first | subst hA2 | skip
          go_wp2_with fail
          refine wp_region_ew wr (Ext.refl _) (by kernel_rfl) (by kernel_rfl) ?_
          repeat (go_big_quiet_step ((fail)))
          refine wpQuiet_nil ?_
          rintro w9 ⟨⟨_, hx9⟩, rfl⟩
          clear fc1 fc2
          go_wp2_with fail
          exact ⟨⟨j + 1, HN.out, by go_num, HXo.out.trans hx9⟩, by simp [intOf]; omega⟩
        have heb : (x == y) = false := by simpa using he
        have hjs : j = S0 := by
          rw [HS0.out]
          exact Mv.suf_stop HJ.out (.inr (.inr ⟨x, y, by have := HLa.out; have := HP0.out; omega, by have := HLb.out; have := HP0.out; omega, by rw [HLa.out]; exact hx1, by rw [HLb.out]; exact hx2, he⟩))
        subst hjs
        clear hx1 hx2 he
        first | subst hA1 | skip
        first | subst hA2 | skip
        go_wp2_with fail
        refine wp_region_ew wr (Ext.refl _) (by kernel_rfl) (by kernel_rfl) ?_
        repeat (go_big_quiet_step ((fail)))
        refine wpQuiet_nil ?_
        rintro w9 ⟨⟨_, hx9⟩, rfl⟩
        clear fc1 fc2 hmn hd1 hd2 hi1 hi2 hi3 hi4 hi7 hi8 hi9 hi10 hi11 hi12 heb
        have HXe := Lib.hid (HXj.out.trans hx9)
        clear hx9 HXj HXo
        go_upto_block 4 with (fail)
        have HMv : Hid (Mv.move a b i e = if e = true then Mv.to_ n m k j (min (max i 0) (n : Int)) else Mv.from_ n m k j (min (max i 0) (n : Int))) := by
          show _ = _
          unfold Mv.move Mv.clamp
          rw [HLa.out, HLb.out, ← HS0.out, ← HP0.out]
        have ht0 : 0 ≤ min (max i 0) (n : Int) := by omega
        have ht1 : min (max i 0) (n : Int) ≤ (n : Int) := by omega
        generalize min (max i 0) (n : Int) = t at *
        clear HK HJ
        cases e
        · by_cases z1 : (n : Int) - (j : Int) ≤ t
          · have z2 : ¬ t < (n : Int) - (j : Int) := by omega
            go_wp2_with fail
            go_ret
            exact ⟨ret_int (by rw [HMv.out]; unfold Mv.from_; simp; repeat' split; all_goals omega), HXW.out.trans HXe.out⟩
          have z2 : t < (n : Int) - (j : Int) := by omega
          by_cases z3 : t < (k : Int)
          · go_wp2_with fail
            go_ret
            exact ⟨ret_int (by rw [HMv.out]; unfold Mv.from_; simp; repeat' split; all_goals omega), HXW.out.trans HXe.out⟩
          go_wp2_with fail
          go_ret
          exact ⟨ret_int (by rw [HMv.out]; unfold Mv.from_; simp; repeat' split; all_goals omega), HXW.out.trans HXe.out⟩
        · by_cases z1 : t ≤ (k : Int)
          · go_wp2_with fail
            go_ret
            exact ⟨ret_int (by rw [HMv.out]; unfold Mv.to_; simp; repeat' split; all_goals omega), HXW.out.trans HXe.out⟩
          by_cases z3 : (n : Int) - (j : Int) < t
          · go_wp2_with fail
            go_ret
            exact ⟨ret_int (by rw [HMv.out]; unfold Mv.to_; simp; repeat' split; all_goals omega), HXW.out.trans HXe.out⟩
          go_wp2_with fail
          go_ret
          exact ⟨ret_int (by rw [HMv.out]; unfold Mv.to_; simp; repeat' split; all_goals omega), HXW.out.trans HXe.out⟩
      have hjs : j = S0 := by
        rw [HS0.out]
        refine Mv.suf_stop HJ.out ?_
        have h1 := HLa.out
        have h2 := HLb.out
        have h3 := HP0.out
        by_cases h : j < n - k
        · exact .inr (.inl (by omega))
        · exact .inl (by omega)
      subst hjs
      have hmn : decide ((j : Int) < min (n : Int) (m : Int) - (k : Int)) = false := decide_eq_false (by omega)
      go_wp2_with fail
      refine wp_region_ew wr (Ext.refl _) (by kernel_rfl) (by kernel_rfl) ?_
      repeat (go_big_quiet_step ((fail)))
      refine wpQuiet_nil ?_
      rintro w9 ⟨⟨_, hx9⟩, rfl⟩
      clear hmn hlt2
      have HXe := Lib.hid (HXj.out.trans hx9)
      clear hx9 HXj HXo
      go_upto_block 4 with (fail)
      have HMv : Hid (Mv.move a b i e = if e = true then Mv.to_ n m k j (min (max i 0) (n : Int)) else Mv.from_ n m k j (min (max i 0) (n : Int))) := by
        show _ = _
        unfold Mv.move Mv.clamp
        rw [HLa.out, HLb.out, ← HS0.out, ← HP0.out]
      have ht0 : 0 ≤ min (max i 0) (n : Int) := by omega
      have ht1 : min (max i 0) (n : Int) ≤ (n : Int) := by omega
      generalize min (max i 0) (n : Int) = t at *
      clear HK HJ
      cases e
      · by_cases z1 : (n : Int) - (j : Int) ≤ t
        · have z2 : ¬ t < (n : Int) - (j : Int) := by omega
          go_wp2_with fail
          go_ret
          exact ⟨ret_int (by rw [HMv.out]; unfold Mv.from_; simp; repeat' split; all_goals omega), HXW.out.trans HXe.out⟩
        have z2 : t < (n : Int) - (j : Int) := by omega
        by_cases z3 : t < (k : Int)
        · go_wp2_with fail
          go_ret
          exact ⟨ret_int (by rw [HMv.out]; unfold Mv.from_; simp; repeat' split; all_goals omega), HXW.out.trans HXe.out⟩
        go_wp2_with fail
        go_ret
        exact ⟨ret_int (by rw [HMv.out]; unfold Mv.from_; simp; repeat' split; all_goals omega), HXW.out.trans HXe.out⟩
      · by_cases z1 : t ≤ (k : Int)
        · go_wp2_with fail
          go_ret
          exact ⟨ret_int (by rw [HMv.out]; unfold Mv.to_; simp; repeat' split; all_goals omega), HXW.out.trans HXe.out⟩
        by_cases z3 : (n : Int) - (j : Int) < t
        · go_wp2_with fail
          go_ret
          exact ⟨ret_int (by rw [HMv.out]; unfold Mv.to_; simp; repeat' split; all_goals omega), HXW.out.trans HXe.out⟩
        go_wp2_with fail
        go_ret
        exact ⟨ret_int (by rw [HMv.out]; unfold Mv.to_; simp; repeat' split; all_goals omega), HXW.out.trans HXe.out⟩
end Go.Proofs.YtagfedbdakmlgaaGreatDoor

/-! Awake14 -/
namespace Go.Proofs.YtagfedbdakmlgaaGreatDoor
set_option linter.unusedVariables false
set_option linter.unusedSimpArgs false
open Go.RowKit
def q0a : Run := ⟨⟨#[72, 105, 44]⟩, 0, false, false, ⟨#[]⟩⟩
def q0b : Run := ⟨⟨#[121, 111, 117, 46]⟩, 0, false, false, ⟨#[]⟩⟩
def q0e : Ev := ⟨1, 10, 50, ⟨#[]⟩, 1, ⟨#[]⟩, [[q0a], [q0b]]⟩
def q0 : Doc := ⟨⟨#[]⟩, ⟨#[]⟩, 3, false, 1, [], [q0e], []⟩
def q1 : Doc := ⟨⟨#[]⟩, ⟨#[]⟩, 3, false, 2, [], [q0e], [⟨2, 1, 0, 2, ⟨#[65, 78, 78]⟩, ⟨#[63]⟩, false, false⟩]⟩
theorem q0_err1 : q0.addErr 1 0 2 ⟨#[65, 78, 78]⟩ ⟨#[63]⟩ = 0 := by kernel_rfl
theorem q0_err2 : q0.addErr 1 0 9 ⟨#[65, 78, 78]⟩ ⟨#[63]⟩ = 2 := by kernel_rfl
theorem q0_id1 : q0.addId 1 0 2 ⟨#[65, 78, 78]⟩ ⟨#[63]⟩ = 2 := by unfold Doc.addId; rw [q0_err1]; rfl
theorem q0_id2 : q0.addId 1 0 9 ⟨#[65, 78, 78]⟩ ⟨#[63]⟩ = 0 := by unfold Doc.addId; rw [q0_err2]; rfl
theorem q0_add1 : q0.added 1 0 2 ⟨#[65, 78, 78]⟩ ⟨#[63]⟩ = q1 := by unfold Doc.added; rw [q0_err1]; rfl
theorem q0_add2 : q0.added 1 0 9 ⟨#[65, 78, 78]⟩ ⟨#[63]⟩ = Doc.zero := by unfold Doc.added; rw [q0_err2]; rfl
theorem q1_quX : q1.quX 2 = (⟨#[72, 105]⟩, 0) := by kernel_rfl
theorem q0_move : Mv.move (runes ⟨#[72, 105, 44]⟩ 0) (runes ⟨#[79, 104, 32, 104, 105, 44]⟩ 0) 1 false = 4 := by kernel_rfl
theorem q0e_small : EvSmall q0e ∧ q0e.bytes ≤ 1099511627776 := by
  refine ⟨⟨by decide, by decide, fun r hr => ?_⟩, by decide⟩
  simp only [q0e, List.mem_cons, List.not_mem_nil, or_false] at hr
  rcases hr with rfl | rfl
  · refine ⟨by decide, fun x hx => ?_⟩
    simp only [List.mem_singleton] at hx
    subst hx
    exact ⟨by decide, by decide⟩
  · refine ⟨by decide, fun x hx => ?_⟩
    simp only [List.mem_singleton] at hx
    subst hx
    exact ⟨by decide, by decide⟩
theorem q0_fit : DocFit q0 := by
  refine ⟨⟨by decide, by decide, by decide, by decide⟩, (fun r hr => by cases hr), (fun e he => ?_), (fun e he => ?_), (fun c hc => by cases hc)⟩
  · simp only [q0, List.mem_singleton] at he
    subst he
    exact q0e_small
  · simp only [q0, List.mem_singleton] at he
    subst he
    exact ⟨by decide, by decide⟩
theorem q1_fit : DocFit q1 := by
  refine ⟨⟨by decide, by decide, by decide, by decide⟩, (fun r hr => by cases hr), (fun e he => ?_), (fun e he => ?_), (fun c hc => ?_)⟩
  · simp only [q1, List.mem_singleton] at he
    subst he
    exact q0e_small
  · simp only [q1, List.mem_singleton] at he
    subst he
    exact ⟨by decide, by decide⟩
  · simp only [q1, List.mem_singleton] at hc
    subst hc
    exact ⟨⟨by decide, by decide⟩, ⟨by decide, by decide⟩, by decide, by decide⟩
def q0h (g : Nat) : DocH := ⟨none, 0, 0, some ⟨g, 0, none⟩, 1, 1, none, 0, 0⟩
theorem sl_1 {α : Type} {C : World → Nat → Nat → α → Prop} {w : World} {size g : Nat} {x : α} (h : C w g 0 x) : Sl w size C (some ⟨g, 0, none⟩) 1 [x] := by
  refine ⟨rfl, fun _ => ⟨g, 0, rfl, fun i y hy => ?_⟩⟩
  match i, hy with
  | 0, hy => simp at hy; subst hy; simpa using h
  | i + 1, hy => simp at hy
theorem sl_2 {α : Type} {C : World → Nat → Nat → α → Prop} {w : World} {size g : Nat} {x y : α} (h : C w g 0 x) (h2 : C w g size y) : Sl w size C (some ⟨g, 0, none⟩) 2 [x, y] := by
  refine ⟨rfl, fun _ => ⟨g, 0, rfl, fun i z hz => ?_⟩⟩
  match i, hz with
  | 0, hz => simp at hz; subst hz; simpa using h
  | 1, hz => simp at hz; subst hz; simpa using h2
  | i + 2, hz => simp at hz
theorem q0_at {w : World} {g0 g1 g2 g3 : Nat} (h0 : Blk w g0 84 #[.string ⟨#[72, 105, 44]⟩, .int .u8 0, .bool false, .bool false, .string ⟨#[]⟩]) (h1 : Blk w g1 84 #[.string ⟨#[121, 111, 117, 46]⟩, .int .u8 0, .bool false, .bool false, .string ⟨#[]⟩]) (h2 : Blk w g2 87 #[.slice (some ⟨g0, 0, none⟩) 1 1, .slice (some ⟨g1, 0, none⟩) 1 1])
    (h3 : Blk w g3 66 #[.int .i64 1, .int .i64 10, .int .i64 50, .string ⟨#[]⟩, .int .u8 1, .string ⟨#[]⟩, .slice (some ⟨g2, 0, none⟩) 2 2]) : DocAt w q0 (q0h g3) := by
  refine ⟨Sl.nil, sl_1 ⟨some ⟨g2, 0, none⟩, 2, 2, fun j u hu => ?_, sl_2 ⟨some ⟨g0, 0, none⟩, 1, 1, h2.cell 0, Nat.le_refl _, by decide, sl_1 ⟨h0.cell 0, h0.cell 1, h0.cell 2, h0.cell 3, h0.cell 4⟩⟩ ⟨some ⟨g1, 0, none⟩, 1, 1, h2.cell 1, Nat.le_refl _, by decide, sl_1 ⟨h1.cell 0, h1.cell 1, h1.cell 2, h1.cell 3, h1.cell 4⟩⟩, Nat.le_refl _, by decide⟩, Sl.nil⟩
  rw [Nat.zero_add, h3.cell]
  rw [← hu]
  show _ = ((q0e.cells (some ⟨g2, 0, none⟩) 2 2).toList)[j]?
  rw [Array.getElem?_toList]
  rfl
set_option maxRecDepth 100000 in
set_option maxHeartbeats 8000000 in
theorem awake14_any (w : World) (hE : Env w) : Calls Tryz.prog 11 #[] w fun en w' => en = .returned (.bool true) ∧ Ext w w' := by
  have HEn := Lib.hid hE
  clear hE
  go_enter Tryz.func11, Tryz.ntmps11
  go_upto_region 2 with (fail)
  have HX : Hid (Ext w (((((w.alloc (.cells #[.string ⟨#[72, 105, 44]⟩, .int .u8 0, .bool false, .bool false, .string ⟨#[]⟩] 84)).alloc (.cells #[.string ⟨#[121, 111, 117, 46]⟩, .int .u8 0, .bool false, .bool false, .string ⟨#[]⟩] 84)).alloc (.cells #[.slice (some ⟨w.heap.size, 0, none⟩) 1 1, .slice (some ⟨w.heap.size + 1, 0, none⟩) 1 1] 87)).alloc (.cells #[.int .i64 1, .int .i64 10, .int .i64 50, .string ⟨#[]⟩, .int .u8 1, .string ⟨#[]⟩, .slice (some ⟨w.heap.size + 1 + 1, 0, none⟩) 2 2] 66)).alloc (.cells #[.string ⟨#[]⟩, .string ⟨#[]⟩, .int .u8 3, .bool false, .int .i64 1, .slice none 0 0, .slice (some ⟨w.heap.size + 1 + 1 + 1, 0, none⟩) 1 1, .slice none 0 0] 27))) := by show Ext _ _; repeat (first | exact Ext.refl _ | apply Ext.alloc)
  have HB0 : Hid (Blk (((((w.alloc (.cells #[.string ⟨#[72, 105, 44]⟩, .int .u8 0, .bool false, .bool false, .string ⟨#[]⟩] 84)).alloc (.cells #[.string ⟨#[121, 111, 117, 46]⟩, .int .u8 0, .bool false, .bool false, .string ⟨#[]⟩] 84)).alloc (.cells #[.slice (some ⟨w.heap.size, 0, none⟩) 1 1, .slice (some ⟨w.heap.size + 1, 0, none⟩) 1 1] 87)).alloc (.cells #[.int .i64 1, .int .i64 10, .int .i64 50, .string ⟨#[]⟩, .int .u8 1, .string ⟨#[]⟩, .slice (some ⟨w.heap.size + 1 + 1, 0, none⟩) 2 2] 66)).alloc (.cells #[.string ⟨#[]⟩, .string ⟨#[]⟩, .int .u8 3, .bool false, .int .i64 1, .slice none 0 0, .slice (some ⟨w.heap.size + 1 + 1 + 1, 0, none⟩) 1 1, .slice none 0 0] 27)) (w.heap.size) 84 #[.string ⟨#[72, 105, 44]⟩, .int .u8 0, .bool false, .bool false, .string ⟨#[]⟩]) := ((((Blk.new' (by simp)).alloc _).alloc _).alloc _).alloc _
  have HB1 : Hid (Blk (((((w.alloc (.cells #[.string ⟨#[72, 105, 44]⟩, .int .u8 0, .bool false, .bool false, .string ⟨#[]⟩] 84)).alloc (.cells #[.string ⟨#[121, 111, 117, 46]⟩, .int .u8 0, .bool false, .bool false, .string ⟨#[]⟩] 84)).alloc (.cells #[.slice (some ⟨w.heap.size, 0, none⟩) 1 1, .slice (some ⟨w.heap.size + 1, 0, none⟩) 1 1] 87)).alloc (.cells #[.int .i64 1, .int .i64 10, .int .i64 50, .string ⟨#[]⟩, .int .u8 1, .string ⟨#[]⟩, .slice (some ⟨w.heap.size + 1 + 1, 0, none⟩) 2 2] 66)).alloc (.cells #[.string ⟨#[]⟩, .string ⟨#[]⟩, .int .u8 3, .bool false, .int .i64 1, .slice none 0 0, .slice (some ⟨w.heap.size + 1 + 1 + 1, 0, none⟩) 1 1, .slice none 0 0] 27)) (w.heap.size + 1) 84 #[.string ⟨#[121, 111, 117, 46]⟩, .int .u8 0, .bool false, .bool false, .string ⟨#[]⟩]) := (((Blk.new' (by simp)).alloc _).alloc _).alloc _
  have HB2 : Hid (Blk (((((w.alloc (.cells #[.string ⟨#[72, 105, 44]⟩, .int .u8 0, .bool false, .bool false, .string ⟨#[]⟩] 84)).alloc (.cells #[.string ⟨#[121, 111, 117, 46]⟩, .int .u8 0, .bool false, .bool false, .string ⟨#[]⟩] 84)).alloc (.cells #[.slice (some ⟨w.heap.size, 0, none⟩) 1 1, .slice (some ⟨w.heap.size + 1, 0, none⟩) 1 1] 87)).alloc (.cells #[.int .i64 1, .int .i64 10, .int .i64 50, .string ⟨#[]⟩, .int .u8 1, .string ⟨#[]⟩, .slice (some ⟨w.heap.size + 1 + 1, 0, none⟩) 2 2] 66)).alloc (.cells #[.string ⟨#[]⟩, .string ⟨#[]⟩, .int .u8 3, .bool false, .int .i64 1, .slice none 0 0, .slice (some ⟨w.heap.size + 1 + 1 + 1, 0, none⟩) 1 1, .slice none 0 0] 27)) (w.heap.size + 1 + 1) 87 #[.slice (some ⟨w.heap.size, 0, none⟩) 1 1, .slice (some ⟨w.heap.size + 1, 0, none⟩) 1 1]) := ((Blk.new' (by simp)).alloc _).alloc _
  have HB3 : Hid (Blk (((((w.alloc (.cells #[.string ⟨#[72, 105, 44]⟩, .int .u8 0, .bool false, .bool false, .string ⟨#[]⟩] 84)).alloc (.cells #[.string ⟨#[121, 111, 117, 46]⟩, .int .u8 0, .bool false, .bool false, .string ⟨#[]⟩] 84)).alloc (.cells #[.slice (some ⟨w.heap.size, 0, none⟩) 1 1, .slice (some ⟨w.heap.size + 1, 0, none⟩) 1 1] 87)).alloc (.cells #[.int .i64 1, .int .i64 10, .int .i64 50, .string ⟨#[]⟩, .int .u8 1, .string ⟨#[]⟩, .slice (some ⟨w.heap.size + 1 + 1, 0, none⟩) 2 2] 66)).alloc (.cells #[.string ⟨#[]⟩, .string ⟨#[]⟩, .int .u8 3, .bool false, .int .i64 1, .slice none 0 0, .slice (some ⟨w.heap.size + 1 + 1 + 1, 0, none⟩) 1 1, .slice none 0 0] 27)) (w.heap.size + 1 + 1 + 1) 66 #[.int .i64 1, .int .i64 10, .int .i64 50, .string ⟨#[]⟩, .int .u8 1, .string ⟨#[]⟩, .slice (some ⟨w.heap.size + 1 + 1, 0, none⟩) 2 2]) := (Blk.new' (by simp)).alloc _
  have HB4 : Hid (Blk (((((w.alloc (.cells #[.string ⟨#[72, 105, 44]⟩, .int .u8 0, .bool false, .bool false, .string ⟨#[]⟩] 84)).alloc (.cells #[.string ⟨#[121, 111, 117, 46]⟩, .int .u8 0, .bool false, .bool false, .string ⟨#[]⟩] 84)).alloc (.cells #[.slice (some ⟨w.heap.size, 0, none⟩) 1 1, .slice (some ⟨w.heap.size + 1, 0, none⟩) 1 1] 87)).alloc (.cells #[.int .i64 1, .int .i64 10, .int .i64 50, .string ⟨#[]⟩, .int .u8 1, .string ⟨#[]⟩, .slice (some ⟨w.heap.size + 1 + 1, 0, none⟩) 2 2] 66)).alloc (.cells #[.string ⟨#[]⟩, .string ⟨#[]⟩, .int .u8 3, .bool false, .int .i64 1, .slice none 0 0, .slice (some ⟨w.heap.size + 1 + 1 + 1, 0, none⟩) 1 1, .slice none 0 0] 27)) (w.heap.size + 1 + 1 + 1 + 1) 27 #[.string ⟨#[]⟩, .string ⟨#[]⟩, .int .u8 3, .bool false, .int .i64 1, .slice none 0 0, .slice (some ⟨w.heap.size + 1 + 1 + 1, 0, none⟩) 1 1, .slice none 0 0]) := Blk.new' (by simp)
  generalize hWg : (((((w.alloc (.cells #[.string ⟨#[72, 105, 44]⟩, .int .u8 0, .bool false, .bool false, .string ⟨#[]⟩] 84)).alloc (.cells #[.string ⟨#[121, 111, 117, 46]⟩, .int .u8 0, .bool false, .bool false, .string ⟨#[]⟩] 84)).alloc (.cells #[.slice (some ⟨w.heap.size, 0, none⟩) 1 1, .slice (some ⟨w.heap.size + 1, 0, none⟩) 1 1] 87)).alloc (.cells #[.int .i64 1, .int .i64 10, .int .i64 50, .string ⟨#[]⟩, .int .u8 1, .string ⟨#[]⟩, .slice (some ⟨w.heap.size + 1 + 1, 0, none⟩) 2 2] 66)).alloc (.cells #[.string ⟨#[]⟩, .string ⟨#[]⟩, .int .u8 3, .bool false, .int .i64 1, .slice none 0 0, .slice (some ⟨w.heap.size + 1 + 1 + 1, 0, none⟩) 1 1, .slice none 0 0] 27)) = W0 at *
  clear hWg
  have hat0 : DocAt W0 q0 (q0h (w.heap.size + 1 + 1 + 1)) := q0_at HB0.out HB1.out HB2.out HB3.out
  have HAt := Lib.hid hat0
  have HAdd := Lib.hid (fun fr til w' (hx : Ext W0 w') => DAdd_any q0 (q0h (w.heap.size + 1 + 1 + 1)) 1 fr til ⟨#[65, 78, 78]⟩ ⟨#[63]⟩ w' (HEn.out.ext (HX.out.trans hx)) (HAt.out.ext hx) q0_fit (by simp [q0h]) (by simp [q0h]) (by simp [q0h]) (by simp [q0h]) (by decide) (by decide))
  have HMv := Lib.hid (fun w' => CMove_any ⟨#[72, 105, 44]⟩ ⟨#[79, 104, 32, 104, 105, 44]⟩ 1 false w' (by decide) (by decide))
  rw [q0_move] at HMv
  unfold AddPost at HAdd
  unfold Doc.cells q0 q0h at HAdd
  dsimp only at HAdd
  have HX0 := Lib.hid (Ext.refl W0)
  clear hat0 HB0 HB1 HB2 HB3
  go_wp2_with (refine wpList_loadB rfl 27 (.tmp 1) rfl (w.heap.size + 1 + 1 + 1 + 1) 27 _ _ (by exact rfl) (by exact HB4.out) Tryz.underlying27 rfl (by exact size_docI) ?_)
  refine (HAdd.out 0 2 _ HX0.out).mono ?_
  rintro en w_1 ⟨⟨ra, rn, rc, ea, en1, ec, ca, cn, cc⟩, rfl, ho1, hx_2⟩
  have HO1 := Lib.hid (show DocOwn w_1 W0.heap.size (q0.added 1 0 2 ⟨#[65, 78, 78]⟩ ⟨#[63]⟩) ⟨ra, rn, rc, ea, en1, ec, ca, cn, cc⟩ from ho1)
  clear ho1
  have HX_3 := Lib.hid (HX0.out.trans hx_2)
  have HB_4 := Lib.hid (HB4.out.ext hx_2)
  clear hx_2 HX0 HB4
  rw [show (Doc.addErr ⟨⟨#[]⟩, ⟨#[]⟩, 3, false, 1, [], [q0e], []⟩ 1 0 2 ⟨#[65, 78, 78]⟩ ⟨#[63]⟩) = 0 from q0_err1, show (Doc.addId ⟨⟨#[]⟩, ⟨#[]⟩, 3, false, 1, [], [q0e], []⟩ 1 0 2 ⟨#[65, 78, 78]⟩ ⟨#[63]⟩) = 2 from q0_id1, show (Doc.added ⟨⟨#[]⟩, ⟨#[]⟩, 3, false, 1, [], [q0e], []⟩ 1 0 2 ⟨#[65, 78, 78]⟩ ⟨#[63]⟩) = q1 from q0_add1]
  rw [q0_add1] at HO1
  have hr1 := HO1.out.rlen
  have he1 := HO1.out.evs.len
  have hc1 := HO1.out.clen
  have HQu := Lib.hid (fun w' (hx : Ext w_1 w') => Quoted_any q1 ⟨ra, rn, rc, ea, en1, ec, ca, cn, cc⟩ 2 w' (HEn.out.ext (HX.out.trans (HX_3.out.trans hx))) (HO1.out.at_.ext hx) q1_fit (by simp [q1] at hr1; simp only; omega) (by simp [q1] at he1; simp only; omega) (by simp [q1] at hc1; simp only; omega))
  rw [q1_quX] at HQu
  unfold Doc.cells q1 at HQu
  unfold q1
  dsimp only at *
  clear hr1 he1 hc1 HO1
  have HX1 := Lib.hid (Ext.refl w_1)
  have HB_5 := Lib.hid (Blk.new w_1 27 #[.string ⟨#[]⟩, .string ⟨#[]⟩, .int .u8 3, .bool false, .int .i64 2, .slice ra rn rc, .slice ea en1 ec, .slice ca cn cc])
  have ha_6 := (Ext.refl w_1).alloc (.cells #[.string ⟨#[]⟩, .string ⟨#[]⟩, .int .u8 3, .bool false, .int .i64 2, .slice ra rn rc, .slice ea en1 ec, .slice ca cn cc] 27)
  have HX_7 := Lib.hid (HX_3.out.trans ha_6)
  have HB_8 := Lib.hid (HB_4.out.ext ha_6)
  clear ha_6 HX_3 HB_4
  have hxa := ((Ext.refl w_1).alloc (.cells #[.string ⟨#[]⟩, .string ⟨#[]⟩, .int .u8 3, .bool false, .int .i64 2, .slice ra rn rc, .slice ea en1 ec, .slice ca cn cc] 27))
  go_wp2_with (refine wpList_loadB rfl 27 (.tmp 2) rfl (w_1.heap.size) 27 _ _ (by exact rfl) (by exact HB_5.out) Tryz.underlying27 rfl (by exact size_docI) ?_)
  refine (HQu.out _ hxa).mono ?_
  rintro en w_9 ⟨rfl, hx_10⟩
  have HX_11 := Lib.hid (HX_7.out.trans hx_10)
  have HB_12 := Lib.hid (HB_8.out.ext hx_10)
  have HB_13 := Lib.hid (HB_5.out.ext hx_10)
  clear hx_10 HX_7 HB_8 HB_5
  clear hxa HQu HX1
  go_wp2_with (refine wpList_loadB rfl 27 (.tmp 1) rfl (w.heap.size + 1 + 1 + 1 + 1) 27 _ _ (by exact rfl) (by exact HB_12.out) Tryz.underlying27 rfl (by exact size_docI) ?_)
  refine (HAdd.out 0 9 _ HX_11.out).mono ?_
  rintro en w_14 ⟨⟨ra2, rn2, rc2, ea2, en2, ec2, ca2, cn2, cc2⟩, rfl, -, hx_15⟩
  have HX_16 := Lib.hid (HX_11.out.trans hx_15)
  have HB_17 := Lib.hid (HB_12.out.ext hx_15)
  have HB_18 := Lib.hid (HB_13.out.ext hx_15)
  clear hx_15 HX_11 HB_12 HB_13
  rw [show (Doc.addErr ⟨⟨#[]⟩, ⟨#[]⟩, 3, false, 1, [], [q0e], []⟩ 1 0 9 ⟨#[65, 78, 78]⟩ ⟨#[63]⟩) = 2 from q0_err2, show (Doc.addId ⟨⟨#[]⟩, ⟨#[]⟩, 3, false, 1, [], [q0e], []⟩ 1 0 9 ⟨#[65, 78, 78]⟩ ⟨#[63]⟩) = 0 from q0_id2, show (Doc.added ⟨⟨#[]⟩, ⟨#[]⟩, 3, false, 1, [], [q0e], []⟩ 1 0 9 ⟨#[65, 78, 78]⟩ ⟨#[63]⟩) = Doc.zero from q0_add2]
  unfold Doc.zero
  dsimp only
  go_wp2_with fail
  refine (HMv.out _).mono ?_
  rintro en w_19 ⟨rfl, hx_20⟩
  go_wp2_with fail
  go_ret
  exact ⟨rfl, HX.out.trans ((HX_16.out.alloc _).trans hx_20)⟩
end Go.Proofs.YtagfedbdakmlgaaGreatDoor
