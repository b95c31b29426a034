/- The walk of the reference's Quoted. -/
import Derived.Test.YtagfedbdakmlgaaGreatDoorPEPlainR
import Derived.Test.YtagfedbdakmlgaaGreatDoorPk15
import Derived.Test.YtagfedbdakmlgaaGreatDoorPk19
namespace Go.Proofs.YtagfedbdakmlgaaGreatDoor
set_option linter.unusedVariables false
set_option linter.unusedSimpArgs false
open Go.RowKit
theorem quoteT_snoc (fr til : Int) (l : List Int) (x : Int) : quoteT fr til (l ++ [x]) = qstep fr til (quoteT fr til l) (x, l.length) := by
  unfold quoteT
  rw [List.zipIdx_append, List.foldl_append]
  simp
def QrRel (T : ByteArray) (W : World) (g : Nat) (fr til : Int) (v i : Value) (wr : World) : Prop :=
  ∃ (pos : Nat) (l : List Int), wr.heap[g]? = some (.stringIter T pos) ∧ Ext W wr ∧ runes T 0 = l ++ runes T pos ∧ l.length ≤ pos ∧ v = .string (quoteT fr til l) ∧ i = .int .i64 (l.length : Int)
set_option maxRecDepth 100000 in
set_option maxHeartbeats 8000000 in
theorem R14Quoted_any (d : Doc) (h : DocH) (id : Int) (w : World) (hE : Env w) (hat : DocAt w d h) (hf : DocFit d) (hrn : h.rn ≤ 9223372036854775807) (hn : h.en ≤ 1000000) (hcn : h.cn ≤ 1000000) :
    Calls Tryz.prog 26 #[.agg (d.cells h), .int .i64 id] w fun en w' => en = .returned (.tuple #[.string (d.quX id).1, .int .i64 (d.quX id).2]) ∧ Ext w w' := by
  have HX := Lib.hid ((Ext.refl w).alloc (.cells (d.cells h) 27))
  have HB := Lib.hid (Blk.new w 27 (d.cells h))
  have HCk := Lib.hid (fun w' (hx : Ext w w') => R12Check_any d h w' (hE.ext hx) (hat.ext hx) hf hrn hn (by omega))
  have HFc := Lib.hid (fun w' (hx : Ext w w') => R14Find_any d h id w' (hat.coms.ext hx) hcn)
  have HFd := Lib.hid (fun w' (hx : Ext w w') ev => R12Find_any d h ev w' (hat.evs.ext hx) hn)
  have HEv := Lib.hid hat.evs
  have HCo := Lib.hid hat.coms
  have HSm := Lib.hid hf.evs
  have HEl := Lib.hid hat.evs.len
  have HCl := Lib.hid hat.coms.len
  clear hat hE hf
  obtain ⟨hra, nr, hrc, hea, hen, hec, hca, nc, hcc⟩ := h
  unfold Doc.cells at *
  dsimp only at *
  go_enter Tryz.func26, Tryz.ntmps26
  go_wp2_with (refine wpList_loadB rfl 27 (.tmp 2) rfl (w.heap.size) 27 _ _ (by exact rfl) (by exact HB.out) Tryz.underlying27 rfl (by exact size_docI) ?_)
  refine (HCk.out _ HX.out).mono ?_
  rintro en w0 ⟨rfl, hx0⟩
  have HX0 := Lib.hid (HX.out.trans hx0)
  have HB0 := Lib.hid (HB.out.ext hx0)
  clear hx0 HX HB HCk
  by_cases h1 : d.err = 0
  case neg =>
    have HQ := Lib.hid (qu_1 (id := id) h1)
    have hne : (d.err != 0) = true := by simpa using h1
    clear h1
    go_wp2_with fail
    go_ret2
    exact ⟨by rw [HQ.out]; rfl, HX0.out⟩
  have H1 := Lib.hid h1
  rw [h1]
  clear h1
  go_wp2_with (refine wpList_loadB rfl 27 (.tmp 2) rfl (w.heap.size) 27 _ _ (by exact rfl) (by exact HB0.out) Tryz.underlying27 rfl (by exact size_docI) ?_)
  refine (HFc.out _ HX0.out).mono ?_
  rintro en w_9 ⟨rfl, hx_10⟩
  have HX_11 := Lib.hid (HX0.out.trans hx_10)
  have HB_12 := Lib.hid (HB0.out.ext hx_10)
  clear hx_10 HX0 HB0
  cases hfc : findC d.coms id with
  | none =>
      have hfi : findCI d.coms id = -1 := by unfold findCI; rw [hfc]
      have HQ := Lib.hid (qu_2 H1.out hfc)
      rw [hfi]
      clear hfc hfi
      go_wp2_with fail
      go_ret2
      exact ⟨by rw [HQ.out]; rfl, HX_11.out⟩
  | some k =>
      have hfi : findCI d.coms id = (k : Int) := by unfold findCI; rw [hfc]
      have hkn : k < nc := by have := (List.findIdx?_eq_some_iff_getElem.1 hfc).1; have := HCl.out; omega
      have HFk := Lib.hid hfc
      rw [hfi]
      clear hfc hfi
      obtain ⟨cb, coff, c, rfl, hcc', c0, c1, c2, c3, c4, c5, c6, c7⟩ := (HCo.out.ext HX_11.out).at8 hkn
      have HCc := Lib.hid hcc'
      clear hcc'
      have hcd0 := fun o => HB_12.out.cell o
      have HB_13 := Lib.hid (Blk.new w_9 78 #[.int .i64 c.id, .int .i64 c.ev, .int .i64 c.fr, .int .i64 c.til, .string c.author, .string c.text, .bool c.done, .bool c.lost])
      have ha_14 := (Ext.refl w_9).alloc (.cells #[.int .i64 c.id, .int .i64 c.ev, .int .i64 c.fr, .int .i64 c.til, .string c.author, .string c.text, .bool c.done, .bool c.lost] 78)
      have HX_15 := Lib.hid (HX_11.out.trans ha_14)
      have HB_16 := Lib.hid (HB_12.out.ext ha_14)
      clear ha_14 HX_11 HB_12
      cases hlo : c.lost
      case true =>
        have HQ := Lib.hid (qu_3 H1.out HFk.out HCc.out hlo)
        rw [hlo] at c7 HB_13 HB_16 HX_15
        have HLo := Lib.hid hlo
        clear hlo
        have hc_17 := fun o => HB_16.out.cell o
        have hc_18 := fun o => HB_13.out.cell o
        go_wp2_with fail
        clear hc_17 hc_18
        go_ret2
        exact ⟨by rw [HQ.out]; rfl, HX_15.out⟩
      obtain ⟨m, x, hfe, hxe, hfr, htl, -⟩ := com_anchor H1.out HCc.out hlo
      have HQ := Lib.hid (qu_4 H1.out HFk.out HCc.out hlo hfe hxe)
      have hmn : m < hen := by have := (List.getElem?_eq_some_iff.1 hxe).1; have := HEl.out; omega
      have hfi : findI d.evs c.ev = (m : Int) := by unfold findI; rw [hfe]
      have HFv := Lib.hid (fun w' hx => by have := HFd.out w' hx c.ev; rwa [hfi] at this : ∀ w', Ext w w' → Calls Tryz.prog 39 #[.agg #[.string d.title, .string d.lang, .int .u8 d.rate, .bool d.drop, .int .i64 d.last, .slice hra nr hrc, .slice hea hen hec, .slice (some ⟨cb, coff, none⟩) nc hcc], .int .i64 c.ev] w' fun e w'' => e = .returned (.int .i64 (m : Int)) ∧ Ext w' w'')
      clear hfi hfe
      rw [hlo] at c7 HB_13 HB_16 HX_15
      have HLo := Lib.hid hlo
      clear hlo
      have hc_19 := fun o => HB_16.out.cell o
      have hc_20 := fun o => HB_13.out.cell o
      go_wp2_with fail
      clear hc_19 hc_20
      clear c0 c1 c2 c3 c4 c5 c6 c7 hcd0
      obtain ⟨gC, hgC⟩ : ∃ gC, gC = w_9.heap.size := ⟨_, rfl⟩
      rw [← hgC]
      rw [← hgC] at HB_13
      generalize hWg : (w_9.alloc (.cells #[.int .i64 c.id, .int .i64 c.ev, .int .i64 c.fr, .int .i64 c.til, .string c.author, .string c.text, .bool c.done, .bool false] 78)) = W1 at *
      clear hWg hgC
      obtain ⟨eb, eoff, x', heA, hx', A', n', c', hcx, hxat⟩ := (HEv.out.ext HX_15.out).at_ hmn
      obtain rfl : x' = x := by rw [hxe] at hx'; exact (Option.some.inj hx').symm
      subst heA
      have hsx := HSm.out x' (List.mem_of_getElem? hxe)
      have HPl := Lib.hid (fun w' (hx : Ext W1 w') => R11Plain_any x' A' n' c' w' (hxat.ext hx) hsx.2 (rows_len hxat.1))
      have htx : (⟨x'.text.toArray⟩ : ByteArray).size ≤ 35184372088831 := text_size x' hsx.2 hxat.2.2 hxat.1.len
      have HCx := Lib.hid hcx
      generalize hT : (⟨x'.text.toArray⟩ : ByteArray) = T at *
      clear hT hcx hxat hsx hx' hxe
      unfold Ev.cells at HPl
      have hST : QSt [fun u _ => u = Value.int .i64 (m : Int), fun u _ => u = .string T, fun u w => ∃ g, u = .pointer (some ⟨g, 0, none⟩) ∧ W1.heap.size ≤ g ∧ w.heap[g]? = some (.stringIter T 0)] := by
        intro p hp u w w' hx h
        simp only [List.mem_cons, List.not_mem_nil, or_false] at hp
        rcases hp with rfl | rfl | rfl
        · exact h
        · exact h
        · obtain ⟨g, h1, h2, h3⟩ := h
          exact ⟨g, h1, h2, (hx.block g (Array.getElem?_eq_some_iff.1 h3).1).trans h3⟩
      refine wp_region_links [some 30, some 31, some 32, some 33, some 34, some 35, some 36, some 37, some 38, some 39] [[], [0], [], [], [3], [2, 4], [1, 5], [6], [7, 5], [8]] [5, 8, 9] [.pointer (some ⟨w.heap.size, 6, none⟩), .slice (some ⟨eb, eoff, none⟩) hen hec, .agg #[.string d.title, .string d.lang, .int .u8 d.rate, .bool d.drop, .int .i64 d.last, .slice hra nr hrc, .slice (some ⟨eb, eoff, none⟩) hen hec, .slice (some ⟨cb, coff, none⟩) nc hcc], .pointer (some ⟨gC, 1, none⟩), .int .i64 c.ev, undef, .pointer (some ⟨eb, eoff + m * 7, none⟩), .agg #[.int .i64 x'.id, .int .i64 x'.inn, .int .i64 x'.out, .string x'.region, .int .u8 x'.kind, .string x'.speaker, .slice A' n' c'], undef, undef] (QJ [fun u _ => u = Value.int .i64 (m : Int), fun u _ => u = .string T, fun u w => ∃ g, u = .pointer (some ⟨g, 0, none⟩) ∧ W1.heap.size ≤ g ∧ w.heap[g]? = some (.stringIter T 0)] W1) (by kernel_rfl) (by kernel_rfl) (by kernel_rfl) (by kernel_rfl) (by kernel_rfl) (by kernel_rfl) (by kernel_rfl) (by decide) ?_ ?_ ?_ ?_
      · exact QJ.start _ W1
      · intro i o ho hc a w' us K' hJ hF hlim hk
        match i, ho with
        | 0, ho =>
          simp only [List.getElem?_toArray, List.getElem?_cons_zero, List.getElem?_cons_succ, Option.some.injEq] at ho
          subst ho
          have e2 := hF.old 2 (.pointer (some ⟨w.heap.size, 0, none⟩)) rfl rfl
          simp only [Act.eval] at e2
          clear hF hlim hJ
          go_simp
          exact hk
        | 1, ho =>
          simp only [List.getElem?_toArray, List.getElem?_cons_zero, List.getElem?_cons_succ, Option.some.injEq] at ho
          subst ho
          have e30 := hF.pure 0 30 (.pointer (some ⟨w.heap.size, 6, none⟩)) rfl rfl rfl rfl
          have hcl : w'.cell? ⟨w.heap.size, 6, none⟩ = some (.slice (some ⟨eb, eoff, none⟩) hen hec) := (HB_16.out.ext hJ.ext).cell 6
          simp only [Act.eval] at e30
          clear hF hlim hJ
          go_simp
          exact hk
        | 2, ho =>
          simp only [List.getElem?_toArray, List.getElem?_cons_zero, List.getElem?_cons_succ, Option.some.injEq] at ho
          subst ho
          have e2 := hF.old 2 (.pointer (some ⟨w.heap.size, 0, none⟩)) rfl rfl
          exact wp_loadBk 27 (.tmp 2) rfl _ 27 _ _ e2 (HB_16.out.ext hJ.ext) Tryz.underlying27 rfl (by exact size_docI) hk
        | 3, ho =>
          simp only [List.getElem?_toArray, List.getElem?_cons_zero, List.getElem?_cons_succ, Option.some.injEq] at ho
          subst ho
          have e8 := hF.old 8 (.pointer (some ⟨gC, 0, none⟩)) rfl rfl
          simp only [Act.eval] at e8
          clear hF hlim hJ
          go_simp
          exact hk
        | 4, ho =>
          simp only [List.getElem?_toArray, List.getElem?_cons_zero, List.getElem?_cons_succ, Option.some.injEq] at ho
          subst ho
          have e33 := hF.pure 3 33 (.pointer (some ⟨gC, 1, none⟩)) rfl rfl rfl rfl
          have hcl : w'.cell? ⟨gC, 1, none⟩ = some (.int .i64 c.ev) := (HB_13.out.ext hJ.ext).cell 1
          simp only [Act.eval] at e33
          clear hF hlim hJ
          go_simp
          exact hk
        | 5, ho => simp at hc
        | 6, ho =>
          simp only [List.getElem?_toArray, List.getElem?_cons_zero, List.getElem?_cons_succ, Option.some.injEq] at ho
          subst ho
          have e31 := hF.pure 1 31 (.slice (some ⟨eb, eoff, none⟩) hen hec) rfl rfl rfl rfl
          obtain ⟨v35, hv35⟩ := getElem_ltq (hF.did 0 5 rfl rfl)
          have e35 := hF.link 0 5 35 _ rfl rfl rfl hv35
          have hu0 : v35 = .int .i64 (m : Int) := hJ.val 0 v35 _ hv35 rfl
          rw [hu0] at e35
          exact wp_ix_ev rfl e31 e35 (by omega) hk
        | 7, ho =>
          simp only [List.getElem?_toArray, List.getElem?_cons_zero, List.getElem?_cons_succ, Option.some.injEq] at ho
          subst ho
          have e36 := hF.pure 6 36 (.pointer (some ⟨eb, eoff + m * 7, none⟩)) rfl rfl rfl rfl
          exact wp_load_ev rfl eb _ x' A' n' c' e36 (fun j u hu => hJ.ext.cell (HCx.out j u hu)) hk
        | 8, ho => simp at hc
        | 9, ho => simp at hc
        | i + 10, ho => simp at ho
      · intro p c' o hp ho a w' us K' hl hJ hF hk
        match p, hp with
        | 0, hp =>
          obtain rfl : 5 = c' := by simpa using hp
          simp only [List.getElem?_toArray, List.getElem?_cons_zero, List.getElem?_cons_succ, Option.some.injEq] at ho
          subst ho
          obtain rfl : us = [] := List.eq_nil_of_length_eq_zero hl
          have e32 := hF.pure 2 32 (.agg #[.string d.title, .string d.lang, .int .u8 d.rate, .bool d.drop, .int .i64 d.last, .slice hra nr hrc, .slice (some ⟨eb, eoff, none⟩) hen hec, .slice (some ⟨cb, coff, none⟩) nc hcc]) rfl rfl rfl rfl
          have e34 := hF.pure 4 34 (.int .i64 c.ev) rfl rfl rfl rfl
          exact wp_call2 rfl e32 e34 Tryz.call39 (HFv.out w' (HX_15.out.trans hJ.ext)) (fun w2 hx2 => hk _ w2 (hJ.push hST hx2 (fun p hp => by cases hp; rfl)))
        | 1, hp =>
          obtain rfl : 8 = c' := by simpa using hp
          simp only [List.getElem?_toArray, List.getElem?_cons_zero, List.getElem?_cons_succ, Option.some.injEq] at ho
          subst ho
          obtain ⟨u0, rfl⟩ := list_1 hl
          have e37 := hF.pure 7 37 (.agg #[.int .i64 x'.id, .int .i64 x'.inn, .int .i64 x'.out, .string x'.region, .int .u8 x'.kind, .string x'.speaker, .slice A' n' c']) rfl rfl rfl rfl
          exact wp_call1s rfl e37 Tryz.call87 (HPl.out w' hJ.ext) (fun w2 hx2 => hk _ w2 (hJ.push hST hx2 (fun p hp => by cases hp; rfl)))
        | 2, hp =>
          obtain rfl : 9 = c' := by simpa using hp
          simp only [List.getElem?_toArray, List.getElem?_cons_zero, List.getElem?_cons_succ, Option.some.injEq] at ho
          subst ho
          obtain ⟨u0, u1, rfl⟩ := list_2 hl
          have e38 := hF.link 1 8 38 _ rfl rfl rfl rfl
          have hu1 : u1 = .string T := hJ.val 1 u1 _ rfl rfl
          rw [hu1] at e38
          simp only [Act.eval] at e38
          have HK := Lib.hid (hk (.pointer (some ⟨w'.heap.size, 0, none⟩)) (w'.iter T 0) (hJ.push hST ((Ext.refl w').iter T 0) (fun p hp => by cases hp; exact ⟨_, rfl, hJ.ext.size, World.iter_heap _ _ _⟩)))
          clear hk hF hJ
          go_simp
          exact HK.out
        | p + 3, hp => simp at hp
      intro us w9 hl hJ
      obtain ⟨u0, u1, u2, rfl⟩ := list_3 hl
      first | (rename_i hK; refine hK _ _ ?_; clear hK) | (rename_i hK hK_1; refine hK _ _ ?_; clear hK) | (rename_i hK hK_1 hK_2; refine hK _ _ ?_; clear hK) | (rename_i hK hK_1 hK_2 hK_3; refine hK _ _ ?_; clear hK)
      generalize hL : frameL _ _ _ _ = L
      obtain rfl : L = [(30, .pointer (some ⟨w.heap.size, 6, none⟩)), (31, .slice (some ⟨eb, eoff, none⟩) hen hec), (32, .agg #[.string d.title, .string d.lang, .int .u8 d.rate, .bool d.drop, .int .i64 d.last, .slice hra nr hrc, .slice (some ⟨eb, eoff, none⟩) hen hec, .slice (some ⟨cb, coff, none⟩) nc hcc]), (33, .pointer (some ⟨gC, 1, none⟩)), (34, .int .i64 c.ev), (35, u0), (36, .pointer (some ⟨eb, eoff + m * 7, none⟩)), (37, .agg #[.int .i64 x'.id, .int .i64 x'.inn, .int .i64 x'.out, .string x'.region, .int .u8 x'.kind, .string x'.speaker, .slice A' n' c']), (38, u1), (39, u2)] := hL.symm.trans (by kernel_rfl)
      clear hL hl
      simp only [Act.put, List.foldl_cons, List.foldl_nil, List.setIfInBounds_toArray, List.set_cons_zero, List.set_cons_succ]
      obtain ⟨g, hu2, hgW, hit⟩ : ∃ g, u2 = .pointer (some ⟨g, 0, none⟩) ∧ W1.heap.size ≤ g ∧ w9.heap[g]? = some (.stringIter T 0) := hJ.val 2 u2 _ rfl rfl
      subst hu2
      have hx9 := hJ.ext
      have hL9 := runes_len T
      have HQt : Hid (∀ l : List Int, (quoteT c.fr c.til l).size ≤ 4 * l.length) := by
        show ∀ l : List Int, _
        intro l
        have := quoteT_size c.fr c.til l l.length (Nat.le_refl _)
        rwa [List.take_length] at this
      have HX15 := HX_15
      clear hJ hST HPl HCx
      go_wp2_with fail
      go_loopw [9, 10] (fun v i wr => QrRel T W1 g c.fr c.til v i wr) (fun _ _ wr => T.size - wr.iterPos g)
      case atStart => exact ⟨0, [], hit, hx9, rfl, Nat.le_refl _, rfl, rfl⟩
      case round =>
        obtain ⟨pos, l, hk, hx, hp, hle, rfl, rfl⟩ := hrel
        have hpos0 := Lib.hid (iterPos_of hk)
        have HP := Lib.hid hp
        clear hp
        by_cases hlt : pos < T.size
        · have hn := fun ty => Lib.run_next_any_at (P := Tryz.prog) wr _ T pos ty hk hlt
          have hstep := Lib.hid (runes_step T pos hlt)
          have hw := dec_pos T pos hlt
          have hk2 := Lib.iterAt_heap wr _ T pos (pos + (Utf8.decode T pos).2) hk
          have hx2 := hx.iterAt hgW T (pos + (Utf8.decode T pos).2)
          have HS : Hid (quoteT c.fr c.til (l ++ [((Utf8.decode T pos).1 : Int)]) = qstep c.fr c.til (quoteT c.fr c.til l) (((Utf8.decode T pos).1 : Int), l.length)) := quoteT_snoc _ _ _ _
          have hsz := HQt.out l
          have hes := enc_size ((Utf8.decode T pos).1 : Int)
          obtain ⟨W2, hW2⟩ : ∃ W2, W2 = wr.iterAt g T (pos + (Utf8.decode T pos).2) := ⟨_, rfl⟩
          rw [← hW2] at hn hk2 hx2
          have HK := Lib.hid hk2
          have HX2 := Lib.hid hx2
          have HBj := Lib.hid (HB_13.out.ext hx2)
          have hcj := fun o => HBj.out.cell o
          have hll : l.length ≤ 35184372088831 := by omega
          have HPos := Lib.hid (iterPos_of hk2)
          have HR2 : Hid (runes T 0 = (l ++ [((Utf8.decode T pos).1 : Int)]) ++ runes T (pos + (Utf8.decode T pos).2)) := by show _ = _; rw [HP.out, hstep.out]; simp
          have HLn : Hid ((l ++ [((Utf8.decode T pos).1 : Int)]).length ≤ pos + (Utf8.decode T pos).2) := by show _ ≤ _; rw [List.length_append, List.length_singleton]; omega
          have HCt : Hid (((l ++ [((Utf8.decode T pos).1 : Int)]).length : Int) = (l.length : Int) + 1) := by show _ = _; simp
          have HW : Hid (T.size - (pos + (Utf8.decode T pos).2) < T.size - pos) := by show _ < _; omega
          clear hW2 hk2 hx2 hk hx hstep hw
          by_cases q1 : c.fr ≤ (l.length : Int)
          · by_cases q2 : (l.length : Int) < c.til
            · have HQ2 : Hid (qstep c.fr c.til (quoteT c.fr c.til l) (((Utf8.decode T pos).1 : Int), l.length) = quoteT c.fr c.til l ++ Utf8.encode ((Utf8.decode T pos).1 : Int)) := by show _ = _; unfold qstep; rw [if_pos ⟨q1, q2⟩]
              generalize quoteT c.fr c.til l = acc at *
              have hs9 : ¬ 9223372036854775807 < acc.size + (Utf8.encode ((Utf8.decode T pos).1 : Int)).size := by omega
              go_wp2_with fail
              exact ⟨⟨_, _, HK.out, HX2.out, HR2.out, HLn.out, by rw [HS.out, HQ2.out], by rw [HCt.out]⟩, by rw [HPos.out, hpos0.out]; exact HW.out⟩
            have HQ2 : Hid (qstep c.fr c.til (quoteT c.fr c.til l) (((Utf8.decode T pos).1 : Int), l.length) = quoteT c.fr c.til l) := by show _ = _; unfold qstep; rw [if_neg (by simp only; omega)]
            go_wp2_with fail
            exact ⟨⟨_, _, HK.out, HX2.out, HR2.out, HLn.out, by rw [HS.out, HQ2.out], by rw [HCt.out]⟩, by rw [HPos.out, hpos0.out]; exact HW.out⟩
          have HQ2 : Hid (qstep c.fr c.til (quoteT c.fr c.til l) (((Utf8.decode T pos).1 : Int), l.length) = quoteT c.fr c.til l) := by show _ = _; unfold qstep; rw [if_neg (by simp only; omega)]
          go_wp2_with fail
          exact ⟨⟨_, _, HK.out, HX2.out, HR2.out, HLn.out, by rw [HS.out, HQ2.out], by rw [HCt.out]⟩, by rw [HPos.out, hpos0.out]; exact HW.out⟩
        · have hn := fun ty => Lib.run_next_end_at (P := Tryz.prog) wr _ T pos ty hk hlt
          have HL : Hid (runes T 0 = l) := by show _ = _; rw [HP.out, runes_end T pos hlt]; simp
          have HXj := Lib.hid hx
          clear hx HP
          go_wp2_with fail
          go_ret2
          exact ⟨by rw [HQ.out, HL.out]; rfl, HX15.out.trans HXj.out⟩
end Go.Proofs.YtagfedbdakmlgaaGreatDoor
