/- Laid together: The walk of document.Insert. The walks of the reference's charset: Repertoire, Index, Valid. The walks of the reference's charset: runes, Len. Positions that move from one text to another, plainly. The walks of the other functions 'runes'. The characters on which a comment stands, plainly; calls in a drawn region, one after the other. -/
import Derived.Test.YtagfedbdakmlgaaDoorKe14
import Derived.Test.YtagfedbdakmlgaaDoorKe13
import Derived.Test.YtagfedbdakmlgaaDoorKe08
import Derived.Test.YtagfedbdakmlgaaDoorKe02
import Derived.Lib.ValidLaws
import Derived.Lib.TrimUEq
import Derived.Test.YtagfedbdakmlgaaDoorKe03
import Derived.Test.YtagfedbdakmlgaaDoorRows
import Derived.Test.YtagfedbdakmlgaaDoorKe09
import Derived.Test.YtagfedbdakmlgaaDoorKe05
import Derived.Test.YtagfedbdakmlgaaDoorKe12

/-! InsD -/
namespace Go.Proofs.YtagfedbdakmlgaaDoor
set_option linter.unusedVariables false
set_option linter.unusedSimpArgs false
open Go.RowKit
set_option maxRecDepth 100000 in
set_option maxHeartbeats 8000000 in
theorem DInsert_any (d : Doc) (h : DocH) (e : Ev) (A : Option Addr) (n c : Nat) (w : World) (hE : Env w) (hat : DocAt w d h) (hf : DocFit d) (hrn : h.rn ≤ 9223372036854775807) (hr : h.rn * 56 ≤ 140737488355328) (hn : h.en ≤ 1000000) (hcn : h.cn ≤ 1000000) (he : EvAt w e A n c) (hes : EvSmall e) :
    Calls Tryd.prog 15 #[.agg (d.cells h), .agg (e.cells A n c)] w (DIEPost (d.insX e) w) := by
  have HX : Hid (Ext w (((w.alloc (.cells (d.cells h) 39)).alloc (.cells (e.cells A n c) 45)).alloc (.cells docZero 39))) := (((Ext.refl w).alloc _).alloc _).alloc _
  have HB : Hid (Blk (((w.alloc (.cells (d.cells h) 39)).alloc (.cells (e.cells A n c) 45)).alloc (.cells docZero 39)) w.heap.size 39 (d.cells h)) := ((Blk.new w _ _).alloc _).alloc _
  have HV : Hid (Blk (((w.alloc (.cells (d.cells h) 39)).alloc (.cells (e.cells A n c) 45)).alloc (.cells docZero 39)) (w.heap.size + 1) 45 (e.cells A n c)) := (Blk.new' (by simp)).alloc _
  have HZ : Hid (Blk (((w.alloc (.cells (d.cells h) 39)).alloc (.cells (e.cells A n c) 45)).alloc (.cells docZero 39)) (w.heap.size + 2) 39 docZero) := Blk.new' (by simp)
  have HCk := Lib.hid (fun w' (hx : Ext w w') => DCheck_any d h w' (hE.ext hx) (hat.ext hx) hf hrn hn (by omega))
  have HTk := Lib.hid (fun w' (hx : Ext w w') => DTaken_any d h e.id w' (hat.ext hx) hn hcn)
  have HEc : Hid (∀ (i : Int) w', Ext w w' → Calls Tryd.prog 37 #[.agg #[.int .i64 i, .int .i64 e.inn, .int .i64 e.out, .string e.region, .int .u8 e.kind, .string e.speaker, .slice A n c], .slice h.ra h.rn h.rc] w' fun en w'' => en = .returned (.int .i64 ((e.setId i).err d.regs)) ∧ Ext w' w'') := fun i w' hx => ECheck_any (e.setId i) A n c h.ra h.rn h.rc d.regs w' (hE.ext hx) ((he.ext hx).setId i) (hes.setId i) (hat.regs.ext hx) hrn hf.regs
  have HCl := Lib.hid (fun w' (hx : Ext w w') => DClone_any d h w' (hat.ext hx) hr (by omega) (by omega))
  have HEl := Lib.hid hat.evs.len
  have HEa := Lib.hid he
  clear hat hE hf hrn hr he hes
  obtain ⟨hra, nr, hrc, hea, hen, hec, hca, nc, hcc⟩ := h
  unfold DClPost at HCl
  unfold Doc.cells docZero Ev.cells at *
  dsimp only at *
  go_enter Tryd.func15, Tryd.ntmps15
  go_wp2_with (refine wpList_loadB rfl 39 (.tmp 2) rfl (w.heap.size) 39 _ _ (by exact rfl) (by exact HB.out) Tryd.underlying39 rfl (by exact size_docI) ?_)
  refine (HCk.out _ HX.out).mono ?_
  rintro en w0 ⟨rfl, hx0⟩
  have HX0 := Lib.hid (HX.out.trans hx0)
  have HB0 := Lib.hid (HB.out.ext hx0)
  have HZ0 := Lib.hid (HZ.out.ext hx0)
  have HV0 := Lib.hid (HV.out.ext hx0)
  clear hx0 HX HB HZ HV HCk
  have hcd := fun o => HB0.out.cell o
  have hce := fun o => HV0.out.cell o
  by_cases h0 : d.err = 0
  case neg =>
    have hne1 : (d.err == 0) = false := by simpa using h0
    have hne2 : (d.err != 0) = true := by simpa using h0
    have HN0 := Lib.hid h0
    clear h0
    have HErr : Hid (d.insX e = (Doc.zero, 0, d.err)) := ins_1 HN0.out
    go_wp2_with (first | (refine wpList_storeB rfl 39 (.tmp 4) _ rfl (w.heap.size + 2) 39 _ _ (by exact rfl) (by exact rfl) (by exact HZ0.out) (by exact rfl) (by exact size_docI) (by simp [Value.oneCell']) ?_))
    refine bodyPost_ret (v := .tuple #[.agg docZero, .int .i64 0, .int .i64 (d.err)]) ?_ rfl (diePost_err HErr.out (HX0.out.put (by omega) _ _))
    exact results_B_tmp2 (P := Tryd.prog) Tryd.results15 (g := w.heap.size + 2) rfl (by exact HZ0.out.put _) Tryd.underlying39 rfl size_docI
  have H0 := Lib.hid h0
  have HD0 := Lib.hid (head_ok' (doc_ok h0).1)
  have hl0 := HD0.out.2.2.2.2.1
  have hl1 := HD0.out.2.2.2.2.2
  rw [h0]
  clear h0
  by_cases hi0 : e.id = 0
  · have hid0 := Lib.hid hi0
    have hie : (e.id == 0) = true := by simpa using hi0
    by_cases hmx : 1099511627776 ≤ d.last
    · have HE1 := Lib.hid (e1_9 (d := d) hi0 hmx)
      clear hi0
      have HErr : Hid (d.insX e = (Doc.zero, 0, 9)) := ins_2 H0.out HE1.out (by decide)
      go_wp2_with (first | (refine wpList_storeB rfl 39 (.tmp 4) _ rfl (w.heap.size + 2) 39 _ _ (by exact rfl) (by exact rfl) (by exact HZ0.out) (by exact rfl) (by exact size_docI) (by simp [Value.oneCell']) ?_))
      refine bodyPost_ret (v := .tuple #[.agg docZero, .int .i64 0, .int .i64 (9)]) ?_ rfl (diePost_err HErr.out (HX0.out.put (by omega) _ _))
      exact results_B_tmp2 (P := Tryd.prog) Tryd.results15 (g := w.heap.size + 2) rfl (by exact HZ0.out.put _) Tryd.underlying39 rfl size_docI
    have HE1 := Lib.hid (e1_a (d := d) hi0 hmx)
    clear hi0
    have hs1 := setCell_put HV0.out 0 (.int .i64 (d.last + 1))
    have hf1 := HV0.out.frozen 0
    simp at hs1
    have HV1 := Lib.hid (HV0.out.put #[.int .i64 (d.last + 1), .int .i64 e.inn, .int .i64 e.out, .string e.region, .int .u8 e.kind, .string e.speaker, .slice A n c])
    have HB1 := Lib.hid (HB0.out.put_other (g' := w.heap.size + 1) (t' := 45) (by omega) #[.int .i64 (d.last + 1), .int .i64 e.inn, .int .i64 e.out, .string e.region, .int .u8 e.kind, .string e.speaker, .slice A n c])
    have HZ1 := Lib.hid (HZ0.out.put_other (g' := w.heap.size + 1) (t' := 45) (by omega) #[.int .i64 (d.last + 1), .int .i64 e.inn, .int .i64 e.out, .string e.region, .int .u8 e.kind, .string e.speaker, .slice A n c])
    have HX1 := Lib.hid (HX0.out.put (g := w.heap.size + 1) (by omega) 45 #[.int .i64 (d.last + 1), .int .i64 e.inn, .int .i64 e.out, .string e.region, .int .u8 e.kind, .string e.speaker, .slice A n c])
    go_upto_region 13 with fail
    clear hs1 hf1 hcd hce HX0 HB0 HZ0 HV0 HTk
    obtain ⟨W1, hW1⟩ : ∃ W1, W1 = putB w0 (w.heap.size + 1) 45 #[.int .i64 (d.last + 1), .int .i64 e.inn, .int .i64 e.out, .string e.region, .int .u8 e.kind, .string e.speaker, .slice A n c] := ⟨_, rfl⟩
    rw [← hW1] at HX1 HB1 HZ1 HV1 ⊢
    clear hW1
    have HI : Hid (d.insId e = (d.last + 1)) := by show _ = _; unfold Doc.insId; rw [if_pos hid0.out]
    have HLs : Hid (d.insLast e = (d.last + 1)) := by show _ = _; unfold Doc.insLast; rw [if_pos hid0.out]
    have HEc2 := Lib.hid (HEc.out (d.last + 1))
    clear HEc
    have hcb := fun o => HB1.out.cell o
    go_wp2_with (first | (refine wpList_loadB rfl 45 (.tmp 3) rfl (w.heap.size + 1) 45 _ _ (by exact rfl) (by exact HV1.out) Tryd.underlying45 rfl (by exact size_event) ?_))
    refine (HEc2.out _ HX1.out).mono ?_
    rintro en w6 ⟨rfl, hx6⟩
    have HX6 := Lib.hid (HX1.out.trans hx6)
    have HB6 := Lib.hid (HB1.out.ext hx6)
    have HZ6 := Lib.hid (HZ1.out.ext hx6)
    have HV6 := Lib.hid (HV1.out.ext hx6)
    clear hcb hx6 HX1 HB1 HZ1 HV1 HEc2
    by_cases hee : (e.setId (d.last + 1)).err d.regs = 0
    case neg =>
      have HE3 : Hid ((e.setId (d.insId e)).err d.regs = (e.setId (d.last + 1)).err d.regs) := by show _ = _; rw [HI.out]
      have hne1 : ((e.setId (d.last + 1)).err d.regs == 0) = false := by simpa using hee
      have hne2 : ((e.setId (d.last + 1)).err d.regs != 0) = true := by simpa using hee
      have HNe := Lib.hid hee
      clear hee
      have HErr : Hid (d.insX e = (Doc.zero, 0, (e.setId (d.last + 1)).err d.regs)) := ins_3 H0.out HE1.out HE3.out HNe.out
      go_wp2_with (first | (refine wpList_storeB rfl 39 (.tmp 4) _ rfl (w.heap.size + 2) 39 _ _ (by exact rfl) (by exact rfl) (by exact HZ6.out) (by exact rfl) (by exact size_docI) (by simp [Value.oneCell']) ?_))
      refine bodyPost_ret (v := .tuple #[.agg docZero, .int .i64 0, .int .i64 ((e.setId (d.last + 1)).err d.regs)]) ?_ rfl (diePost_err HErr.out (HX6.out.put (by omega) _ _))
      exact results_B_tmp2 (P := Tryd.prog) Tryd.results15 (g := w.heap.size + 2) rfl (by exact HZ6.out.put _) Tryd.underlying39 rfl size_docI
    have HEe : Hid ((e.setId (d.insId e)).err d.regs = 0) := by show _ = _; rw [HI.out]; exact hee
    rw [hee]
    clear hee
    have hcb := fun o => HB6.out.cell o
    by_cases hlm : 400 ≤ hen
    · have hlz : (400 : Int) ≤ (hen : Int) := by omega
      have HErr : Hid (d.insX e = (Doc.zero, 0, 9)) := ins_4 H0.out HE1.out HEe.out (by have := HEl.out; omega)
      go_wp2_with (first | (refine wpList_storeB rfl 39 (.tmp 4) _ rfl (w.heap.size + 2) 39 _ _ (by exact rfl) (by exact rfl) (by exact HZ6.out) (by exact rfl) (by exact size_docI) (by simp [Value.oneCell']) ?_))
      refine bodyPost_ret (v := .tuple #[.agg docZero, .int .i64 0, .int .i64 (9)]) ?_ rfl (diePost_err HErr.out (HX6.out.put (by omega) _ _))
      exact results_B_tmp2 (P := Tryd.prog) Tryd.results15 (g := w.heap.size + 2) rfl (by exact HZ6.out.put _) Tryd.underlying39 rfl size_docI
    have hlz : ¬ (400 : Int) ≤ (hen : Int) := by omega
    have HOk : Hid (d.insX e = (d.insD e, d.insId e, 0)) := ins_5 H0.out HE1.out HEe.out (by have := HEl.out; omega)
    go_wp2_with (first | (refine wpList_loadB rfl 39 (.tmp 2) rfl (w.heap.size) 39 _ _ (by exact rfl) (by exact HB6.out) Tryd.underlying39 rfl (by exact size_docI) ?_))
    clear hcb
    refine (HCl.out _ HX6.out).mono ?_
    rintro en w7 ⟨⟨ra, rn, rc, ea, en', ec, ca, cn, cc⟩, rfl, ho7, hx7⟩
    dsimp only
    have hsz6 := HX6.out.size
    have HO7 := Lib.hid ho7
    have hz6l := HZ6.out.lt
    have hen7 : en' = hen := by have h1 := ho7.evs.len; have h2 := HEl.out; dsimp only at h1; omega
    subst hen7
    have HX7 := Lib.hid (HX6.out.trans hx7)
    have hs67 := hx7.size
    have HB7 := Lib.hid (HB6.out.ext hx7)
    have HZ7 := Lib.hid (HZ6.out.ext hx7)
    have HV7 := Lib.hid (HV6.out.ext hx7)
    clear ho7 hx7 HX6 HB6 HZ6 HV6
    have HB8 := Lib.hid (HB7.out.put #[.string d.title, .string d.lang, .int .u8 d.rate, .bool d.drop, .int .i64 d.last, .slice ra rn rc, .slice ea en' ec, .slice ca cn cc])
    have HZ8 := Lib.hid (HZ7.out.put_other (g' := w.heap.size) (t' := 39) (by omega) #[.string d.title, .string d.lang, .int .u8 d.rate, .bool d.drop, .int .i64 d.last, .slice ra rn rc, .slice ea en' ec, .slice ca cn cc])
    have HV8 := Lib.hid (HV7.out.put_other (g' := w.heap.size) (t' := 39) (by omega) #[.string d.title, .string d.lang, .int .u8 d.rate, .bool d.drop, .int .i64 d.last, .slice ra rn rc, .slice ea en' ec, .slice ca cn cc])
    have HX8 := Lib.hid (HX7.out.put (g := w.heap.size) (Nat.le_refl _) 39 #[.string d.title, .string d.lang, .int .u8 d.rate, .bool d.drop, .int .i64 d.last, .slice ra rn rc, .slice ea en' ec, .slice ca cn cc])
    have HO8 := Lib.hid (HO7.out.put HB7.out #[.string d.title, .string d.lang, .int .u8 d.rate, .bool d.drop, .int .i64 d.last, .slice ra rn rc, .slice ea en' ec, .slice ca cn cc])
    have hs8 := fun u => setCell_put HB8.out 4 u
    have hc8 := fun o => HB8.out.cell o
    have hf8 := HB8.out.frozen 4
    simp at hs8
    have HB9 := Lib.hid (HB8.out.put #[.string d.title, .string d.lang, .int .u8 d.rate, .bool d.drop, .int .i64 (d.last + 1), .slice ra rn rc, .slice ea en' ec, .slice ca cn cc])
    have HZ9 := Lib.hid (HZ8.out.put_other (g' := w.heap.size) (t' := 39) (by omega) #[.string d.title, .string d.lang, .int .u8 d.rate, .bool d.drop, .int .i64 (d.last + 1), .slice ra rn rc, .slice ea en' ec, .slice ca cn cc])
    have HV9 := Lib.hid (HV8.out.put_other (g' := w.heap.size) (t' := 39) (by omega) #[.string d.title, .string d.lang, .int .u8 d.rate, .bool d.drop, .int .i64 (d.last + 1), .slice ra rn rc, .slice ea en' ec, .slice ca cn cc])
    have HX9 := Lib.hid (HX8.out.put (g := w.heap.size) (Nat.le_refl _) 39 #[.string d.title, .string d.lang, .int .u8 d.rate, .bool d.drop, .int .i64 (d.last + 1), .slice ra rn rc, .slice ea en' ec, .slice ca cn cc])
    have HO9 := Lib.hid (HO8.out.put HB8.out #[.string d.title, .string d.lang, .int .u8 d.rate, .bool d.drop, .int .i64 (d.last + 1), .slice ra rn rc, .slice ea en' ec, .slice ca cn cc])
    go_upto_region 21 with (first | (refine wpList_storeB rfl 39 (.tmp 2) _ rfl (w.heap.size) 39 _ _ (by exact rfl) (by exact rfl) (by exact HB7.out) (by exact rfl) (by exact size_docI) (by simp [Value.oneCell']) ?_))
    clear hs8 hc8 hf8
    obtain ⟨W, hW⟩ : ∃ W, W = putB (putB w7 w.heap.size 39 #[.string d.title, .string d.lang, .int .u8 d.rate, .bool d.drop, .int .i64 d.last, .slice ra rn rc, .slice ea en' ec, .slice ca cn cc]) w.heap.size 39 #[.string d.title, .string d.lang, .int .u8 d.rate, .bool d.drop, .int .i64 (d.last + 1), .slice ra rn rc, .slice ea en' ec, .slice ca cn cc] := ⟨_, rfl⟩
    have hWs : w6.heap.size ≤ W.heap.size := by rw [hW]; simp [putB]; exact hs67
    rw [← hW] at HB9 HZ9 HV9 HX9 HO9 ⊢
    clear hW HB8 HZ8 HV8 HX8 HO8 HB7 HZ7 HV7 HX7 HO7
    obtain ⟨hs, hown, hh, hel, hgd⟩ := HO9.out.evs
    dsimp only at hown hh hel hgd
    have HOw := Lib.hid hown
    have HGd := Lib.hid hgd
    have HHl := Lib.hid hh
    have HEvl := Lib.hid hel
    have hc9 := fun o => HB9.out.cell o
    clear hown hgd hh hel
    have hszW := HX9.out.size
    go_wp2_with (first | (refine wpList_loadB rfl 45 (.tmp 3) rfl (w.heap.size + 1) 45 _ _ (by exact rfl) (by exact HV9.out) Tryd.underlying45 rfl (by exact size_event) ?_) | (at_builtin; refine wpList_append1 rfl (.tmp 72) (.tmp 74) 36 rfl info_evtI Tryd.underlying36 rfl (by decide) (HOw.out.alloc _) (by exact rfl) W.heap.size _ (by exact rfl) (by exact Blk.new' rfl) (by exact rfl) (by simp [Value.oneCell']) (by omega) (by simp [maxLen]; omega) (by simp; omega) ?_; intro v5 w5 hown5 hgr5; obtain ⟨A5, c5, rfl⟩ := own_isSlice hown5))
    clear hc9
    have hown4 := HOw.out.alloc (.cells #[.int .i64 (d.last + 1), .int .i64 e.inn, .int .i64 e.out, .string e.region, .int .u8 e.kind, .string e.speaker, .slice A n c] 45)
    have hty := own_typed hown4
    have hlt := own_lt hown4
    have HX10 := Lib.hid ((HX9.out.alloc (.cells #[.int .i64 (d.last + 1), .int .i64 e.inn, .int .i64 e.out, .string e.region, .int .u8 e.kind, .string e.speaker, .slice A n c] 45)).grown hgr5 (fun q hq => by have := hlt q hq; omega))
    have HB10 := Lib.hid ((HB9.out.alloc (.cells #[.int .i64 (d.last + 1), .int .i64 e.inn, .int .i64 e.out, .string e.region, .int .u8 e.kind, .string e.speaker, .slice A n c] 45)).kb (KB.grown hgr5 hty (by decide)))
    have HZ10 := Lib.hid ((HZ9.out.alloc (.cells #[.int .i64 (d.last + 1), .int .i64 e.inn, .int .i64 e.out, .string e.region, .int .u8 e.kind, .string e.speaker, .slice A n c] 45)).kb (KB.grown hgr5 hty (by decide)))
    have HV10 : Hid (Blk w5 (w.heap.size + 1) 45 #[.int .i64 (d.last + 1), .int .i64 e.inn, .int .i64 e.out, .string e.region, .int .u8 e.kind, .string e.speaker, .slice A n c]) := by
      show Blk _ _ _ _
      have hold := HV9.out.alloc (.cells #[.int .i64 (d.last + 1), .int .i64 e.inn, .int .i64 e.out, .string e.region, .int .u8 e.kind, .string e.speaker, .slice A n c] 45)
      unfold Blk at hold ⊢
      rw [hgr5.block _ (Array.getElem?_eq_some_iff.1 hold).1 (fun hq => by have := hlt _ hq.symm; omega)]
      exact hold
    have hown6 : w5.ownsRow w6.heap.size 45 7 (.slice A5 (en' + 1) c5) (en' + 1) ((hs ++ [EH.of (e.setId (d.last + 1)) A n c]).flatMap EH.vals) := by
      rw [List.flatMap_append]
      simpa [EH.vals, EH.of, Ev.setId] using hown5
    obtain ⟨A6, c6, hv6, hc6, hm6, hsl6, -⟩ := own_sl (f := EH.vals) (size := 7) EH.len (by rw [List.length_append, HHl.out]; rfl) hown6
    cases hv6
    have k1 : KB 61 (W.alloc (.cells #[.int .i64 (d.last + 1), .int .i64 e.inn, .int .i64 e.out, .string e.region, .int .u8 e.kind, .string e.speaker, .slice A n c] 45)) w5 := KB.grown hgr5 hty (by decide)
    have k2 : KB 66 (W.alloc (.cells #[.int .i64 (d.last + 1), .int .i64 e.inn, .int .i64 e.out, .string e.region, .int .u8 e.kind, .string e.speaker, .slice A n c] 45)) w5 := KB.grown hgr5 hty (by decide)
    have hatS : EvsAt w5 A5 (en' + 1) (d.evs ++ [e.setId (d.last + 1)]) := by
      refine evsAt_heads hsl6 (by rw [List.length_append, HEvl.out]; rfl) (fun i h9 e9 hh9 he9 => ?_)
      by_cases hi : i < en'
      · rw [List.getElem?_append_left (by rw [HHl.out]; exact hi)] at hh9
        rw [List.getElem?_append_left (by rw [HEvl.out]; exact hi)] at he9
        have hg := ((HGd.out i h9 e9 hh9 he9).ext ((Ext.refl W).alloc (.cells #[.int .i64 (d.last + 1), .int .i64 e.inn, .int .i64 e.out, .string e.region, .int .u8 e.kind, .string e.speaker, .slice A n c] 45))).kb k1 k2
        exact ⟨hg.1, hg.at_⟩
      · have hil := (List.getElem?_eq_some_iff.1 hh9).1
        rw [List.length_append, HHl.out] at hil
        simp only [List.length_singleton] at hil
        obtain rfl : i = en' := by omega
        rw [List.getElem?_append_right (by rw [HHl.out]; exact Nat.le_refl _), HHl.out, Nat.sub_self] at hh9
        rw [List.getElem?_append_right (by rw [HEvl.out]; exact Nat.le_refl _), HEvl.out, Nat.sub_self] at he9
        simp only [List.getElem?_cons_zero, Option.some.injEq] at hh9 he9
        subst hh9 he9
        exact ⟨rfl, ((HEa.out.ext HX10.out).setId (d.last + 1))⟩
    have HSo := Lib.hid (DSort_any (d.evs ++ [e.setId (d.last + 1)]) A5 (en' + 1) c5 w5 hatS (by omega))
    have HRg9 := Lib.hid (own_kb (own_ext HO9.out.regs ((Ext.refl W).alloc (.cells #[.int .i64 (d.last + 1), .int .i64 e.inn, .int .i64 e.out, .string e.region, .int .u8 e.kind, .string e.speaker, .slice A n c] 45))) (KB.grown hgr5 hty (by decide)))
    have HCm9 := Lib.hid (own_kb (own_ext HO9.out.coms ((Ext.refl W).alloc (.cells #[.int .i64 (d.last + 1), .int .i64 e.inn, .int .i64 e.out, .string e.region, .int .u8 e.kind, .string e.speaker, .slice A n c] 45))) (KB.grown hgr5 hty (by decide)))
    have HRl9 := Lib.hid HO9.out.rlen
    have HCl9 := Lib.hid HO9.out.clen
    have hsz10 := HX10.out.size
    clear hown4 hty hlt hown5 hown6 hgr5 hsl6 k1 k2 hatS HB9 HZ9 HV9 HX9 HO9 HOw HGd HHl HEvl
    refine HSo.out.mono ?_
    rintro en w8 ⟨v8, rfl, hev8, hx8⟩
    obtain ⟨A8, c8, hv8, -, -, -⟩ := hev8.at_
    subst hv8
    have HX11 := Lib.hid (HX10.out.trans hx8)
    have HB11 := Lib.hid (HB10.out.ext hx8)
    have HZ11 := Lib.hid (HZ10.out.ext hx8)
    have HV11 := Lib.hid (HV10.out.ext hx8)
    have HE11 := Lib.hid hev8
    have HRg11 := Lib.hid (own_ext HRg9.out hx8)
    have HCm11 := Lib.hid (own_ext HCm9.out hx8)
    have hs11 := fun u => setCell_put HB11.out 6 u
    have hc11 := HB11.out.cell 6
    have hf11 := HB11.out.frozen 6
    simp at hs11 hc11
    clear hx8 hev8 HX10 HB10 HZ10 HV10 HRg9 HCm9 HSo
    go_upto_region 22 with fail
    clear hs11 hc11 hf11
    obtain ⟨W9, hW9⟩ : ∃ W9, W9 = putB w8 w.heap.size 39 #[.string d.title, .string d.lang, .int .u8 d.rate, .bool d.drop, .int .i64 (d.last + 1), .slice ra rn rc, .slice A8 (en' + 1) c8, .slice ca cn cc] := ⟨_, rfl⟩
    rw [← hW9]
    have HB12 : Hid (Blk W9 w.heap.size 39 #[.string d.title, .string d.lang, .int .u8 d.rate, .bool d.drop, .int .i64 (d.last + 1), .slice ra rn rc, .slice A8 (en' + 1) c8, .slice ca cn cc]) := by show Blk _ _ _ _; rw [hW9]; exact HB11.out.put _
    have HZ12 : Hid (Blk W9 (w.heap.size + 2) 39 #[.string ⟨#[]⟩, .string ⟨#[]⟩, .int .u8 0, .bool false, .int .i64 0, .slice none 0 0, .slice none 0 0, .slice none 0 0]) := by show Blk _ _ _ _; rw [hW9]; exact HZ11.out.put_other (by omega) _
    have HV12 : Hid (Blk W9 (w.heap.size + 1) 45 #[.int .i64 (d.last + 1), .int .i64 e.inn, .int .i64 e.out, .string e.region, .int .u8 e.kind, .string e.speaker, .slice A n c]) := by show Blk _ _ _ _; rw [hW9]; exact HV11.out.put_other (by omega) _
    have HX12 : Hid (Ext w W9) := by show Ext _ _; rw [hW9]; exact HX11.out.put (Nat.le_refl _) _ _
    have HO12 : Hid (DocOwn W9 w.heap.size (d.insD e) ⟨ra, rn, rc, A8, en' + 1, c8, ca, cn, cc⟩) := by
      show DocOwn _ _ _ _
      rw [hW9]
      refine DocOwn.mk (own_kb (own_le HRg11.out hsz6) (KB.put HB11.out (by decide))) HRl9.out ?_ (own_kb (own_le HCm11.out hsz6) (KB.put HB11.out (by decide))) HCl9.out
      show EvsOwn _ _ _ _ (srtE (d.evs ++ [e.setId (d.insId e)]))
      rw [HI.out]
      exact (HE11.out.kb (KB.put HB11.out (by decide)) (KB.put HB11.out (by decide)) (KB.put HB11.out (by decide))).le (by omega)
    have hne1 : w.heap.size ≠ w.heap.size + 2 := by omega
    have hne2 : w.heap.size + 1 ≠ w.heap.size + 2 := by omega
    clear hW9 HB11 HZ11 HV11 HX11 HE11 HRg11 HCm11
    refine wp_region_links [some 78, some 79, some 80, none, some 5, some 6] [[], [], [1], [0, 0], [2, 3, 0, 1, 2, 3], [4, 0, 1, 2, 3, 4]] [3] [.agg #[.string d.title, .string d.lang, .int .u8 d.rate, .bool d.drop, .int .i64 (d.last + 1), .slice ra rn rc, .slice A8 (en' + 1) c8, .slice ca cn cc], .pointer (some ⟨w.heap.size + 1, 0, none⟩), .int .i64 (d.last + 1), undef, .int .i64 (d.last + 1), .int .i64 0] (RdJ (w.heap.size + 2) #[.string d.title, .string d.lang, .int .u8 d.rate, .bool d.drop, .int .i64 (d.last + 1), .slice ra rn rc, .slice A8 (en' + 1) c8, .slice ca cn cc] W9) (by kernel_rfl) (by kernel_rfl) (by kernel_rfl) (by kernel_rfl) (by kernel_rfl) (by kernel_rfl) (by kernel_rfl) (by decide) ?_ ?_ ?_ ?_
    · exact RdJ.start _ _ W9
    · intro i o ho hc a w' us K' hJ hF hlim hk
      match i, ho with
      | 0, ho =>
        simp only [List.getElem?_toArray, List.getElem?_cons_zero, List.getElem?_cons_succ, Option.some.injEq] at ho
        subst ho
        have e2 := hF.old 2 (.pointer (some ⟨w.heap.size, 0, none⟩)) rfl rfl
        exact wp_loadBk 39 (.tmp 2) rfl _ 39 _ _ e2 (hJ.blk HB12.out hne1) Tryd.underlying39 rfl (by exact size_docI) hk
      | 1, ho =>
        simp only [List.getElem?_toArray, List.getElem?_cons_zero, List.getElem?_cons_succ, Option.some.injEq] at ho
        subst ho
        have e3 := hF.old 3 (.pointer (some ⟨w.heap.size + 1, 0, none⟩)) rfl rfl
        simp only [Act.eval] at e3
        clear hF hlim hJ
        go_simp
        exact hk
      | 2, ho =>
        simp only [List.getElem?_toArray, List.getElem?_cons_zero, List.getElem?_cons_succ, Option.some.injEq] at ho
        subst ho
        have e79 := hF.pure 1 79 (.pointer (some ⟨w.heap.size + 1, 0, none⟩)) rfl rfl rfl rfl
        have hcl : w'.cell? ⟨w.heap.size + 1, 0, none⟩ = some (.int .i64 (d.last + 1)) := (hJ.blk HV12.out hne2).cell 0
        simp only [Act.eval] at e79
        clear hF hlim hJ
        go_simp
        exact hk
      | 3, ho => simp at hc
      | 4, ho =>
        simp only [List.getElem?_toArray, List.getElem?_cons_zero, List.getElem?_cons_succ, Option.some.injEq] at ho
        subst ho
        have e80 := hF.pure 2 80 (.int .i64 (d.last + 1)) rfl rfl rfl rfl
        simp only [Act.eval] at e80
        clear hF hlim hJ
        go_simp
        exact hk
      | 5, ho =>
        simp only [List.getElem?_toArray, List.getElem?_cons_zero, List.getElem?_cons_succ, Option.some.injEq] at ho
        subst ho
        clear hF hlim hJ
        go_simp
        exact hk
      | i + 6, ho => simp at ho
    · intro p c' o hp ho a w' us K' hl hJ hF hk
      match p, hp with
      | 0, hp =>
        obtain rfl : 3 = c' := by simpa using hp
        simp only [List.getElem?_toArray, List.getElem?_cons_zero, List.getElem?_cons_succ, Option.some.injEq] at ho
        subst ho
        obtain rfl : us = [] := List.eq_nil_of_length_eq_zero hl
        have e4 := hF.old 4 (.pointer (some ⟨w.heap.size + 2, 0, none⟩)) rfl rfl
        have e78 := hF.pure 0 78 (.agg #[.string d.title, .string d.lang, .int .u8 d.rate, .bool d.drop, .int .i64 (d.last + 1), .slice ra rn rc, .slice A8 (en' + 1) c8, .slice ca cn cc]) rfl rfl rfl rfl
        exact wp_storeB 39 (.tmp 4) (.tmp 78) rfl (w.heap.size + 2) 39 _ _ e4 e78 (by exact size_docI) (by simp [Value.oneCell']) (hJ.blk_nil HZ12.out) rfl (hk undef _ hJ.store)
      | p + 1, hp => simp at hp
    intro us w10 hl hJ
    obtain ⟨u0, rfl⟩ := list_1 hl
    first | (rename_i hK; refine hK _ _ ?_; clear hK) | (rename_i hK hK_1; refine hK _ _ ?_; clear hK) | (rename_i hK hK_1 hK_2; refine hK _ _ ?_; clear hK) | (rename_i hK hK_1 hK_2 hK_3; refine hK _ _ ?_; clear hK)
    generalize hL : frameL _ _ _ _ = L
    obtain rfl : L = [(78, .agg #[.string d.title, .string d.lang, .int .u8 d.rate, .bool d.drop, .int .i64 (d.last + 1), .slice ra rn rc, .slice A8 (en' + 1) c8, .slice ca cn cc]), (79, .pointer (some ⟨w.heap.size + 1, 0, none⟩)), (80, .int .i64 (d.last + 1)), (5, .int .i64 (d.last + 1)), (6, .int .i64 0)] := hL.symm.trans (by kernel_rfl)
    clear hL hl
    simp only [Act.put, List.foldl_cons, List.foldl_nil, List.setIfInBounds_toArray, List.set_cons_zero, List.set_cons_succ]
    obtain ⟨w11, hx11, rfl⟩ := hJ.one
    clear hJ
    go_wp2_with fail
    refine bodyPost_ret (v := .tuple #[.agg #[.string d.title, .string d.lang, .int .u8 d.rate, .bool d.drop, .int .i64 (d.last + 1), .slice ra rn rc, .slice A8 (en' + 1) c8, .slice ca cn cc], .int .i64 (d.last + 1), .int .i64 0]) ?_ rfl ⟨⟨ra, rn, rc, A8, en' + 1, c8, ca, cn, cc⟩, ?_, ?_, ?_⟩
    · exact results_B_tmp2 (P := Tryd.prog) Tryd.results15 (g := w.heap.size + 2) rfl (by exact (HZ12.out.ext hx11).put _) Tryd.underlying39 rfl size_docI
    · rw [HOk.out]; show _ = Ending.returned (.tuple #[.agg ((d.insD e).cells _), .int .i64 (d.insId e), .int .i64 0]); rw [HI.out]; unfold Doc.cells Doc.insD; rw [HLs.out]
    · rw [HOk.out]; exact (HO12.out.ext hx11).put (HZ12.out.ext hx11) _
    · exact (HX12.out.trans hx11).put (by omega) _ _
  · have hid0 := Lib.hid hi0
    have hie : (e.id == 0) = false := by simpa using hi0
    by_cases hlo : e.id < 1
    · have HE1 := Lib.hid (e1_2 (d := d) hi0 (.inl hlo))
      clear hi0
      have HErr : Hid (d.insX e = (Doc.zero, 0, 2)) := ins_2 H0.out HE1.out (by decide)
      go_wp2_with (first | (refine wpList_storeB rfl 39 (.tmp 4) _ rfl (w.heap.size + 2) 39 _ _ (by exact rfl) (by exact rfl) (by exact HZ0.out) (by exact rfl) (by exact size_docI) (by simp [Value.oneCell']) ?_))
      refine bodyPost_ret (v := .tuple #[.agg docZero, .int .i64 0, .int .i64 (2)]) ?_ rfl (diePost_err HErr.out (HX0.out.put (by omega) _ _))
      exact results_B_tmp2 (P := Tryd.prog) Tryd.results15 (g := w.heap.size + 2) rfl (by exact HZ0.out.put _) Tryd.underlying39 rfl size_docI
    by_cases hhi : d.last < e.id
    · have HE1 := Lib.hid (e1_2 (d := d) hi0 (.inr hhi))
      clear hi0
      have HErr : Hid (d.insX e = (Doc.zero, 0, 2)) := ins_2 H0.out HE1.out (by decide)
      go_wp2_with (first | (refine wpList_storeB rfl 39 (.tmp 4) _ rfl (w.heap.size + 2) 39 _ _ (by exact rfl) (by exact rfl) (by exact HZ0.out) (by exact rfl) (by exact size_docI) (by simp [Value.oneCell']) ?_))
      refine bodyPost_ret (v := .tuple #[.agg docZero, .int .i64 0, .int .i64 (2)]) ?_ rfl (diePost_err HErr.out (HX0.out.put (by omega) _ _))
      exact results_B_tmp2 (P := Tryd.prog) Tryd.results15 (g := w.heap.size + 2) rfl (by exact HZ0.out.put _) Tryd.underlying39 rfl size_docI
    have HRg : Hid (¬ (e.id < 1 ∨ d.last < e.id)) := by show ¬ _; omega
    clear hi0
    go_wp2_with (first | (refine wpList_loadB rfl 39 (.tmp 2) rfl (w.heap.size) 39 _ _ (by exact rfl) (by exact HB0.out) Tryd.underlying39 rfl (by exact size_docI) ?_))
    clear hcd hce
    refine (HTk.out _ HX0.out).mono ?_
    rintro en w1 ⟨rfl, hx1⟩
    have HX1 := Lib.hid (HX0.out.trans hx1)
    have HB1 := Lib.hid (HB0.out.ext hx1)
    have HZ1 := Lib.hid (HZ0.out.ext hx1)
    have HV1 := Lib.hid (HV0.out.ext hx1)
    clear hx1 HX0 HB0 HZ0 HV0 HTk
    cases htk : d.takenB e.id
    case true =>
      have HE1 := Lib.hid (e1_7 hid0.out HRg.out htk)
      clear htk
      have HErr : Hid (d.insX e = (Doc.zero, 0, 7)) := ins_2 H0.out HE1.out (by decide)
      go_wp2_with (first | (refine wpList_storeB rfl 39 (.tmp 4) _ rfl (w.heap.size + 2) 39 _ _ (by exact rfl) (by exact rfl) (by exact HZ1.out) (by exact rfl) (by exact size_docI) (by simp [Value.oneCell']) ?_))
      refine bodyPost_ret (v := .tuple #[.agg docZero, .int .i64 0, .int .i64 (7)]) ?_ rfl (diePost_err HErr.out (HX1.out.put (by omega) _ _))
      exact results_B_tmp2 (P := Tryd.prog) Tryd.results15 (g := w.heap.size + 2) rfl (by exact HZ1.out.put _) Tryd.underlying39 rfl size_docI
    have HE1 := Lib.hid (e1_b hid0.out HRg.out htk)
    clear htk
    have HI : Hid (d.insId e = e.id) := by show _ = _; unfold Doc.insId; rw [if_neg hid0.out]
    have HLs : Hid (d.insLast e = d.last) := by show _ = _; unfold Doc.insLast; rw [if_neg hid0.out]
    have HEc2 := Lib.hid (HEc.out e.id)
    clear HEc
    have hcb := fun o => HB1.out.cell o
    go_wp2_with (first | (refine wpList_loadB rfl 45 (.tmp 3) rfl (w.heap.size + 1) 45 _ _ (by exact rfl) (by exact HV1.out) Tryd.underlying45 rfl (by exact size_event) ?_))
    refine (HEc2.out _ HX1.out).mono ?_
    rintro en w6 ⟨rfl, hx6⟩
    have HX6 := Lib.hid (HX1.out.trans hx6)
    have HB6 := Lib.hid (HB1.out.ext hx6)
    have HZ6 := Lib.hid (HZ1.out.ext hx6)
    have HV6 := Lib.hid (HV1.out.ext hx6)
    clear hcb hx6 HX1 HB1 HZ1 HV1 HEc2
    by_cases hee : (e.setId e.id).err d.regs = 0
    case neg =>
      have HE3 : Hid ((e.setId (d.insId e)).err d.regs = (e.setId e.id).err d.regs) := by show _ = _; rw [HI.out]
      have hne1 : ((e.setId e.id).err d.regs == 0) = false := by simpa using hee
      have hne2 : ((e.setId e.id).err d.regs != 0) = true := by simpa using hee
      have HNe := Lib.hid hee
      clear hee
      have HErr : Hid (d.insX e = (Doc.zero, 0, (e.setId e.id).err d.regs)) := ins_3 H0.out HE1.out HE3.out HNe.out
      go_wp2_with (first | (refine wpList_storeB rfl 39 (.tmp 4) _ rfl (w.heap.size + 2) 39 _ _ (by exact rfl) (by exact rfl) (by exact HZ6.out) (by exact rfl) (by exact size_docI) (by simp [Value.oneCell']) ?_))
      refine bodyPost_ret (v := .tuple #[.agg docZero, .int .i64 0, .int .i64 ((e.setId e.id).err d.regs)]) ?_ rfl (diePost_err HErr.out (HX6.out.put (by omega) _ _))
      exact results_B_tmp2 (P := Tryd.prog) Tryd.results15 (g := w.heap.size + 2) rfl (by exact HZ6.out.put _) Tryd.underlying39 rfl size_docI
    have HEe : Hid ((e.setId (d.insId e)).err d.regs = 0) := by show _ = _; rw [HI.out]; exact hee
    rw [hee]
    clear hee
    have hcb := fun o => HB6.out.cell o
    by_cases hlm : 400 ≤ hen
    · have hlz : (400 : Int) ≤ (hen : Int) := by omega
      have HErr : Hid (d.insX e = (Doc.zero, 0, 9)) := ins_4 H0.out HE1.out HEe.out (by have := HEl.out; omega)
      go_wp2_with (first | (refine wpList_storeB rfl 39 (.tmp 4) _ rfl (w.heap.size + 2) 39 _ _ (by exact rfl) (by exact rfl) (by exact HZ6.out) (by exact rfl) (by exact size_docI) (by simp [Value.oneCell']) ?_))
      refine bodyPost_ret (v := .tuple #[.agg docZero, .int .i64 0, .int .i64 (9)]) ?_ rfl (diePost_err HErr.out (HX6.out.put (by omega) _ _))
      exact results_B_tmp2 (P := Tryd.prog) Tryd.results15 (g := w.heap.size + 2) rfl (by exact HZ6.out.put _) Tryd.underlying39 rfl size_docI
    have hlz : ¬ (400 : Int) ≤ (hen : Int) := by omega
    have HOk : Hid (d.insX e = (d.insD e, d.insId e, 0)) := ins_5 H0.out HE1.out HEe.out (by have := HEl.out; omega)
    go_wp2_with (first | (refine wpList_loadB rfl 39 (.tmp 2) rfl (w.heap.size) 39 _ _ (by exact rfl) (by exact HB6.out) Tryd.underlying39 rfl (by exact size_docI) ?_))
    clear hcb
    refine (HCl.out _ HX6.out).mono ?_
    rintro en w7 ⟨⟨ra, rn, rc, ea, en', ec, ca, cn, cc⟩, rfl, ho7, hx7⟩
    dsimp only
    have hsz6 := HX6.out.size
    have HO7 := Lib.hid ho7
    have hz6l := HZ6.out.lt
    have hen7 : en' = hen := by have h1 := ho7.evs.len; have h2 := HEl.out; dsimp only at h1; omega
    subst hen7
    have HX7 := Lib.hid (HX6.out.trans hx7)
    have hs67 := hx7.size
    have HB7 := Lib.hid (HB6.out.ext hx7)
    have HZ7 := Lib.hid (HZ6.out.ext hx7)
    have HV7 := Lib.hid (HV6.out.ext hx7)
    clear ho7 hx7 HX6 HB6 HZ6 HV6
    have HB8 := Lib.hid (HB7.out.put #[.string d.title, .string d.lang, .int .u8 d.rate, .bool d.drop, .int .i64 d.last, .slice ra rn rc, .slice ea en' ec, .slice ca cn cc])
    have HZ8 := Lib.hid (HZ7.out.put_other (g' := w.heap.size) (t' := 39) (by omega) #[.string d.title, .string d.lang, .int .u8 d.rate, .bool d.drop, .int .i64 d.last, .slice ra rn rc, .slice ea en' ec, .slice ca cn cc])
    have HV8 := Lib.hid (HV7.out.put_other (g' := w.heap.size) (t' := 39) (by omega) #[.string d.title, .string d.lang, .int .u8 d.rate, .bool d.drop, .int .i64 d.last, .slice ra rn rc, .slice ea en' ec, .slice ca cn cc])
    have HX8 := Lib.hid (HX7.out.put (g := w.heap.size) (Nat.le_refl _) 39 #[.string d.title, .string d.lang, .int .u8 d.rate, .bool d.drop, .int .i64 d.last, .slice ra rn rc, .slice ea en' ec, .slice ca cn cc])
    have HO8 := Lib.hid (HO7.out.put HB7.out #[.string d.title, .string d.lang, .int .u8 d.rate, .bool d.drop, .int .i64 d.last, .slice ra rn rc, .slice ea en' ec, .slice ca cn cc])
    have hs8 := fun u => setCell_put HB8.out 4 u
    have hc8 := fun o => HB8.out.cell o
    have hf8 := HB8.out.frozen 4
    simp at hs8
    have HB9 := Lib.hid (HB8.out.put #[.string d.title, .string d.lang, .int .u8 d.rate, .bool d.drop, .int .i64 d.last, .slice ra rn rc, .slice ea en' ec, .slice ca cn cc])
    have HZ9 := Lib.hid (HZ8.out.put_other (g' := w.heap.size) (t' := 39) (by omega) #[.string d.title, .string d.lang, .int .u8 d.rate, .bool d.drop, .int .i64 d.last, .slice ra rn rc, .slice ea en' ec, .slice ca cn cc])
    have HV9 := Lib.hid (HV8.out.put_other (g' := w.heap.size) (t' := 39) (by omega) #[.string d.title, .string d.lang, .int .u8 d.rate, .bool d.drop, .int .i64 d.last, .slice ra rn rc, .slice ea en' ec, .slice ca cn cc])
    have HX9 := Lib.hid (HX8.out.put (g := w.heap.size) (Nat.le_refl _) 39 #[.string d.title, .string d.lang, .int .u8 d.rate, .bool d.drop, .int .i64 d.last, .slice ra rn rc, .slice ea en' ec, .slice ca cn cc])
    have HO9 := Lib.hid (HO8.out.put HB8.out #[.string d.title, .string d.lang, .int .u8 d.rate, .bool d.drop, .int .i64 d.last, .slice ra rn rc, .slice ea en' ec, .slice ca cn cc])
    go_upto_region 21 with (first | (refine wpList_storeB rfl 39 (.tmp 2) _ rfl (w.heap.size) 39 _ _ (by exact rfl) (by exact rfl) (by exact HB7.out) (by exact rfl) (by exact size_docI) (by simp [Value.oneCell']) ?_))
    clear hs8 hc8 hf8
    obtain ⟨W, hW⟩ : ∃ W, W = putB (putB w7 w.heap.size 39 #[.string d.title, .string d.lang, .int .u8 d.rate, .bool d.drop, .int .i64 d.last, .slice ra rn rc, .slice ea en' ec, .slice ca cn cc]) w.heap.size 39 #[.string d.title, .string d.lang, .int .u8 d.rate, .bool d.drop, .int .i64 d.last, .slice ra rn rc, .slice ea en' ec, .slice ca cn cc] := ⟨_, rfl⟩
    have hWs : w6.heap.size ≤ W.heap.size := by rw [hW]; simp [putB]; exact hs67
    rw [← hW] at HB9 HZ9 HV9 HX9 HO9 ⊢
    clear hW HB8 HZ8 HV8 HX8 HO8 HB7 HZ7 HV7 HX7 HO7
    obtain ⟨hs, hown, hh, hel, hgd⟩ := HO9.out.evs
    dsimp only at hown hh hel hgd
    have HOw := Lib.hid hown
    have HGd := Lib.hid hgd
    have HHl := Lib.hid hh
    have HEvl := Lib.hid hel
    have hc9 := fun o => HB9.out.cell o
    clear hown hgd hh hel
    have hszW := HX9.out.size
    go_wp2_with (first | (refine wpList_loadB rfl 45 (.tmp 3) rfl (w.heap.size + 1) 45 _ _ (by exact rfl) (by exact HV9.out) Tryd.underlying45 rfl (by exact size_event) ?_) | (at_builtin; refine wpList_append1 rfl (.tmp 72) (.tmp 74) 36 rfl info_evtI Tryd.underlying36 rfl (by decide) (HOw.out.alloc _) (by exact rfl) W.heap.size _ (by exact rfl) (by exact Blk.new' rfl) (by exact rfl) (by simp [Value.oneCell']) (by omega) (by simp [maxLen]; omega) (by simp; omega) ?_; intro v5 w5 hown5 hgr5; obtain ⟨A5, c5, rfl⟩ := own_isSlice hown5))
    clear hc9
    have hown4 := HOw.out.alloc (.cells #[.int .i64 e.id, .int .i64 e.inn, .int .i64 e.out, .string e.region, .int .u8 e.kind, .string e.speaker, .slice A n c] 45)
    have hty := own_typed hown4
    have hlt := own_lt hown4
    have HX10 := Lib.hid ((HX9.out.alloc (.cells #[.int .i64 e.id, .int .i64 e.inn, .int .i64 e.out, .string e.region, .int .u8 e.kind, .string e.speaker, .slice A n c] 45)).grown hgr5 (fun q hq => by have := hlt q hq; omega))
    have HB10 := Lib.hid ((HB9.out.alloc (.cells #[.int .i64 e.id, .int .i64 e.inn, .int .i64 e.out, .string e.region, .int .u8 e.kind, .string e.speaker, .slice A n c] 45)).kb (KB.grown hgr5 hty (by decide)))
    have HZ10 := Lib.hid ((HZ9.out.alloc (.cells #[.int .i64 e.id, .int .i64 e.inn, .int .i64 e.out, .string e.region, .int .u8 e.kind, .string e.speaker, .slice A n c] 45)).kb (KB.grown hgr5 hty (by decide)))
    have HV10 : Hid (Blk w5 (w.heap.size + 1) 45 #[.int .i64 e.id, .int .i64 e.inn, .int .i64 e.out, .string e.region, .int .u8 e.kind, .string e.speaker, .slice A n c]) := by
      show Blk _ _ _ _
      have hold := HV9.out.alloc (.cells #[.int .i64 e.id, .int .i64 e.inn, .int .i64 e.out, .string e.region, .int .u8 e.kind, .string e.speaker, .slice A n c] 45)
      unfold Blk at hold ⊢
      rw [hgr5.block _ (Array.getElem?_eq_some_iff.1 hold).1 (fun hq => by have := hlt _ hq.symm; omega)]
      exact hold
    have hown6 : w5.ownsRow w6.heap.size 45 7 (.slice A5 (en' + 1) c5) (en' + 1) ((hs ++ [EH.of (e.setId e.id) A n c]).flatMap EH.vals) := by
      rw [List.flatMap_append]
      simpa [EH.vals, EH.of, Ev.setId] using hown5
    obtain ⟨A6, c6, hv6, hc6, hm6, hsl6, -⟩ := own_sl (f := EH.vals) (size := 7) EH.len (by rw [List.length_append, HHl.out]; rfl) hown6
    cases hv6
    have k1 : KB 61 (W.alloc (.cells #[.int .i64 e.id, .int .i64 e.inn, .int .i64 e.out, .string e.region, .int .u8 e.kind, .string e.speaker, .slice A n c] 45)) w5 := KB.grown hgr5 hty (by decide)
    have k2 : KB 66 (W.alloc (.cells #[.int .i64 e.id, .int .i64 e.inn, .int .i64 e.out, .string e.region, .int .u8 e.kind, .string e.speaker, .slice A n c] 45)) w5 := KB.grown hgr5 hty (by decide)
    have hatS : EvsAt w5 A5 (en' + 1) (d.evs ++ [e.setId e.id]) := by
      refine evsAt_heads hsl6 (by rw [List.length_append, HEvl.out]; rfl) (fun i h9 e9 hh9 he9 => ?_)
      by_cases hi : i < en'
      · rw [List.getElem?_append_left (by rw [HHl.out]; exact hi)] at hh9
        rw [List.getElem?_append_left (by rw [HEvl.out]; exact hi)] at he9
        have hg := ((HGd.out i h9 e9 hh9 he9).ext ((Ext.refl W).alloc (.cells #[.int .i64 e.id, .int .i64 e.inn, .int .i64 e.out, .string e.region, .int .u8 e.kind, .string e.speaker, .slice A n c] 45))).kb k1 k2
        exact ⟨hg.1, hg.at_⟩
      · have hil := (List.getElem?_eq_some_iff.1 hh9).1
        rw [List.length_append, HHl.out] at hil
        simp only [List.length_singleton] at hil
        obtain rfl : i = en' := by omega
        rw [List.getElem?_append_right (by rw [HHl.out]; exact Nat.le_refl _), HHl.out, Nat.sub_self] at hh9
        rw [List.getElem?_append_right (by rw [HEvl.out]; exact Nat.le_refl _), HEvl.out, Nat.sub_self] at he9
        simp only [List.getElem?_cons_zero, Option.some.injEq] at hh9 he9
        subst hh9 he9
        exact ⟨rfl, ((HEa.out.ext HX10.out).setId e.id)⟩
    have HSo := Lib.hid (DSort_any (d.evs ++ [e.setId e.id]) A5 (en' + 1) c5 w5 hatS (by omega))
    have HRg9 := Lib.hid (own_kb (own_ext HO9.out.regs ((Ext.refl W).alloc (.cells #[.int .i64 e.id, .int .i64 e.inn, .int .i64 e.out, .string e.region, .int .u8 e.kind, .string e.speaker, .slice A n c] 45))) (KB.grown hgr5 hty (by decide)))
    have HCm9 := Lib.hid (own_kb (own_ext HO9.out.coms ((Ext.refl W).alloc (.cells #[.int .i64 e.id, .int .i64 e.inn, .int .i64 e.out, .string e.region, .int .u8 e.kind, .string e.speaker, .slice A n c] 45))) (KB.grown hgr5 hty (by decide)))
    have HRl9 := Lib.hid HO9.out.rlen
    have HCl9 := Lib.hid HO9.out.clen
    have hsz10 := HX10.out.size
    clear hown4 hty hlt hown5 hown6 hgr5 hsl6 k1 k2 hatS HB9 HZ9 HV9 HX9 HO9 HOw HGd HHl HEvl
    refine HSo.out.mono ?_
    rintro en w8 ⟨v8, rfl, hev8, hx8⟩
    obtain ⟨A8, c8, hv8, -, -, -⟩ := hev8.at_
    subst hv8
    have HX11 := Lib.hid (HX10.out.trans hx8)
    have HB11 := Lib.hid (HB10.out.ext hx8)
    have HZ11 := Lib.hid (HZ10.out.ext hx8)
    have HV11 := Lib.hid (HV10.out.ext hx8)
    have HE11 := Lib.hid hev8
    have HRg11 := Lib.hid (own_ext HRg9.out hx8)
    have HCm11 := Lib.hid (own_ext HCm9.out hx8)
    have hs11 := fun u => setCell_put HB11.out 6 u
    have hc11 := HB11.out.cell 6
    have hf11 := HB11.out.frozen 6
    simp at hs11 hc11
    clear hx8 hev8 HX10 HB10 HZ10 HV10 HRg9 HCm9 HSo
    go_upto_region 22 with fail
    clear hs11 hc11 hf11
    obtain ⟨W9, hW9⟩ : ∃ W9, W9 = putB w8 w.heap.size 39 #[.string d.title, .string d.lang, .int .u8 d.rate, .bool d.drop, .int .i64 d.last, .slice ra rn rc, .slice A8 (en' + 1) c8, .slice ca cn cc] := ⟨_, rfl⟩
    rw [← hW9]
    have HB12 : Hid (Blk W9 w.heap.size 39 #[.string d.title, .string d.lang, .int .u8 d.rate, .bool d.drop, .int .i64 d.last, .slice ra rn rc, .slice A8 (en' + 1) c8, .slice ca cn cc]) := by show Blk _ _ _ _; rw [hW9]; exact HB11.out.put _
    have HZ12 : Hid (Blk W9 (w.heap.size + 2) 39 #[.string ⟨#[]⟩, .string ⟨#[]⟩, .int .u8 0, .bool false, .int .i64 0, .slice none 0 0, .slice none 0 0, .slice none 0 0]) := by show Blk _ _ _ _; rw [hW9]; exact HZ11.out.put_other (by omega) _
    have HV12 : Hid (Blk W9 (w.heap.size + 1) 45 #[.int .i64 e.id, .int .i64 e.inn, .int .i64 e.out, .string e.region, .int .u8 e.kind, .string e.speaker, .slice A n c]) := by show Blk _ _ _ _; rw [hW9]; exact HV11.out.put_other (by omega) _
    have HX12 : Hid (Ext w W9) := by show Ext _ _; rw [hW9]; exact HX11.out.put (Nat.le_refl _) _ _
    have HO12 : Hid (DocOwn W9 w.heap.size (d.insD e) ⟨ra, rn, rc, A8, en' + 1, c8, ca, cn, cc⟩) := by
      show DocOwn _ _ _ _
      rw [hW9]
      refine DocOwn.mk (own_kb (own_le HRg11.out hsz6) (KB.put HB11.out (by decide))) HRl9.out ?_ (own_kb (own_le HCm11.out hsz6) (KB.put HB11.out (by decide))) HCl9.out
      show EvsOwn _ _ _ _ (srtE (d.evs ++ [e.setId (d.insId e)]))
      rw [HI.out]
      exact (HE11.out.kb (KB.put HB11.out (by decide)) (KB.put HB11.out (by decide)) (KB.put HB11.out (by decide))).le (by omega)
    have hne1 : w.heap.size ≠ w.heap.size + 2 := by omega
    have hne2 : w.heap.size + 1 ≠ w.heap.size + 2 := by omega
    clear hW9 HB11 HZ11 HV11 HX11 HE11 HRg11 HCm11
    refine wp_region_links [some 78, some 79, some 80, none, some 5, some 6] [[], [], [1], [0, 0], [2, 3, 0, 1, 2, 3], [4, 0, 1, 2, 3, 4]] [3] [.agg #[.string d.title, .string d.lang, .int .u8 d.rate, .bool d.drop, .int .i64 d.last, .slice ra rn rc, .slice A8 (en' + 1) c8, .slice ca cn cc], .pointer (some ⟨w.heap.size + 1, 0, none⟩), .int .i64 e.id, undef, .int .i64 e.id, .int .i64 0] (RdJ (w.heap.size + 2) #[.string d.title, .string d.lang, .int .u8 d.rate, .bool d.drop, .int .i64 d.last, .slice ra rn rc, .slice A8 (en' + 1) c8, .slice ca cn cc] W9) (by kernel_rfl) (by kernel_rfl) (by kernel_rfl) (by kernel_rfl) (by kernel_rfl) (by kernel_rfl) (by kernel_rfl) (by decide) ?_ ?_ ?_ ?_
    · exact RdJ.start _ _ W9
    · intro i o ho hc a w' us K' hJ hF hlim hk
      match i, ho with
      | 0, ho =>
        simp only [List.getElem?_toArray, List.getElem?_cons_zero, List.getElem?_cons_succ, Option.some.injEq] at ho
        subst ho
        have e2 := hF.old 2 (.pointer (some ⟨w.heap.size, 0, none⟩)) rfl rfl
        exact wp_loadBk 39 (.tmp 2) rfl _ 39 _ _ e2 (hJ.blk HB12.out hne1) Tryd.underlying39 rfl (by exact size_docI) hk
      | 1, ho =>
        simp only [List.getElem?_toArray, List.getElem?_cons_zero, List.getElem?_cons_succ, Option.some.injEq] at ho
        subst ho
        have e3 := hF.old 3 (.pointer (some ⟨w.heap.size + 1, 0, none⟩)) rfl rfl
        simp only [Act.eval] at e3
        clear hF hlim hJ
        go_simp
        exact hk
      | 2, ho =>
        simp only [List.getElem?_toArray, List.getElem?_cons_zero, List.getElem?_cons_succ, Option.some.injEq] at ho
        subst ho
        have e79 := hF.pure 1 79 (.pointer (some ⟨w.heap.size + 1, 0, none⟩)) rfl rfl rfl rfl
        have hcl : w'.cell? ⟨w.heap.size + 1, 0, none⟩ = some (.int .i64 e.id) := (hJ.blk HV12.out hne2).cell 0
        simp only [Act.eval] at e79
        clear hF hlim hJ
        go_simp
        exact hk
      | 3, ho => simp at hc
      | 4, ho =>
        simp only [List.getElem?_toArray, List.getElem?_cons_zero, List.getElem?_cons_succ, Option.some.injEq] at ho
        subst ho
        have e80 := hF.pure 2 80 (.int .i64 e.id) rfl rfl rfl rfl
        simp only [Act.eval] at e80
        clear hF hlim hJ
        go_simp
        exact hk
      | 5, ho =>
        simp only [List.getElem?_toArray, List.getElem?_cons_zero, List.getElem?_cons_succ, Option.some.injEq] at ho
        subst ho
        clear hF hlim hJ
        go_simp
        exact hk
      | i + 6, ho => simp at ho
    · intro p c' o hp ho a w' us K' hl hJ hF hk
      match p, hp with
      | 0, hp =>
        obtain rfl : 3 = c' := by simpa using hp
        simp only [List.getElem?_toArray, List.getElem?_cons_zero, List.getElem?_cons_succ, Option.some.injEq] at ho
        subst ho
        obtain rfl : us = [] := List.eq_nil_of_length_eq_zero hl
        have e4 := hF.old 4 (.pointer (some ⟨w.heap.size + 2, 0, none⟩)) rfl rfl
        have e78 := hF.pure 0 78 (.agg #[.string d.title, .string d.lang, .int .u8 d.rate, .bool d.drop, .int .i64 d.last, .slice ra rn rc, .slice A8 (en' + 1) c8, .slice ca cn cc]) rfl rfl rfl rfl
        exact wp_storeB 39 (.tmp 4) (.tmp 78) rfl (w.heap.size + 2) 39 _ _ e4 e78 (by exact size_docI) (by simp [Value.oneCell']) (hJ.blk_nil HZ12.out) rfl (hk undef _ hJ.store)
      | p + 1, hp => simp at hp
    intro us w10 hl hJ
    obtain ⟨u0, rfl⟩ := list_1 hl
    first | (rename_i hK; refine hK _ _ ?_; clear hK) | (rename_i hK hK_1; refine hK _ _ ?_; clear hK) | (rename_i hK hK_1 hK_2; refine hK _ _ ?_; clear hK) | (rename_i hK hK_1 hK_2 hK_3; refine hK _ _ ?_; clear hK)
    generalize hL : frameL _ _ _ _ = L
    obtain rfl : L = [(78, .agg #[.string d.title, .string d.lang, .int .u8 d.rate, .bool d.drop, .int .i64 d.last, .slice ra rn rc, .slice A8 (en' + 1) c8, .slice ca cn cc]), (79, .pointer (some ⟨w.heap.size + 1, 0, none⟩)), (80, .int .i64 e.id), (5, .int .i64 e.id), (6, .int .i64 0)] := hL.symm.trans (by kernel_rfl)
    clear hL hl
    simp only [Act.put, List.foldl_cons, List.foldl_nil, List.setIfInBounds_toArray, List.set_cons_zero, List.set_cons_succ]
    obtain ⟨w11, hx11, rfl⟩ := hJ.one
    clear hJ
    go_wp2_with fail
    refine bodyPost_ret (v := .tuple #[.agg #[.string d.title, .string d.lang, .int .u8 d.rate, .bool d.drop, .int .i64 d.last, .slice ra rn rc, .slice A8 (en' + 1) c8, .slice ca cn cc], .int .i64 e.id, .int .i64 0]) ?_ rfl ⟨⟨ra, rn, rc, A8, en' + 1, c8, ca, cn, cc⟩, ?_, ?_, ?_⟩
    · exact results_B_tmp2 (P := Tryd.prog) Tryd.results15 (g := w.heap.size + 2) rfl (by exact (HZ12.out.ext hx11).put _) Tryd.underlying39 rfl size_docI
    · rw [HOk.out]; show _ = Ending.returned (.tuple #[.agg ((d.insD e).cells _), .int .i64 (d.insId e), .int .i64 0]); rw [HI.out]; unfold Doc.cells Doc.insD; rw [HLs.out]
    · rw [HOk.out]; exact (HO12.out.ext hx11).put (HZ12.out.ext hx11) _
    · exact (HX12.out.trans hx11).put (by omega) _ _
end Go.Proofs.YtagfedbdakmlgaaDoor

/-! CharR -/
namespace Go.Proofs.YtagfedbdakmlgaaDoor
set_option linter.unusedVariables false
set_option linter.unusedSimpArgs false
open Go.RowKit
end Go.Proofs.YtagfedbdakmlgaaDoor

/-! RuneR -/
namespace Go.Proofs.YtagfedbdakmlgaaDoor
set_option linter.unusedVariables false
set_option linter.unusedSimpArgs false
open Go.RowKit
theorem info_rune : (Tryd.prog.info? 21).map (fun i => (i.zero, i.size, i.bytes)) = some (some (.int .i32 0), 1, 4) := by kernel_rfl
theorem own_iterAt {w : World} {base : Nat} {e : TypeId} {size : Nat} {v : Value} {n : Nat} {xs : List Value} (h : w.ownsRow base e size v n xs) {k : Nat} (hk : k < base) (s : ByteArray) (p : Nat) : (w.iterAt k s p).ownsRow base e size v n xs := by
  obtain ⟨h1, h2⟩ := h
  refine ⟨h1, ?_⟩
  rcases h2 with h2 | ⟨g, cap, cur, a, b, c, d⟩
  · exact .inl h2
  · exact .inr ⟨g, cap, cur, a, b, by rw [Lib.iterAt_other _ _ _ _ _ (by omega)]; exact c, d⟩
def RunesRel (s : ByteArray) (w : World) (g : Nat) (v : Value) (wr : World) : Prop :=
  ∃ (pos : Nat) (l : List Int), wr.heap[g]? = some (.stringIter s pos) ∧ Ext w wr ∧ runes s 0 = l ++ runes s pos ∧ l.length ≤ pos ∧ wr.ownsRow (g + 1) 21 1 v l.length (l.flatMap fun x => [Value.int .i32 x])
def RunesAt (w : World) (A : Option Addr) (n : Nat) (l : List Int) : Prop := Sl w 1 (Cells fun x => [.int .i32 x]) A n l
def RunesPost (s : ByteArray) (w : World) (en : Ending) (w' : World) : Prop := ∃ A n c, en = .returned (.slice A n c) ∧ RunesAt w' A n (runes s 0) ∧ n ≤ c ∧ Ext w w'
end Go.Proofs.YtagfedbdakmlgaaDoor

/-! MoveP -/
namespace Go.Proofs.YtagfedbdakmlgaaDoor.Mv
set_option linter.unusedVariables false
set_option linter.unusedSimpArgs false
/-- the length of the common beginning -/
def pre : List Int → List Int → Nat
  | x :: a, y :: b => if x = y then pre a b + 1 else 0
  | _, _ => 0
theorem pre_le : ∀ a b : List Int, pre a b ≤ a.length ∧ pre a b ≤ b.length
  | [], b => by simp [pre]
  | x :: a, [] => by simp [pre]
  | x :: a, y :: b => by
    have := pre_le a b
    simp only [pre, List.length_cons]; split <;> omega
theorem pre_eq : ∀ (a b : List Int) (k : Nat), k < pre a b → a[k]? = b[k]?
  | [], b, k, h => by simp [pre] at h
  | x :: a, [], k, h => by simp [pre] at h
  | x :: a, y :: b, k, h => by
    simp only [pre] at h
    split at h
    · rename_i e
      subst e
      cases k with
      | zero => rfl
      | succ k => simpa using pre_eq a b k (by omega)
    · omega
theorem pre_ne : ∀ (a b : List Int) (x y : Int), a[pre a b]? = some x → b[pre a b]? = some y → x ≠ y
  | [], b, x, y, h, _ => by simp at h
  | u :: a, [], x, y, _, h => by simp at h
  | u :: a, v :: b, x, y, h1, h2 => by
    simp only [pre] at h1 h2
    split at h1
    · rename_i e
      rw [if_pos e] at h2
      simp only [List.getElem?_cons_succ] at h1 h2
      exact pre_ne a b x y h1 h2
    · rename_i e
      rw [if_neg e] at h2
      simp only [List.getElem?_cons_zero, Option.some.injEq] at h1 h2
      subst h1 h2
      exact e
/-- a loop over the common beginning: a place that all places ahead have reached -/
theorem pre_step {a b : List Int} {k : Nat} {x y : Int} (h : k ≤ pre a b) (h1 : a[k]? = some x) (h2 : b[k]? = some y) (he : x = y) : k + 1 ≤ pre a b := by
  rcases Nat.lt_or_ge k (pre a b) with hl | hl
  · exact hl
  · obtain rfl : k = pre a b := by omega
    exact absurd he (pre_ne a b x y h1 h2)
theorem pre_stop {a b : List Int} {k : Nat} (h : k ≤ pre a b) (hs : a.length ≤ k ∨ b.length ≤ k ∨ ∃ x y, a[k]? = some x ∧ b[k]? = some y ∧ x ≠ y) : k = pre a b := by
  have := pre_le a b
  rcases hs with hs | hs | ⟨x, y, h1, h2, hne⟩
  · omega
  · omega
  · rcases Nat.lt_or_ge k (pre a b) with hl | hl
    · have := pre_eq a b k hl
      rw [h1, h2] at this
      exact absurd (Option.some.inj this) hne
    · omega
/-- the length of the common end behind p -/
def suf (a b : List Int) (p : Nat) : Nat := pre (a.drop p).reverse (b.drop p).reverse
theorem suf_le (a b : List Int) (p : Nat) : suf a b p ≤ a.length - p ∧ suf a b p ≤ b.length - p := by
  have := pre_le (a.drop p).reverse (b.drop p).reverse
  simpa [suf] using this
theorem rev_at (a : List Int) (p k : Nat) (h : k < a.length - p) : (a.drop p).reverse[k]? = a[a.length - 1 - k]? := by
  rw [List.getElem?_reverse (by simpa using h), List.getElem?_drop]
  congr 1
  simp only [List.length_drop]; omega
theorem suf_step {a b : List Int} {p k : Nat} {x y : Int} (h : k ≤ suf a b p) (ha : k < a.length - p) (hb : k < b.length - p) (h1 : a[a.length - 1 - k]? = some x) (h2 : b[b.length - 1 - k]? = some y) (he : x = y) : k + 1 ≤ suf a b p :=
  pre_step h (by rw [rev_at a p k ha]; exact h1) (by rw [rev_at b p k hb]; exact h2) he
theorem suf_stop {a b : List Int} {p k : Nat} (h : k ≤ suf a b p) (hs : a.length - p ≤ k ∨ b.length - p ≤ k ∨ ∃ x y, k < a.length - p ∧ k < b.length - p ∧ a[a.length - 1 - k]? = some x ∧ b[b.length - 1 - k]? = some y ∧ x ≠ y) : k = suf a b p := by
  refine pre_stop h ?_
  rcases hs with hs | hs | ⟨x, y, g1, g2, h1, h2, hne⟩
  · exact .inl (by simpa using hs)
  · exact .inr (.inl (by simpa using hs))
  · exact .inr (.inr ⟨x, y, by rw [rev_at a p k g1]; exact h1, by rw [rev_at b p k g2]; exact h2, hne⟩)
/-- where a beginning, an end comes to lie -/
def from_ (n m p s : Nat) (i : Int) : Int := if (n : Int) - s ≤ i then i + m - n else if i < p then i else m - s
def to_ (n m p s : Nat) (i : Int) : Int := if i ≤ p then i else if (n : Int) - s < i then i + m - n else p
def clamp (n : Nat) (i : Int) : Int := min (max i 0) n
def move (a b : List Int) (i : Int) (e : Bool) : Int :=
  if e = true then to_ a.length b.length (pre a b) (suf a b (pre a b)) (clamp a.length i) else from_ a.length b.length (pre a b) (suf a b (pre a b)) (clamp a.length i)
theorem ends (a b : List Int) : pre a b + suf a b (pre a b) ≤ a.length ∧ pre a b + suf a b (pre a b) ≤ b.length := by
  have h1 := pre_le a b
  have h2 := suf_le a b (pre a b)
  omega
end Go.Proofs.YtagfedbdakmlgaaDoor.Mv

/-! Runes3 -/
namespace Go.Proofs.YtagfedbdakmlgaaDoor
set_option linter.unusedVariables false
set_option linter.unusedSimpArgs false
open Go.RowKit
set_option maxRecDepth 100000 in
set_option maxHeartbeats 1000000 in
theorem DRunes_any (s : ByteArray) (w : World) (hs : s.size ≤ 35184372088831) :
    Calls Tryd.prog 34 #[.string s] w (RunesPost s w) := by
  have h1 := Ext.refl w
  go_enter Tryd.func34, Tryd.ntmps34
  go_wp2_with fail
  go_loopw [3] (fun v wr => RunesRel s w w.heap.size v wr) (fun _ wr => s.size - wr.iterPos w.heap.size)
  case atStart => exact ⟨0, [], w.iter_heap s 0, h1.iter s 0, rfl, Nat.le_refl _, ⟨rfl, .inl ⟨rfl, rfl⟩⟩⟩
  case round =>
    obtain ⟨pos, l, hk, hx, hp, hle, hown⟩ := hrel
    have hpos0 := Lib.hid (iterPos_of hk)
    have HP := Lib.hid hp
    clear hp
    by_cases hlt : pos < s.size
    · have hn := fun ty => Lib.run_next_any_at (P := Tryd.prog) wr _ s pos ty hk hlt
      have hstep := Lib.hid (runes_step s pos hlt)
      have hw := dec_pos s pos hlt
      have hk2 := Lib.iterAt_heap wr _ s pos (pos + (Utf8.decode s pos).2) hk
      have hx2 := hx.iterAt (Nat.le_refl _) s (pos + (Utf8.decode s pos).2)
      have hown2 := own_iterAt hown (k := w.heap.size) (by omega) s (pos + (Utf8.decode s pos).2)
      obtain ⟨W1, hW1⟩ : ∃ W1, W1 = wr.iterAt w.heap.size s (pos + (Utf8.decode s pos).2) := ⟨_, rfl⟩
      rw [← hW1] at hn hk2 hx2 hown2
      have hlt9 : w.heap.size < W1.heap.size := (Array.getElem?_eq_some_iff.1 hk2).1
      clear hW1 hk hown hx
      have HK := Lib.hid hk2
      clear hk2
      go_wp2_with (at_builtin; refine wpList_append1 rfl (.tmp 11) (.tmp 13) 26 rfl info_rune Tryd.underlying26 rfl (by decide) (hown2.alloc _) (by exact rfl) W1.heap.size _ (by exact rfl) (by exact Blk.new' rfl) (by exact rfl) (by simp [Value.oneCell']) (by omega) (by simp [maxLen]; omega) (by simp; omega) ?_; intro v' w3 hown3 hgr)
      have hk3 : w3.heap[w.heap.size]? = some (.stringIter s (pos + (Utf8.decode s pos).2)) := by
        rw [hgr.block w.heap.size (by simp; omega) (fun h => by have := own_lt hown2 _ h.symm; omega), Below.heap_alloc _ _ _ hlt9]
        exact HK.out
      refine ⟨⟨pos + (Utf8.decode s pos).2, l ++ [((Utf8.decode s pos).1 : Int)], hk3, (hx2.alloc _).grown hgr (fun q hq => by have := own_lt hown2 q hq; omega), ?_, ?_, ?_⟩, ?_⟩
      · rw [HP.out, hstep.out]; simp
      · rw [List.length_append, List.length_singleton]; omega
      · rw [List.length_append, List.flatMap_append]; exact hown3
      · rw [iterPos_of hk3, hpos0.out]; omega
    · have hn := fun ty => Lib.run_next_end_at (P := Tryd.prog) wr _ s pos ty hk hlt
      have hl : runes s 0 = l := by rw [HP.out, runes_end s pos hlt]; simp
      obtain ⟨A, c, rfl, hc, _, hsl, _⟩ := own_sl (f := fun x : Int => [Value.int .i32 x]) (size := 1) (fun _ => rfl) rfl hown
      have HL := Lib.hid hl
      have HX := Lib.hid hx
      clear hl hx hown HP
      go_wp2_with fail
      go_ret
      exact ⟨A, l.length, c, rfl, by rw [HL.out]; exact hsl, hc, HX.out⟩
theorem RunesAt.ext {w w1 : World} {A : Option Addr} {n : Nat} {l : List Int} (h : RunesAt w A n l) (k : Ext w w1) : RunesAt w1 A n l := Sl.ext (Cells.stays _) h k
theorem RunesAt.cell {w : World} {A : Option Addr} {n : Nat} {l : List Int} (h : RunesAt w A n l) {i : Nat} (hi : i < n) : ∃ b off x, A = some ⟨b, off, none⟩ ∧ l[i]? = some x ∧ w.cell? ⟨b, off + i, none⟩ = some (.int .i32 x) := by
  obtain ⟨b, off, x, hA, hx, hc⟩ := h.at_ hi
  exact ⟨b, off, x, hA, hx, by simpa using hc 0 (.int .i32 x) rfl⟩
theorem runesAt_len (s : ByteArray) : ∀ f pos, (runesAt s f pos).length ≤ f
  | 0, _ => Nat.le_refl _
  | f + 1, pos => by
    unfold runesAt
    split
    · have := runesAt_len s f (pos + (Utf8.decode s pos).2); simp only [List.length_cons]; omega
    · simp
theorem runes_len (s : ByteArray) : (runes s 0).length ≤ s.size := runesAt_len s s.size 0
def PreRel (W : World) (a b : List Int) (v : Value) (wr : World) : Prop := ∃ k : Nat, k ≤ Mv.pre a b ∧ v = .int .i64 k ∧ Ext W wr
def SufRel (W : World) (a b : List Int) (v : Value) (wr : World) : Prop := ∃ k : Nat, k ≤ Mv.suf a b (Mv.pre a b) ∧ v = .int .i64 k ∧ Ext W wr
end Go.Proofs.YtagfedbdakmlgaaDoor

/-! QuoteP -/
namespace Go.Proofs.YtagfedbdakmlgaaDoor
set_option linter.unusedVariables false
set_option linter.unusedSimpArgs false
open Go.RowKit
def qstep (fr til : Int) (acc : ByteArray) (p : Int × Nat) : ByteArray := if fr ≤ (p.2 : Int) ∧ (p.2 : Int) < til then acc ++ Utf8.encode p.1 else acc
/-- the characters from fr on up to til -/
def quoteT (fr til : Int) (l : List Int) : ByteArray := l.zipIdx.foldl (qstep fr til) ⟨#[]⟩
def Doc.cfErr (d : Doc) (id : Int) : Int := if d.err ≠ 0 then d.err else if findCI d.coms id < 0 then 6 else 0
def Doc.cfIdx (d : Doc) (id : Int) : Int := if d.cfErr id = 0 then findCI d.coms id else 0
/-- what Quoted comes to -/
def Doc.quX (d : Doc) (id : Int) : ByteArray × Int :=
  if d.err ≠ 0 then (⟨#[]⟩, d.err) else match findC d.coms id with
    | none => (⟨#[]⟩, 6)
    | some k => match d.coms[k]? with
      | none => (⟨#[]⟩, 6)
      | some c => if c.lost = true then (⟨#[]⟩, 17) else match findE d.evs c.ev with
        | none => (⟨#[]⟩, 6)
        | some m => match d.evs[m]? with
          | none => (⟨#[]⟩, 6)
          | some x => (quoteT c.fr c.til (runes ⟨x.text.toArray⟩ 0), 0)
section
variable {d : Doc} {id : Int} {k m : Nat} {c : Com} {x : Ev}
end
/-- results of calls, one after the other -/
structure QJ (ps : List (Value → World → Prop)) (W : World) (us : List Value) (w' : World) : Prop where
  ext : Ext W w'
  val : ∀ (i : Nat) (u : Value) (p : Value → World → Prop), us[i]? = some u → ps[i]? = some p → p u w'
def QSt (ps : List (Value → World → Prop)) : Prop := ∀ p ∈ ps, ∀ u w w', Ext w w' → p u w → p u w'
theorem QJ.start (ps : List (Value → World → Prop)) (W : World) : QJ ps W [] W.drew := ⟨(Ext.refl W).drew, fun i u p h => by simp at h⟩
theorem QJ.push {ps : List (Value → World → Prop)} {W w' w2 : World} {us : List Value} {v : Value} (h : QJ ps W us w') (hst : QSt ps) (hx : Ext w' w2) (hv : ∀ p : Value → World → Prop, ps[us.length]? = some p → p v w2) : QJ ps W (us ++ [v]) w2 :=
  ⟨h.ext.trans hx, fun i u p hu hp => by
    by_cases hi : i < us.length
    · rw [List.getElem?_append_left hi] at hu
      exact hst p (List.mem_of_getElem? hp) u w' w2 hx (h.val i u p hu hp)
    · rw [List.getElem?_append_right (by omega)] at hu
      have hl := (List.getElem?_eq_some_iff.1 hu).1
      simp at hl
      have hi' : i = us.length := by omega
      subst hi'
      simp at hu
      subst hu
      exact hv p hp⟩
end Go.Proofs.YtagfedbdakmlgaaDoor
