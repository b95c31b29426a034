/- Laid together: The walk of the reference's Insert. A document without an event, plainly; own rows under the stores. A document in another rate is accepted; its drifts are small: plainly. The plain law of EventReturns: the parts of a valid event are valid, share its frames and rows, and give it back when they are joined. No walk here. Events moved in time, plainly; a cell of an event of one's own is stored. -/
import Derived.Test.YtagfedbdakmlgaaGreatDoorIn13
import Derived.Test.YtagfedbdakmlgaaGreatDoorIn17
import Derived.Test.YtagfedbdakmlgaaGreatDoorIn20
import Derived.Test.YtagfedbdakmlgaaGreatDoorIn15
import Derived.Test.YtagfedbdakmlgaaGreatDoorIn14
import Derived.Test.YtagfedbdakmlgaaGreatDoorIn04
import Derived.Test.YtagfedbdakmlgaaGreatDoorIn16

/-! InsR -/
namespace Go.Proofs.YtagfedbdakmlgaaGreatDoor
set_option linter.unusedVariables false
set_option linter.unusedSimpArgs false
open Go.RowKit
/-- an event's block that is not the document's is stored -/
theorem DocOwn.putE {w : World} {L : Nat} {d : Doc} {h : DocH} (o : DocOwn w L d h) {g : Nat} {cs : Array Value} (hB : Blk w g 66 cs) (hg : g < L) (cs' : Array Value) : DocOwn (putB w g 66 cs') L d h := by
  obtain ⟨hs, h1, h2, h3, h4⟩ := o.evs
  refine ⟨own_kb o.regs (KB.put hB (by decide)), o.rlen, ⟨hs, ⟨h1.1, ?_⟩, h2, h3, fun i x e a b => (h4 i x e a b).kb (KB.put hB (by decide)) (KB.put hB (by decide))⟩, own_kb o.coms (KB.put hB (by decide)), o.clen⟩
  rcases h1.2 with hn | ⟨q, cap, cur, hv, hb, hg2, hrest⟩
  · exact .inl hn
  · refine .inr ⟨q, cap, cur, hv, hb, ?_, hrest⟩
    have hne : g ≠ q := by omega
    show (putB w g _ cs').heap[q]? = _
    unfold putB
    simp only
    rw [Array.getElem?_setIfInBounds_ne hne]
    exact hg2
set_option maxRecDepth 100000 in
set_option maxHeartbeats 8000000 in
theorem R12Insert_any (d : Doc) (h : DocH) (e : Ev) (A : Option Addr) (n c : Nat) (w : World) (hE : Env w) (hat : DocAt w d h) (hf : DocFit d) (hrn : h.rn ≤ 9223372036854775807) (hr : h.rn * 56 ≤ 140737488355328) (hn : h.en ≤ 1000000) (hcn : h.cn ≤ 1000000) (he : EvAt w e A n c) (hes : EvSmall e) (hby : e.bytes ≤ 1099511627776) :
    Calls Tryz.prog 50 #[.agg (d.cells h), .agg (e.cells A n c)] w (DIEPost (d.insX e) w) := by
  have HX : Hid (Ext w (((w.alloc (.cells (d.cells h) 27)).alloc (.cells (e.cells A n c) 66)).alloc (.cells docZero 27))) := (((Ext.refl w).alloc _).alloc _).alloc _
  have HB : Hid (Blk (((w.alloc (.cells (d.cells h) 27)).alloc (.cells (e.cells A n c) 66)).alloc (.cells docZero 27)) w.heap.size 27 (d.cells h)) := ((Blk.new w _ _).alloc _).alloc _
  have HV : Hid (Blk (((w.alloc (.cells (d.cells h) 27)).alloc (.cells (e.cells A n c) 66)).alloc (.cells docZero 27)) (w.heap.size + 1) 66 (e.cells A n c)) := (Blk.new' (by simp)).alloc _
  have HZ : Hid (Blk (((w.alloc (.cells (d.cells h) 27)).alloc (.cells (e.cells A n c) 66)).alloc (.cells docZero 27)) (w.heap.size + 2) 27 docZero) := Blk.new' (by simp)
  have HCk := Lib.hid (fun w' (hx : Ext w w') => R12Check_any d h w' (hE.ext hx) (hat.ext hx) hf hrn hn (by omega))
  have HFd := Lib.hid (fun w' (hx : Ext w w') => R12Find_any d h e.id w' (hat.evs.ext hx) (by omega))
  have HFc := Lib.hid (fun w' (hx : Ext w w') => R12FindC_any d h e.id w' (hat.coms.ext hx) (by omega))
  have HEc : Hid (∀ (i : Int) w', Ext w w' → Calls Tryz.prog 101 #[.agg #[.int .i64 i, .int .i64 e.inn, .int .i64 e.out, .string e.region, .int .u8 e.kind, .string e.speaker, .slice A n c], .slice h.ra h.rn h.rc] w' fun en w'' => en = .returned (.int .i64 ((e.setId i).err d.regs)) ∧ Ext w' w'') := fun i w' hx => R11Check_any (e.setId i) A n c h.ra h.rn h.rc d.regs w' (hE.ext hx) ((he.ext hx).setId i) (hes.setId i) hby (hat.regs.ext hx) hrn hf.regs
  have HCl := Lib.hid (fun w' (hx : Ext w w') => R12Clone_any d h w' (hat.ext hx) hr (by omega) (by omega))
  have HEl := Lib.hid hat.evs.len
  have HEa := Lib.hid he
  clear hat hE hf hrn hr he hes
  obtain ⟨hra, nr, hrc, hea, hen, hec, hca, nc, hcc⟩ := h
  unfold DClPost at HCl
  unfold Doc.cells docZero Ev.cells at *
  dsimp only at *
  go_enter Tryz.func50, Tryz.ntmps50
  go_wp2_with (refine wpList_loadB rfl 27 (.tmp 2) rfl (w.heap.size) 27 _ _ (by exact rfl) (by exact HB.out) Tryz.underlying27 rfl (by exact size_docI) ?_)
  refine (HCk.out _ HX.out).mono ?_
  rintro en w0 ⟨rfl, hx0⟩
  have HX0 := Lib.hid (HX.out.trans hx0)
  have HB0 := Lib.hid (HB.out.ext hx0)
  have HZ0 := Lib.hid (HZ.out.ext hx0)
  have HV0 := Lib.hid (HV.out.ext hx0)
  clear hx0 HX HB HZ HV HCk
  by_cases h0 : d.err = 0
  case neg =>
    have hne1 : (d.err == 0) = false := by simpa using h0
    have hne2 : (d.err != 0) = true := by simpa using h0
    have HN0 := Lib.hid h0
    clear h0
    have HErr : Hid (d.insX e = (Doc.zero, 0, d.err)) := ins_1 HN0.out
    go_wp2_with (first | (refine wpList_storeB rfl 27 (.tmp 4) _ rfl (w.heap.size + 2) 27 _ _ (by exact rfl) (by exact rfl) (by exact HZ0.out) (by exact rfl) (by exact size_docI) (by simp [Value.oneCell']) ?_))
    refine bodyPost_ret (v := .tuple #[.agg docZero, .int .i64 0, .int .i64 (d.err)]) ?_ rfl (diePost_err HErr.out (HX0.out.put (by omega) _ _))
    exact results_B_tmp2 (P := Tryz.prog) Tryz.results50 (g := w.heap.size + 2) rfl (by exact HZ0.out.put _) Tryz.underlying27 rfl size_docI
  have H0 := Lib.hid h0
  have HD0 := Lib.hid (head_ok' (doc_ok h0).1)
  have hl0 := HD0.out.2.2.2.2.1
  have hl1 := HD0.out.2.2.2.2.2
  rw [h0]
  clear h0
  go_wp2_with (refine wpList_loadB rfl 27 (.tmp 2) rfl (w.heap.size) 27 _ _ (by exact rfl) (by exact HB0.out) Tryz.underlying27 rfl (by exact size_docI) ?_)
  refine (HCl.out _ HX0.out).mono ?_
  rintro en w1 ⟨⟨ra, rn, rc, ea, en', ec, ca, cn, cc⟩, rfl, ho7, hx7⟩
  dsimp only
  have hsz6 := HX0.out.size
  have hz6l := HZ0.out.lt
  have hen7 : en' = hen := by have h1 := ho7.evs.len; have h2 := HEl.out; dsimp only at h1; omega
  subst hen7
  have hs67 := hx7.size
  have hxa := (Ext.refl w1).alloc (.cells #[.string d.title, .string d.lang, .int .u8 d.rate, .bool d.drop, .int .i64 d.last, .slice ra rn rc, .slice ea en' ec, .slice ca cn cc] 27)
  have HX2 := Lib.hid ((HX0.out.trans hx7).trans hxa)
  have HB2 := Lib.hid ((HB0.out.ext hx7).ext hxa)
  have HZ2 := Lib.hid ((HZ0.out.ext hx7).ext hxa)
  have HV2 := Lib.hid ((HV0.out.ext hx7).ext hxa)
  have HO2 := Lib.hid (ho7.ext hxa)
  have HG2 := Lib.hid (Blk.new w1 27 #[.string d.title, .string d.lang, .int .u8 d.rate, .bool d.drop, .int .i64 d.last, .slice ra rn rc, .slice ea en' ec, .slice ca cn cc])
  clear ho7 hx7 hxa HX0 HB0 HZ0 HV0 HCl
  go_upto_block 0 with fail
  obtain ⟨G8, hG8⟩ : ∃ G8, G8 = w1.heap.size := ⟨_, rfl⟩
  obtain ⟨W, hW⟩ : ∃ W, W = w1.alloc (.cells #[.string d.title, .string d.lang, .int .u8 d.rate, .bool d.drop, .int .i64 d.last, .slice ra rn rc, .slice ea en' ec, .slice ca cn cc] 27) := ⟨_, rfl⟩
  rw [← hW] at HO2 HG2 HZ2 HV2 HX2 HB2 ⊢
  rw [← hG8] at HG2 hs67 ⊢
  have HGs := Lib.hid hs67
  clear hW hG8
  have hcd := fun o => HB2.out.cell o
  have hce := fun o => HV2.out.cell o
  by_cases hi0 : e.id = 0
  · have hid0 := Lib.hid hi0
    have hie : (e.id == 0) = true := by simpa using hi0
    by_cases hmx : 1099511627776 ≤ d.last
    · have HE1 := Lib.hid (e1_9 (d := d) hi0 hmx)
      have hmq : (d.last == 1099511627776) = true := by simp; omega
      clear hi0
      have HErr : Hid (d.insX e = (Doc.zero, 0, 9)) := ins_2 H0.out HE1.out (by decide)
      go_wp2_with (first | (refine wpList_storeB rfl 27 (.tmp 4) _ rfl (w.heap.size + 2) 27 _ _ (by exact rfl) (by exact rfl) (by exact HZ2.out) (by exact rfl) (by exact size_docI) (by simp [Value.oneCell']) ?_))
      refine bodyPost_ret (v := .tuple #[.agg docZero, .int .i64 0, .int .i64 (9)]) ?_ rfl (diePost_err HErr.out (HX2.out.put (by omega) _ _))
      exact results_B_tmp2 (P := Tryz.prog) Tryz.results50 (g := w.heap.size + 2) rfl (by exact HZ2.out.put _) Tryz.underlying27 rfl size_docI
    have HE1 := Lib.hid (e1_a (d := d) hi0 hmx)
    have hmq : (d.last == 1099511627776) = false := by simp; omega
    clear hi0
    have hw9 : IntKind.i64.wrap (d.last + 1) = d.last + 1 := by rw [IntKind.wrap_i64]; omega
    have hs0 := setCell_put HG2.out 4 (.int .i64 (d.last + 1))
    have hf0 := HG2.out.frozen 4
    have hg0 := HG2.out.cell 4
    have HG3 := Lib.hid (HG2.out.put #[.string d.title, .string d.lang, .int .u8 d.rate, .bool d.drop, .int .i64 (d.last + 1), .slice ra rn rc, .slice ea en' ec, .slice ca cn cc])
    have hcg := fun o => HG3.out.cell o
    have HV3 := Lib.hid (HV2.out.put_other (g' := G8) (t' := 27) (by omega) #[.string d.title, .string d.lang, .int .u8 d.rate, .bool d.drop, .int .i64 (d.last + 1), .slice ra rn rc, .slice ea en' ec, .slice ca cn cc])
    have hs1 := setCell_put HV3.out 0 (.int .i64 (d.last + 1))
    have hf1 := HV3.out.frozen 0
    have hce3 := fun o => HV3.out.cell o
    simp at hs0 hs1 hg0
    have HV1 := Lib.hid (HV3.out.put #[.int .i64 (d.last + 1), .int .i64 e.inn, .int .i64 e.out, .string e.region, .int .u8 e.kind, .string e.speaker, .slice A n c])
    have HG1 := Lib.hid (HG3.out.put_other (g' := w.heap.size + 1) (t' := 66) (by omega) #[.int .i64 (d.last + 1), .int .i64 e.inn, .int .i64 e.out, .string e.region, .int .u8 e.kind, .string e.speaker, .slice A n c])
    have HB1 := Lib.hid ((HB2.out.put_other (g' := G8) (t' := 27) (by omega) #[.string d.title, .string d.lang, .int .u8 d.rate, .bool d.drop, .int .i64 (d.last + 1), .slice ra rn rc, .slice ea en' ec, .slice ca cn cc]).put_other (g' := w.heap.size + 1) (t' := 66) (by omega) #[.int .i64 (d.last + 1), .int .i64 e.inn, .int .i64 e.out, .string e.region, .int .u8 e.kind, .string e.speaker, .slice A n c])
    have HZ1 := Lib.hid ((HZ2.out.put_other (g' := G8) (t' := 27) (by omega) #[.string d.title, .string d.lang, .int .u8 d.rate, .bool d.drop, .int .i64 (d.last + 1), .slice ra rn rc, .slice ea en' ec, .slice ca cn cc]).put_other (g' := w.heap.size + 1) (t' := 66) (by omega) #[.int .i64 (d.last + 1), .int .i64 e.inn, .int .i64 e.out, .string e.region, .int .u8 e.kind, .string e.speaker, .slice A n c])
    have HX1 := Lib.hid ((HX2.out.put (g := G8) (by omega) 27 #[.string d.title, .string d.lang, .int .u8 d.rate, .bool d.drop, .int .i64 (d.last + 1), .slice ra rn rc, .slice ea en' ec, .slice ca cn cc]).put (g := w.heap.size + 1) (by omega) 66 #[.int .i64 (d.last + 1), .int .i64 e.inn, .int .i64 e.out, .string e.region, .int .u8 e.kind, .string e.speaker, .slice A n c])
    have HO1 : Hid (DocOwn (putB (putB W G8 27 #[.string d.title, .string d.lang, .int .u8 d.rate, .bool d.drop, .int .i64 (d.last + 1), .slice ra rn rc, .slice ea en' ec, .slice ca cn cc]) (w.heap.size + 1) 66 #[.int .i64 (d.last + 1), .int .i64 e.inn, .int .i64 e.out, .string e.region, .int .u8 e.kind, .string e.speaker, .slice A n c]) w0.heap.size d ⟨ra, rn, rc, ea, en', ec, ca, cn, cc⟩) := (HO2.out.put HG2.out #[.string d.title, .string d.lang, .int .u8 d.rate, .bool d.drop, .int .i64 (d.last + 1), .slice ra rn rc, .slice ea en' ec, .slice ca cn cc]).putE HV3.out (by omega) #[.int .i64 (d.last + 1), .int .i64 e.inn, .int .i64 e.out, .string e.region, .int .u8 e.kind, .string e.speaker, .slice A n c]
    go_upto_region 14 with fail
    clear hs0 hf0 hg0 hcg hs1 hf1 hce3 hcd hce HX2 HB2 HZ2 HV2 HO2 HG2 HG3 HV3 HFd HFc
    obtain ⟨W1, hW1⟩ : ∃ W1, W1 = putB (putB W G8 27 #[.string d.title, .string d.lang, .int .u8 d.rate, .bool d.drop, .int .i64 (d.last + 1), .slice ra rn rc, .slice ea en' ec, .slice ca cn cc]) (w.heap.size + 1) 66 #[.int .i64 (d.last + 1), .int .i64 e.inn, .int .i64 e.out, .string e.region, .int .u8 e.kind, .string e.speaker, .slice A n c] := ⟨_, rfl⟩
    rw [← hW1] at HX1 HB1 HZ1 HV1 HG1 HO1 ⊢
    clear hW1
    have HI : Hid (d.insId e = (d.last + 1)) := by show _ = _; unfold Doc.insId; rw [if_pos hid0.out]
    have HLs : Hid (d.insLast e = (d.last + 1)) := by show _ = _; unfold Doc.insLast; rw [if_pos hid0.out]
    have HEc2 := Lib.hid (HEc.out (d.last + 1))
    clear HEc
    have hcb := fun o => HB1.out.cell o
    go_wp2_with (first | (refine wpList_loadB rfl 66 (.tmp 3) rfl (w.heap.size + 1) 66 _ _ (by exact rfl) (by exact HV1.out) Tryz.underlying66 rfl (by exact size_event) ?_))
    refine (HEc2.out _ HX1.out).mono ?_
    rintro en w6 ⟨rfl, hx6⟩
    have HX6 := Lib.hid (HX1.out.trans hx6)
    have HB6 := Lib.hid (HB1.out.ext hx6)
    have HZ6 := Lib.hid (HZ1.out.ext hx6)
    have HV6 := Lib.hid (HV1.out.ext hx6)
    have HG6 := Lib.hid (HG1.out.ext hx6)
    have HO6 := Lib.hid (HO1.out.ext hx6)
    clear hcb hx6 HX1 HB1 HZ1 HV1 HG1 HO1 HEc2
    by_cases hee : (e.setId (d.last + 1)).err d.regs = 0
    case neg =>
      have HE3 : Hid ((e.setId (d.insId e)).err d.regs = (e.setId (d.last + 1)).err d.regs) := by show _ = _; rw [HI.out]
      have hne1 : ((e.setId (d.last + 1)).err d.regs == 0) = false := by simpa using hee
      have hne2 : ((e.setId (d.last + 1)).err d.regs != 0) = true := by simpa using hee
      have HNe := Lib.hid hee
      clear hee
      have HErr : Hid (d.insX e = (Doc.zero, 0, (e.setId (d.last + 1)).err d.regs)) := ins_3 H0.out HE1.out HE3.out HNe.out
      go_wp2_with (first | (refine wpList_storeB rfl 27 (.tmp 4) _ rfl (w.heap.size + 2) 27 _ _ (by exact rfl) (by exact rfl) (by exact HZ6.out) (by exact rfl) (by exact size_docI) (by simp [Value.oneCell']) ?_))
      refine bodyPost_ret (v := .tuple #[.agg docZero, .int .i64 0, .int .i64 ((e.setId (d.last + 1)).err d.regs)]) ?_ rfl (diePost_err HErr.out (HX6.out.put (by omega) _ _))
      exact results_B_tmp2 (P := Tryz.prog) Tryz.results50 (g := w.heap.size + 2) rfl (by exact HZ6.out.put _) Tryz.underlying27 rfl size_docI
    have HEe : Hid ((e.setId (d.insId e)).err d.regs = 0) := by show _ = _; rw [HI.out]; exact hee
    rw [hee]
    clear hee
    have hcb := fun o => HB6.out.cell o
    have hcg := fun o => HG6.out.cell o
    by_cases hlm : 400 ≤ en'
    · have hlz : (400 : Int) ≤ (en' : Int) := by omega
      have HErr : Hid (d.insX e = (Doc.zero, 0, 9)) := ins_4 H0.out HE1.out HEe.out (by have := HEl.out; omega)
      go_wp2_with (first | (refine wpList_storeB rfl 27 (.tmp 4) _ rfl (w.heap.size + 2) 27 _ _ (by exact rfl) (by exact rfl) (by exact HZ6.out) (by exact rfl) (by exact size_docI) (by simp [Value.oneCell']) ?_))
      refine bodyPost_ret (v := .tuple #[.agg docZero, .int .i64 0, .int .i64 (9)]) ?_ rfl (diePost_err HErr.out (HX6.out.put (by omega) _ _))
      exact results_B_tmp2 (P := Tryz.prog) Tryz.results50 (g := w.heap.size + 2) rfl (by exact HZ6.out.put _) Tryz.underlying27 rfl size_docI
    have hlz : ¬ (400 : Int) ≤ (en' : Int) := by omega
    have HOk : Hid (d.insX e = (d.insD e, d.insId e, 0)) := ins_5 H0.out HE1.out HEe.out (by have := HEl.out; omega)
    obtain ⟨hs, hown, hh, hel, hgd⟩ := HO6.out.evs
    dsimp only at hown hh hel hgd
    have HOw := Lib.hid hown
    have HGd := Lib.hid hgd
    have HHl := Lib.hid hh
    have HEvl := Lib.hid hel
    clear hown hgd hh hel
    have hszW := HX6.out.size
    have hszL : w0.heap.size ≤ w6.heap.size := by have := HG6.out.lt; have := HGs.out; omega
    have hszG := HG6.out.lt
    have hcv := fun o => HV6.out.cell o
    go_wp2_with (first | (refine wpList_loadB rfl 66 (.tmp 3) rfl (w.heap.size + 1) 66 _ _ (by exact rfl) (by exact HV6.out) Tryz.underlying66 rfl (by exact size_event) ?_) | (at_builtin; refine wpList_append1 rfl (.tmp 79) (.tmp 81) 24 rfl info_evtI Tryz.underlying24 rfl (by decide) (HOw.out.alloc _) (by exact rfl) w6.heap.size _ (by exact rfl) (by exact Blk.new' rfl) (by exact rfl) (by simp [Value.oneCell']) (by omega) (by simp [maxLen]; omega) (by simp; omega) ?_; intro v5 w5 hown5 hgr5; obtain ⟨A5, c5, rfl⟩ := own_isSlice hown5))
    clear hcb hcg hcv
    have hown4 := HOw.out.alloc (.cells #[.int .i64 (d.last + 1), .int .i64 e.inn, .int .i64 e.out, .string e.region, .int .u8 e.kind, .string e.speaker, .slice A n c] 66)
    have hty := own_typed hown4
    have hlt := own_lt hown4
    have HX10 := Lib.hid ((HX6.out.alloc (.cells #[.int .i64 (d.last + 1), .int .i64 e.inn, .int .i64 e.out, .string e.region, .int .u8 e.kind, .string e.speaker, .slice A n c] 66)).grown hgr5 (fun q hq => by have := hlt q hq; omega))
    have HG10 := Lib.hid ((HG6.out.alloc (.cells #[.int .i64 (d.last + 1), .int .i64 e.inn, .int .i64 e.out, .string e.region, .int .u8 e.kind, .string e.speaker, .slice A n c] 66)).kb (KB.grown hgr5 hty (by decide)))
    have HZ10 := Lib.hid ((HZ6.out.alloc (.cells #[.int .i64 (d.last + 1), .int .i64 e.inn, .int .i64 e.out, .string e.region, .int .u8 e.kind, .string e.speaker, .slice A n c] 66)).kb (KB.grown hgr5 hty (by decide)))
    have HV10 : Hid (Blk w5 (w.heap.size + 1) 66 #[.int .i64 (d.last + 1), .int .i64 e.inn, .int .i64 e.out, .string e.region, .int .u8 e.kind, .string e.speaker, .slice A n c]) := by
      show Blk _ _ _ _
      have hold := HV6.out.alloc (.cells #[.int .i64 (d.last + 1), .int .i64 e.inn, .int .i64 e.out, .string e.region, .int .u8 e.kind, .string e.speaker, .slice A n c] 66)
      unfold Blk at hold ⊢
      rw [hgr5.block _ (Array.getElem?_eq_some_iff.1 hold).1 (fun hq => by have := hlt _ hq.symm; omega)]
      exact hold
    have hown6 : w5.ownsRow w0.heap.size 66 7 (.slice A5 (en' + 1) c5) (en' + 1) ((hs ++ [EH.of (e.setId (d.last + 1)) A n c]).flatMap EH.vals) := by
      rw [List.flatMap_append]
      simpa [EH.vals, EH.of, Ev.setId] using hown5
    obtain ⟨A6, c6, hv6, hc6, hm6, hsl6, -⟩ := own_sl (f := EH.vals) (size := 7) EH.len (by rw [List.length_append, HHl.out]; rfl) hown6
    cases hv6
    have k1 : KB 87 (w6.alloc (.cells #[.int .i64 (d.last + 1), .int .i64 e.inn, .int .i64 e.out, .string e.region, .int .u8 e.kind, .string e.speaker, .slice A n c] 66)) w5 := KB.grown hgr5 hty (by decide)
    have k2 : KB 84 (w6.alloc (.cells #[.int .i64 (d.last + 1), .int .i64 e.inn, .int .i64 e.out, .string e.region, .int .u8 e.kind, .string e.speaker, .slice A n c] 66)) w5 := KB.grown hgr5 hty (by decide)
    have hatS : EvsAt w5 A5 (en' + 1) (d.evs ++ [e.setId (d.last + 1)]) := by
      refine evsAt_heads hsl6 (by rw [List.length_append, HEvl.out]; rfl) (fun i h9 e9 hh9 he9 => ?_)
      by_cases hi : i < en'
      · rw [List.getElem?_append_left (by rw [HHl.out]; exact hi)] at hh9
        rw [List.getElem?_append_left (by rw [HEvl.out]; exact hi)] at he9
        have hg := ((HGd.out i h9 e9 hh9 he9).ext ((Ext.refl w6).alloc (.cells #[.int .i64 (d.last + 1), .int .i64 e.inn, .int .i64 e.out, .string e.region, .int .u8 e.kind, .string e.speaker, .slice A n c] 66))).kb k1 k2
        exact ⟨hg.1, hg.at_⟩
      · have hil := (List.getElem?_eq_some_iff.1 hh9).1
        rw [List.length_append, HHl.out] at hil
        simp only [List.length_singleton] at hil
        obtain rfl : i = en' := by omega
        rw [List.getElem?_append_right (by rw [HHl.out]; exact Nat.le_refl _), HHl.out, Nat.sub_self] at hh9
        rw [List.getElem?_append_right (by rw [HEvl.out]; exact Nat.le_refl _), HEvl.out, Nat.sub_self] at he9
        simp only [List.getElem?_cons_zero, Option.some.injEq] at hh9 he9
        subst hh9 he9
        exact ⟨rfl, ((HEa.out.ext HX10.out).setId (d.last + 1))⟩
    have HSo := Lib.hid (R12Sort_any (d.evs ++ [e.setId (d.last + 1)]) A5 (en' + 1) c5 w5 hatS (by omega))
    have HRg9 := Lib.hid (own_kb (own_ext HO6.out.regs ((Ext.refl w6).alloc (.cells #[.int .i64 (d.last + 1), .int .i64 e.inn, .int .i64 e.out, .string e.region, .int .u8 e.kind, .string e.speaker, .slice A n c] 66))) (KB.grown hgr5 hty (by decide)))
    have HCm9 := Lib.hid (own_kb (own_ext HO6.out.coms ((Ext.refl w6).alloc (.cells #[.int .i64 (d.last + 1), .int .i64 e.inn, .int .i64 e.out, .string e.region, .int .u8 e.kind, .string e.speaker, .slice A n c] 66))) (KB.grown hgr5 hty (by decide)))
    have HRl9 := Lib.hid HO6.out.rlen
    have HCl9 := Lib.hid HO6.out.clen
    have hsz10 : w0.heap.size ≤ w5.heap.size := by have := hgr5.size; have h9 : w6.heap.size ≤ (w6.alloc (.cells #[.int .i64 (d.last + 1), .int .i64 e.inn, .int .i64 e.out, .string e.region, .int .u8 e.kind, .string e.speaker, .slice A n c] 66)).heap.size := (by simp); exact Nat.le_trans hszL (Nat.le_trans h9 this)
    clear hown4 hty hlt hown5 hown6 hgr5 hsl6 k1 k2 hatS HB6 HZ6 HV6 HX6 HO6 HG6 HOw HGd HHl HEvl
    refine HSo.out.mono ?_
    rintro en w8 ⟨v8, rfl, hev8, hx8⟩
    obtain ⟨A8, c8, hv8, -, -, -⟩ := hev8.at_
    subst hv8
    have HX11 := Lib.hid (HX10.out.trans hx8)
    have HG11 := Lib.hid (HG10.out.ext hx8)
    have HZ11 := Lib.hid (HZ10.out.ext hx8)
    have HV11 := Lib.hid (HV10.out.ext hx8)
    have HE11 := Lib.hid hev8
    have HRg11 := Lib.hid (own_ext HRg9.out hx8)
    have HCm11 := Lib.hid (own_ext HCm9.out hx8)
    have hs11 := fun u => setCell_put HG11.out 6 u
    have hc11 := HG11.out.cell 6
    have hf11 := HG11.out.frozen 6
    simp at hs11 hc11
    clear hx8 hev8 HX10 HG10 HZ10 HV10 HRg9 HCm9 HSo
    go_upto_region 20 with fail
    clear hs11 hc11 hf11
    obtain ⟨W9, hW9⟩ : ∃ W9, W9 = putB w8 G8 27 #[.string d.title, .string d.lang, .int .u8 d.rate, .bool d.drop, .int .i64 (d.last + 1), .slice ra rn rc, .slice A8 (en' + 1) c8, .slice ca cn cc] := ⟨_, rfl⟩
    rw [← hW9]
    have hGs := HGs.out
    have HG12 : Hid (Blk W9 G8 27 #[.string d.title, .string d.lang, .int .u8 d.rate, .bool d.drop, .int .i64 (d.last + 1), .slice ra rn rc, .slice A8 (en' + 1) c8, .slice ca cn cc]) := by show Blk _ _ _ _; rw [hW9]; exact HG11.out.put _
    have HZ12 : Hid (Blk W9 (w.heap.size + 2) 27 #[.string ⟨#[]⟩, .string ⟨#[]⟩, .int .u8 0, .bool false, .int .i64 0, .slice none 0 0, .slice none 0 0, .slice none 0 0]) := by show Blk _ _ _ _; rw [hW9]; exact HZ11.out.put_other (by omega) _
    have HV12 : Hid (Blk W9 (w.heap.size + 1) 66 #[.int .i64 (d.last + 1), .int .i64 e.inn, .int .i64 e.out, .string e.region, .int .u8 e.kind, .string e.speaker, .slice A n c]) := by show Blk _ _ _ _; rw [hW9]; exact HV11.out.put_other (by omega) _
    have HX12 : Hid (Ext w W9) := by show Ext _ _; rw [hW9]; exact HX11.out.put (by omega) _ _
    have HO12 : Hid (DocOwn W9 w.heap.size (d.insD e) ⟨ra, rn, rc, A8, en' + 1, c8, ca, cn, cc⟩) := by
      show DocOwn _ _ _ _
      rw [hW9]
      refine DocOwn.mk (own_kb (own_le HRg11.out (by omega)) (KB.put HG11.out (by decide))) HRl9.out ?_ (own_kb (own_le HCm11.out (by omega)) (KB.put HG11.out (by decide))) HCl9.out
      show EvsOwn _ _ _ _ (srtE (d.evs ++ [e.setId (d.insId e)]))
      rw [HI.out]
      exact (HE11.out.kb (KB.put HG11.out (by decide)) (KB.put HG11.out (by decide)) (KB.put HG11.out (by decide))).le (by omega)
    have hne1 : G8 ≠ w.heap.size + 2 := by omega
    have hne2 : w.heap.size + 1 ≠ w.heap.size + 2 := by omega
    clear hW9 HG11 HZ11 HV11 HX11 HE11 HRg11 HCm11 hGs
    refine wp_region_links [some 85, some 86, some 87, none, some 5, some 6] [[], [], [1], [0, 0], [2, 3, 0, 1, 2, 3], [4, 0, 1, 2, 3, 4]] [3] [.agg #[.string d.title, .string d.lang, .int .u8 d.rate, .bool d.drop, .int .i64 (d.last + 1), .slice ra rn rc, .slice A8 (en' + 1) c8, .slice ca cn cc], .pointer (some ⟨w.heap.size + 1, 0, none⟩), .int .i64 (d.last + 1), undef, .int .i64 (d.last + 1), .int .i64 0] (RdJ (w.heap.size + 2) #[.string d.title, .string d.lang, .int .u8 d.rate, .bool d.drop, .int .i64 (d.last + 1), .slice ra rn rc, .slice A8 (en' + 1) c8, .slice ca cn cc] W9) (by kernel_rfl) (by kernel_rfl) (by kernel_rfl) (by kernel_rfl) (by kernel_rfl) (by kernel_rfl) (by kernel_rfl) (by decide) ?_ ?_ ?_ ?_
    · exact RdJ.start _ _ W9
    · intro i o ho hc a w' us K' hJ hF hlim hk
      match i, ho with
      | 0, ho =>
        simp only [List.getElem?_toArray, List.getElem?_cons_zero, List.getElem?_cons_succ, Option.some.injEq] at ho
        subst ho
        have e8 := hF.old 8 (.pointer (some ⟨G8, 0, none⟩)) rfl rfl
        exact wp_loadBk 27 (.tmp 8) rfl _ 27 _ _ e8 (hJ.blk HG12.out hne1) Tryz.underlying27 rfl (by exact size_docI) hk
      | 1, ho =>
        simp only [List.getElem?_toArray, List.getElem?_cons_zero, List.getElem?_cons_succ, Option.some.injEq] at ho
        subst ho
        have e3 := hF.old 3 (.pointer (some ⟨w.heap.size + 1, 0, none⟩)) rfl rfl
        simp only [Act.eval] at e3
        clear hF hlim hJ
        go_simp
        exact hk
      | 2, ho =>
        simp only [List.getElem?_toArray, List.getElem?_cons_zero, List.getElem?_cons_succ, Option.some.injEq] at ho
        subst ho
        have e86 := hF.pure 1 86 (.pointer (some ⟨w.heap.size + 1, 0, none⟩)) rfl rfl rfl rfl
        have hcl : w'.cell? ⟨w.heap.size + 1, 0, none⟩ = some (.int .i64 (d.last + 1)) := (hJ.blk HV12.out hne2).cell 0
        simp only [Act.eval] at e86
        clear hF hlim hJ
        go_simp
        exact hk
      | 3, ho => simp at hc
      | 4, ho =>
        simp only [List.getElem?_toArray, List.getElem?_cons_zero, List.getElem?_cons_succ, Option.some.injEq] at ho
        subst ho
        have e87 := hF.pure 2 87 (.int .i64 (d.last + 1)) rfl rfl rfl rfl
        simp only [Act.eval] at e87
        clear hF hlim hJ
        go_simp
        exact hk
      | 5, ho =>
        simp only [List.getElem?_toArray, List.getElem?_cons_zero, List.getElem?_cons_succ, Option.some.injEq] at ho
        subst ho
        clear hF hlim hJ
        go_simp
        exact hk
      | i + 6, ho => simp at ho
    · intro p c' o hp ho a w' us K' hl hJ hF hk
      match p, hp with
      | 0, hp =>
        obtain rfl : 3 = c' := by simpa using hp
        simp only [List.getElem?_toArray, List.getElem?_cons_zero, List.getElem?_cons_succ, Option.some.injEq] at ho
        subst ho
        obtain rfl : us = [] := List.eq_nil_of_length_eq_zero hl
        have e4 := hF.old 4 (.pointer (some ⟨w.heap.size + 2, 0, none⟩)) rfl rfl
        have e85 := hF.pure 0 85 (.agg #[.string d.title, .string d.lang, .int .u8 d.rate, .bool d.drop, .int .i64 (d.last + 1), .slice ra rn rc, .slice A8 (en' + 1) c8, .slice ca cn cc]) rfl rfl rfl rfl
        exact wp_storeB 27 (.tmp 4) (.tmp 85) rfl (w.heap.size + 2) 27 _ _ e4 e85 (by exact size_docI) (by simp [Value.oneCell']) (hJ.blk_nil HZ12.out) rfl (hk undef _ hJ.store)
      | p + 1, hp => simp at hp
    intro us w10 hl hJ
    obtain ⟨u0, rfl⟩ := list_1 hl
    first | (rename_i hK; refine hK _ _ ?_; clear hK) | (rename_i hK hK_1; refine hK _ _ ?_; clear hK) | (rename_i hK hK_1 hK_2; refine hK _ _ ?_; clear hK) | (rename_i hK hK_1 hK_2 hK_3; refine hK _ _ ?_; clear hK)
    generalize hL : frameL _ _ _ _ = L
    obtain rfl : L = [(85, .agg #[.string d.title, .string d.lang, .int .u8 d.rate, .bool d.drop, .int .i64 (d.last + 1), .slice ra rn rc, .slice A8 (en' + 1) c8, .slice ca cn cc]), (86, .pointer (some ⟨w.heap.size + 1, 0, none⟩)), (87, .int .i64 (d.last + 1)), (5, .int .i64 (d.last + 1)), (6, .int .i64 0)] := hL.symm.trans (by kernel_rfl)
    clear hL hl
    simp only [Act.put, List.foldl_cons, List.foldl_nil, List.setIfInBounds_toArray, List.set_cons_zero, List.set_cons_succ]
    obtain ⟨w11, hx11, rfl⟩ := hJ.one
    clear hJ
    go_wp2_with fail
    refine bodyPost_ret (v := .tuple #[.agg #[.string d.title, .string d.lang, .int .u8 d.rate, .bool d.drop, .int .i64 (d.last + 1), .slice ra rn rc, .slice A8 (en' + 1) c8, .slice ca cn cc], .int .i64 (d.last + 1), .int .i64 0]) ?_ rfl ⟨⟨ra, rn, rc, A8, en' + 1, c8, ca, cn, cc⟩, ?_, ?_, ?_⟩
    · exact results_B_tmp2 (P := Tryz.prog) Tryz.results50 (g := w.heap.size + 2) rfl (by exact (HZ12.out.ext hx11).put _) Tryz.underlying27 rfl size_docI
    · rw [HOk.out]; show _ = Ending.returned (.tuple #[.agg ((d.insD e).cells _), .int .i64 (d.insId e), .int .i64 0]); rw [HI.out]; unfold Doc.cells Doc.insD; rw [HLs.out]
    · rw [HOk.out]; exact (HO12.out.ext hx11).put (HZ12.out.ext hx11) _
    · exact (HX12.out.trans hx11).put (by omega) _ _
  · have hid0 := Lib.hid hi0
    have hie : (e.id == 0) = false := by simpa using hi0
    by_cases hlo : e.id < 1
    · have HE1 := Lib.hid (e1_2 (d := d) hi0 (.inl hlo))
      clear hi0
      have HErr : Hid (d.insX e = (Doc.zero, 0, 2)) := ins_2 H0.out HE1.out (by decide)
      go_wp2_with (first | (refine wpList_storeB rfl 27 (.tmp 4) _ rfl (w.heap.size + 2) 27 _ _ (by exact rfl) (by exact rfl) (by exact HZ2.out) (by exact rfl) (by exact size_docI) (by simp [Value.oneCell']) ?_))
      refine bodyPost_ret (v := .tuple #[.agg docZero, .int .i64 0, .int .i64 (2)]) ?_ rfl (diePost_err HErr.out (HX2.out.put (by omega) _ _))
      exact results_B_tmp2 (P := Tryz.prog) Tryz.results50 (g := w.heap.size + 2) rfl (by exact HZ2.out.put _) Tryz.underlying27 rfl size_docI
    by_cases hhi : d.last < e.id
    · have HE1 := Lib.hid (e1_2 (d := d) hi0 (.inr hhi))
      clear hi0
      have HErr : Hid (d.insX e = (Doc.zero, 0, 2)) := ins_2 H0.out HE1.out (by decide)
      go_wp2_with (first | (refine wpList_storeB rfl 27 (.tmp 4) _ rfl (w.heap.size + 2) 27 _ _ (by exact rfl) (by exact rfl) (by exact HZ2.out) (by exact rfl) (by exact size_docI) (by simp [Value.oneCell']) ?_))
      refine bodyPost_ret (v := .tuple #[.agg docZero, .int .i64 0, .int .i64 (2)]) ?_ rfl (diePost_err HErr.out (HX2.out.put (by omega) _ _))
      exact results_B_tmp2 (P := Tryz.prog) Tryz.results50 (g := w.heap.size + 2) rfl (by exact HZ2.out.put _) Tryz.underlying27 rfl size_docI
    have HRg : Hid (¬ (e.id < 1 ∨ d.last < e.id)) := by show ¬ _; omega
    clear hi0
    go_wp2_with (first | (refine wpList_loadB rfl 27 (.tmp 2) rfl (w.heap.size) 27 _ _ (by exact rfl) (by exact HB2.out) Tryz.underlying27 rfl (by exact size_docI) ?_))
    clear hcd hce
    refine (HFd.out _ HX2.out).mono ?_
    rintro en w3 ⟨rfl, hx1⟩
    have HX3 := Lib.hid (HX2.out.trans hx1)
    have HB3 := Lib.hid (HB2.out.ext hx1)
    have HZ3 := Lib.hid (HZ2.out.ext hx1)
    have HV3 := Lib.hid (HV2.out.ext hx1)
    have HG3 := Lib.hid (HG2.out.ext hx1)
    have HO3 := Lib.hid (HO2.out.ext hx1)
    clear hx1 HX2 HB2 HZ2 HV2 HG2 HO2 HFd
    have hcd := fun o => HB3.out.cell o
    have hce := fun o => HV3.out.cell o
    by_cases hf1 : 0 ≤ findI d.evs e.id
    · have HE1 := Lib.hid (e1_7 hid0.out HRg.out (show d.takenB e.id = true by unfold Doc.takenB; simp [hf1]))
      have HErr : Hid (d.insX e = (Doc.zero, 0, 7)) := ins_2 H0.out HE1.out (by decide)
      go_wp2_with (first | (refine wpList_storeB rfl 27 (.tmp 4) _ rfl (w.heap.size + 2) 27 _ _ (by exact rfl) (by exact rfl) (by exact HZ3.out) (by exact rfl) (by exact size_docI) (by simp [Value.oneCell']) ?_))
      refine bodyPost_ret (v := .tuple #[.agg docZero, .int .i64 0, .int .i64 (7)]) ?_ rfl (diePost_err HErr.out (HX3.out.put (by omega) _ _))
      exact results_B_tmp2 (P := Tryz.prog) Tryz.results50 (g := w.heap.size + 2) rfl (by exact HZ3.out.put _) Tryz.underlying27 rfl size_docI
    go_wp2_with (first | (refine wpList_loadB rfl 27 (.tmp 2) rfl (w.heap.size) 27 _ _ (by exact rfl) (by exact HB3.out) Tryz.underlying27 rfl (by exact size_docI) ?_))
    clear hcd hce
    refine (HFc.out _ HX3.out).mono ?_
    rintro en w4 ⟨rfl, hx1⟩
    have HX1 := Lib.hid (HX3.out.trans hx1)
    have HB1 := Lib.hid (HB3.out.ext hx1)
    have HZ1 := Lib.hid (HZ3.out.ext hx1)
    have HV1 := Lib.hid (HV3.out.ext hx1)
    have HG1 := Lib.hid (HG3.out.ext hx1)
    have HO1 := Lib.hid (HO3.out.ext hx1)
    clear hx1 HX3 HB3 HZ3 HV3 HG3 HO3 HFc
    by_cases hf2 : 0 ≤ findCI d.coms e.id
    · have HE1 := Lib.hid (e1_7 hid0.out HRg.out (show d.takenB e.id = true by unfold Doc.takenB; simp [hf2]))
      have HErr : Hid (d.insX e = (Doc.zero, 0, 7)) := ins_2 H0.out HE1.out (by decide)
      go_wp2_with (first | (refine wpList_storeB rfl 27 (.tmp 4) _ rfl (w.heap.size + 2) 27 _ _ (by exact rfl) (by exact rfl) (by exact HZ1.out) (by exact rfl) (by exact size_docI) (by simp [Value.oneCell']) ?_))
      refine bodyPost_ret (v := .tuple #[.agg docZero, .int .i64 0, .int .i64 (7)]) ?_ rfl (diePost_err HErr.out (HX1.out.put (by omega) _ _))
      exact results_B_tmp2 (P := Tryz.prog) Tryz.results50 (g := w.heap.size + 2) rfl (by exact HZ1.out.put _) Tryz.underlying27 rfl size_docI
    have HE1 := Lib.hid (e1_b hid0.out HRg.out (show d.takenB e.id = false by unfold Doc.takenB; simp [hf1, hf2]))
    have HI : Hid (d.insId e = e.id) := by show _ = _; unfold Doc.insId; rw [if_neg hid0.out]
    have HLs : Hid (d.insLast e = d.last) := by show _ = _; unfold Doc.insLast; rw [if_neg hid0.out]
    have HEc2 := Lib.hid (HEc.out e.id)
    clear HEc
    have hcb := fun o => HB1.out.cell o
    go_wp2_with (first | (refine wpList_loadB rfl 66 (.tmp 3) rfl (w.heap.size + 1) 66 _ _ (by exact rfl) (by exact HV1.out) Tryz.underlying66 rfl (by exact size_event) ?_))
    refine (HEc2.out _ HX1.out).mono ?_
    rintro en w6 ⟨rfl, hx6⟩
    have HX6 := Lib.hid (HX1.out.trans hx6)
    have HB6 := Lib.hid (HB1.out.ext hx6)
    have HZ6 := Lib.hid (HZ1.out.ext hx6)
    have HV6 := Lib.hid (HV1.out.ext hx6)
    have HG6 := Lib.hid (HG1.out.ext hx6)
    have HO6 := Lib.hid (HO1.out.ext hx6)
    clear hcb hx6 HX1 HB1 HZ1 HV1 HG1 HO1 HEc2
    by_cases hee : (e.setId e.id).err d.regs = 0
    case neg =>
      have HE3 : Hid ((e.setId (d.insId e)).err d.regs = (e.setId e.id).err d.regs) := by show _ = _; rw [HI.out]
      have hne1 : ((e.setId e.id).err d.regs == 0) = false := by simpa using hee
      have hne2 : ((e.setId e.id).err d.regs != 0) = true := by simpa using hee
      have HNe := Lib.hid hee
      clear hee
      have HErr : Hid (d.insX e = (Doc.zero, 0, (e.setId e.id).err d.regs)) := ins_3 H0.out HE1.out HE3.out HNe.out
      go_wp2_with (first | (refine wpList_storeB rfl 27 (.tmp 4) _ rfl (w.heap.size + 2) 27 _ _ (by exact rfl) (by exact rfl) (by exact HZ6.out) (by exact rfl) (by exact size_docI) (by simp [Value.oneCell']) ?_))
      refine bodyPost_ret (v := .tuple #[.agg docZero, .int .i64 0, .int .i64 ((e.setId e.id).err d.regs)]) ?_ rfl (diePost_err HErr.out (HX6.out.put (by omega) _ _))
      exact results_B_tmp2 (P := Tryz.prog) Tryz.results50 (g := w.heap.size + 2) rfl (by exact HZ6.out.put _) Tryz.underlying27 rfl size_docI
    have HEe : Hid ((e.setId (d.insId e)).err d.regs = 0) := by show _ = _; rw [HI.out]; exact hee
    rw [hee]
    clear hee
    have hcb := fun o => HB6.out.cell o
    have hcg := fun o => HG6.out.cell o
    by_cases hlm : 400 ≤ en'
    · have hlz : (400 : Int) ≤ (en' : Int) := by omega
      have HErr : Hid (d.insX e = (Doc.zero, 0, 9)) := ins_4 H0.out HE1.out HEe.out (by have := HEl.out; omega)
      go_wp2_with (first | (refine wpList_storeB rfl 27 (.tmp 4) _ rfl (w.heap.size + 2) 27 _ _ (by exact rfl) (by exact rfl) (by exact HZ6.out) (by exact rfl) (by exact size_docI) (by simp [Value.oneCell']) ?_))
      refine bodyPost_ret (v := .tuple #[.agg docZero, .int .i64 0, .int .i64 (9)]) ?_ rfl (diePost_err HErr.out (HX6.out.put (by omega) _ _))
      exact results_B_tmp2 (P := Tryz.prog) Tryz.results50 (g := w.heap.size + 2) rfl (by exact HZ6.out.put _) Tryz.underlying27 rfl size_docI
    have hlz : ¬ (400 : Int) ≤ (en' : Int) := by omega
    have HOk : Hid (d.insX e = (d.insD e, d.insId e, 0)) := ins_5 H0.out HE1.out HEe.out (by have := HEl.out; omega)
    obtain ⟨hs, hown, hh, hel, hgd⟩ := HO6.out.evs
    dsimp only at hown hh hel hgd
    have HOw := Lib.hid hown
    have HGd := Lib.hid hgd
    have HHl := Lib.hid hh
    have HEvl := Lib.hid hel
    clear hown hgd hh hel
    have hszW := HX6.out.size
    have hszL : w0.heap.size ≤ w6.heap.size := by have := HG6.out.lt; have := HGs.out; omega
    have hszG := HG6.out.lt
    have hcv := fun o => HV6.out.cell o
    go_wp2_with (first | (refine wpList_loadB rfl 66 (.tmp 3) rfl (w.heap.size + 1) 66 _ _ (by exact rfl) (by exact HV6.out) Tryz.underlying66 rfl (by exact size_event) ?_) | (at_builtin; refine wpList_append1 rfl (.tmp 79) (.tmp 81) 24 rfl info_evtI Tryz.underlying24 rfl (by decide) (HOw.out.alloc _) (by exact rfl) w6.heap.size _ (by exact rfl) (by exact Blk.new' rfl) (by exact rfl) (by simp [Value.oneCell']) (by omega) (by simp [maxLen]; omega) (by simp; omega) ?_; intro v5 w5 hown5 hgr5; obtain ⟨A5, c5, rfl⟩ := own_isSlice hown5))
    clear hcb hcg hcv
    have hown4 := HOw.out.alloc (.cells #[.int .i64 e.id, .int .i64 e.inn, .int .i64 e.out, .string e.region, .int .u8 e.kind, .string e.speaker, .slice A n c] 66)
    have hty := own_typed hown4
    have hlt := own_lt hown4
    have HX10 := Lib.hid ((HX6.out.alloc (.cells #[.int .i64 e.id, .int .i64 e.inn, .int .i64 e.out, .string e.region, .int .u8 e.kind, .string e.speaker, .slice A n c] 66)).grown hgr5 (fun q hq => by have := hlt q hq; omega))
    have HG10 := Lib.hid ((HG6.out.alloc (.cells #[.int .i64 e.id, .int .i64 e.inn, .int .i64 e.out, .string e.region, .int .u8 e.kind, .string e.speaker, .slice A n c] 66)).kb (KB.grown hgr5 hty (by decide)))
    have HZ10 := Lib.hid ((HZ6.out.alloc (.cells #[.int .i64 e.id, .int .i64 e.inn, .int .i64 e.out, .string e.region, .int .u8 e.kind, .string e.speaker, .slice A n c] 66)).kb (KB.grown hgr5 hty (by decide)))
    have HV10 : Hid (Blk w5 (w.heap.size + 1) 66 #[.int .i64 e.id, .int .i64 e.inn, .int .i64 e.out, .string e.region, .int .u8 e.kind, .string e.speaker, .slice A n c]) := by
      show Blk _ _ _ _
      have hold := HV6.out.alloc (.cells #[.int .i64 e.id, .int .i64 e.inn, .int .i64 e.out, .string e.region, .int .u8 e.kind, .string e.speaker, .slice A n c] 66)
      unfold Blk at hold ⊢
      rw [hgr5.block _ (Array.getElem?_eq_some_iff.1 hold).1 (fun hq => by have := hlt _ hq.symm; omega)]
      exact hold
    have hown6 : w5.ownsRow w0.heap.size 66 7 (.slice A5 (en' + 1) c5) (en' + 1) ((hs ++ [EH.of (e.setId e.id) A n c]).flatMap EH.vals) := by
      rw [List.flatMap_append]
      simpa [EH.vals, EH.of, Ev.setId] using hown5
    obtain ⟨A6, c6, hv6, hc6, hm6, hsl6, -⟩ := own_sl (f := EH.vals) (size := 7) EH.len (by rw [List.length_append, HHl.out]; rfl) hown6
    cases hv6
    have k1 : KB 87 (w6.alloc (.cells #[.int .i64 e.id, .int .i64 e.inn, .int .i64 e.out, .string e.region, .int .u8 e.kind, .string e.speaker, .slice A n c] 66)) w5 := KB.grown hgr5 hty (by decide)
    have k2 : KB 84 (w6.alloc (.cells #[.int .i64 e.id, .int .i64 e.inn, .int .i64 e.out, .string e.region, .int .u8 e.kind, .string e.speaker, .slice A n c] 66)) w5 := KB.grown hgr5 hty (by decide)
    have hatS : EvsAt w5 A5 (en' + 1) (d.evs ++ [e.setId e.id]) := by
      refine evsAt_heads hsl6 (by rw [List.length_append, HEvl.out]; rfl) (fun i h9 e9 hh9 he9 => ?_)
      by_cases hi : i < en'
      · rw [List.getElem?_append_left (by rw [HHl.out]; exact hi)] at hh9
        rw [List.getElem?_append_left (by rw [HEvl.out]; exact hi)] at he9
        have hg := ((HGd.out i h9 e9 hh9 he9).ext ((Ext.refl w6).alloc (.cells #[.int .i64 e.id, .int .i64 e.inn, .int .i64 e.out, .string e.region, .int .u8 e.kind, .string e.speaker, .slice A n c] 66))).kb k1 k2
        exact ⟨hg.1, hg.at_⟩
      · have hil := (List.getElem?_eq_some_iff.1 hh9).1
        rw [List.length_append, HHl.out] at hil
        simp only [List.length_singleton] at hil
        obtain rfl : i = en' := by omega
        rw [List.getElem?_append_right (by rw [HHl.out]; exact Nat.le_refl _), HHl.out, Nat.sub_self] at hh9
        rw [List.getElem?_append_right (by rw [HEvl.out]; exact Nat.le_refl _), HEvl.out, Nat.sub_self] at he9
        simp only [List.getElem?_cons_zero, Option.some.injEq] at hh9 he9
        subst hh9 he9
        exact ⟨rfl, ((HEa.out.ext HX10.out).setId e.id)⟩
    have HSo := Lib.hid (R12Sort_any (d.evs ++ [e.setId e.id]) A5 (en' + 1) c5 w5 hatS (by omega))
    have HRg9 := Lib.hid (own_kb (own_ext HO6.out.regs ((Ext.refl w6).alloc (.cells #[.int .i64 e.id, .int .i64 e.inn, .int .i64 e.out, .string e.region, .int .u8 e.kind, .string e.speaker, .slice A n c] 66))) (KB.grown hgr5 hty (by decide)))
    have HCm9 := Lib.hid (own_kb (own_ext HO6.out.coms ((Ext.refl w6).alloc (.cells #[.int .i64 e.id, .int .i64 e.inn, .int .i64 e.out, .string e.region, .int .u8 e.kind, .string e.speaker, .slice A n c] 66))) (KB.grown hgr5 hty (by decide)))
    have HRl9 := Lib.hid HO6.out.rlen
    have HCl9 := Lib.hid HO6.out.clen
    have hsz10 : w0.heap.size ≤ w5.heap.size := by have := hgr5.size; have h9 : w6.heap.size ≤ (w6.alloc (.cells #[.int .i64 e.id, .int .i64 e.inn, .int .i64 e.out, .string e.region, .int .u8 e.kind, .string e.speaker, .slice A n c] 66)).heap.size := (by simp); exact Nat.le_trans hszL (Nat.le_trans h9 this)
    clear hown4 hty hlt hown5 hown6 hgr5 hsl6 k1 k2 hatS HB6 HZ6 HV6 HX6 HO6 HG6 HOw HGd HHl HEvl
    refine HSo.out.mono ?_
    rintro en w8 ⟨v8, rfl, hev8, hx8⟩
    obtain ⟨A8, c8, hv8, -, -, -⟩ := hev8.at_
    subst hv8
    have HX11 := Lib.hid (HX10.out.trans hx8)
    have HG11 := Lib.hid (HG10.out.ext hx8)
    have HZ11 := Lib.hid (HZ10.out.ext hx8)
    have HV11 := Lib.hid (HV10.out.ext hx8)
    have HE11 := Lib.hid hev8
    have HRg11 := Lib.hid (own_ext HRg9.out hx8)
    have HCm11 := Lib.hid (own_ext HCm9.out hx8)
    have hs11 := fun u => setCell_put HG11.out 6 u
    have hc11 := HG11.out.cell 6
    have hf11 := HG11.out.frozen 6
    simp at hs11 hc11
    clear hx8 hev8 HX10 HG10 HZ10 HV10 HRg9 HCm9 HSo
    go_upto_region 20 with fail
    clear hs11 hc11 hf11
    obtain ⟨W9, hW9⟩ : ∃ W9, W9 = putB w8 G8 27 #[.string d.title, .string d.lang, .int .u8 d.rate, .bool d.drop, .int .i64 d.last, .slice ra rn rc, .slice A8 (en' + 1) c8, .slice ca cn cc] := ⟨_, rfl⟩
    rw [← hW9]
    have hGs := HGs.out
    have HG12 : Hid (Blk W9 G8 27 #[.string d.title, .string d.lang, .int .u8 d.rate, .bool d.drop, .int .i64 d.last, .slice ra rn rc, .slice A8 (en' + 1) c8, .slice ca cn cc]) := by show Blk _ _ _ _; rw [hW9]; exact HG11.out.put _
    have HZ12 : Hid (Blk W9 (w.heap.size + 2) 27 #[.string ⟨#[]⟩, .string ⟨#[]⟩, .int .u8 0, .bool false, .int .i64 0, .slice none 0 0, .slice none 0 0, .slice none 0 0]) := by show Blk _ _ _ _; rw [hW9]; exact HZ11.out.put_other (by omega) _
    have HV12 : Hid (Blk W9 (w.heap.size + 1) 66 #[.int .i64 e.id, .int .i64 e.inn, .int .i64 e.out, .string e.region, .int .u8 e.kind, .string e.speaker, .slice A n c]) := by show Blk _ _ _ _; rw [hW9]; exact HV11.out.put_other (by omega) _
    have HX12 : Hid (Ext w W9) := by show Ext _ _; rw [hW9]; exact HX11.out.put (by omega) _ _
    have HO12 : Hid (DocOwn W9 w.heap.size (d.insD e) ⟨ra, rn, rc, A8, en' + 1, c8, ca, cn, cc⟩) := by
      show DocOwn _ _ _ _
      rw [hW9]
      refine DocOwn.mk (own_kb (own_le HRg11.out (by omega)) (KB.put HG11.out (by decide))) HRl9.out ?_ (own_kb (own_le HCm11.out (by omega)) (KB.put HG11.out (by decide))) HCl9.out
      show EvsOwn _ _ _ _ (srtE (d.evs ++ [e.setId (d.insId e)]))
      rw [HI.out]
      exact (HE11.out.kb (KB.put HG11.out (by decide)) (KB.put HG11.out (by decide)) (KB.put HG11.out (by decide))).le (by omega)
    have hne1 : G8 ≠ w.heap.size + 2 := by omega
    have hne2 : w.heap.size + 1 ≠ w.heap.size + 2 := by omega
    clear hW9 HG11 HZ11 HV11 HX11 HE11 HRg11 HCm11 hGs
    refine wp_region_links [some 85, some 86, some 87, none, some 5, some 6] [[], [], [1], [0, 0], [2, 3, 0, 1, 2, 3], [4, 0, 1, 2, 3, 4]] [3] [.agg #[.string d.title, .string d.lang, .int .u8 d.rate, .bool d.drop, .int .i64 d.last, .slice ra rn rc, .slice A8 (en' + 1) c8, .slice ca cn cc], .pointer (some ⟨w.heap.size + 1, 0, none⟩), .int .i64 e.id, undef, .int .i64 e.id, .int .i64 0] (RdJ (w.heap.size + 2) #[.string d.title, .string d.lang, .int .u8 d.rate, .bool d.drop, .int .i64 d.last, .slice ra rn rc, .slice A8 (en' + 1) c8, .slice ca cn cc] W9) (by kernel_rfl) (by kernel_rfl) (by kernel_rfl) (by kernel_rfl) (by kernel_rfl) (by kernel_rfl) (by kernel_rfl) (by decide) ?_ ?_ ?_ ?_
    · exact RdJ.start _ _ W9
    · intro i o ho hc a w' us K' hJ hF hlim hk
      match i, ho with
      | 0, ho =>
        simp only [List.getElem?_toArray, List.getElem?_cons_zero, List.getElem?_cons_succ, Option.some.injEq] at ho
        subst ho
        have e8 := hF.old 8 (.pointer (some ⟨G8, 0, none⟩)) rfl rfl
        exact wp_loadBk 27 (.tmp 8) rfl _ 27 _ _ e8 (hJ.blk HG12.out hne1) Tryz.underlying27 rfl (by exact size_docI) hk
      | 1, ho =>
        simp only [List.getElem?_toArray, List.getElem?_cons_zero, List.getElem?_cons_succ, Option.some.injEq] at ho
        subst ho
        have e3 := hF.old 3 (.pointer (some ⟨w.heap.size + 1, 0, none⟩)) rfl rfl
        simp only [Act.eval] at e3
        clear hF hlim hJ
        go_simp
        exact hk
      | 2, ho =>
        simp only [List.getElem?_toArray, List.getElem?_cons_zero, List.getElem?_cons_succ, Option.some.injEq] at ho
        subst ho
        have e86 := hF.pure 1 86 (.pointer (some ⟨w.heap.size + 1, 0, none⟩)) rfl rfl rfl rfl
        have hcl : w'.cell? ⟨w.heap.size + 1, 0, none⟩ = some (.int .i64 e.id) := (hJ.blk HV12.out hne2).cell 0
        simp only [Act.eval] at e86
        clear hF hlim hJ
        go_simp
        exact hk
      | 3, ho => simp at hc
      | 4, ho =>
        simp only [List.getElem?_toArray, List.getElem?_cons_zero, List.getElem?_cons_succ, Option.some.injEq] at ho
        subst ho
        have e87 := hF.pure 2 87 (.int .i64 e.id) rfl rfl rfl rfl
        simp only [Act.eval] at e87
        clear hF hlim hJ
        go_simp
        exact hk
      | 5, ho =>
        simp only [List.getElem?_toArray, List.getElem?_cons_zero, List.getElem?_cons_succ, Option.some.injEq] at ho
        subst ho
        clear hF hlim hJ
        go_simp
        exact hk
      | i + 6, ho => simp at ho
    · intro p c' o hp ho a w' us K' hl hJ hF hk
      match p, hp with
      | 0, hp =>
        obtain rfl : 3 = c' := by simpa using hp
        simp only [List.getElem?_toArray, List.getElem?_cons_zero, List.getElem?_cons_succ, Option.some.injEq] at ho
        subst ho
        obtain rfl : us = [] := List.eq_nil_of_length_eq_zero hl
        have e4 := hF.old 4 (.pointer (some ⟨w.heap.size + 2, 0, none⟩)) rfl rfl
        have e85 := hF.pure 0 85 (.agg #[.string d.title, .string d.lang, .int .u8 d.rate, .bool d.drop, .int .i64 d.last, .slice ra rn rc, .slice A8 (en' + 1) c8, .slice ca cn cc]) rfl rfl rfl rfl
        exact wp_storeB 27 (.tmp 4) (.tmp 85) rfl (w.heap.size + 2) 27 _ _ e4 e85 (by exact size_docI) (by simp [Value.oneCell']) (hJ.blk_nil HZ12.out) rfl (hk undef _ hJ.store)
      | p + 1, hp => simp at hp
    intro us w10 hl hJ
    obtain ⟨u0, rfl⟩ := list_1 hl
    first | (rename_i hK; refine hK _ _ ?_; clear hK) | (rename_i hK hK_1; refine hK _ _ ?_; clear hK) | (rename_i hK hK_1 hK_2; refine hK _ _ ?_; clear hK) | (rename_i hK hK_1 hK_2 hK_3; refine hK _ _ ?_; clear hK)
    generalize hL : frameL _ _ _ _ = L
    obtain rfl : L = [(85, .agg #[.string d.title, .string d.lang, .int .u8 d.rate, .bool d.drop, .int .i64 d.last, .slice ra rn rc, .slice A8 (en' + 1) c8, .slice ca cn cc]), (86, .pointer (some ⟨w.heap.size + 1, 0, none⟩)), (87, .int .i64 e.id), (5, .int .i64 e.id), (6, .int .i64 0)] := hL.symm.trans (by kernel_rfl)
    clear hL hl
    simp only [Act.put, List.foldl_cons, List.foldl_nil, List.setIfInBounds_toArray, List.set_cons_zero, List.set_cons_succ]
    obtain ⟨w11, hx11, rfl⟩ := hJ.one
    clear hJ
    go_wp2_with fail
    refine bodyPost_ret (v := .tuple #[.agg #[.string d.title, .string d.lang, .int .u8 d.rate, .bool d.drop, .int .i64 d.last, .slice ra rn rc, .slice A8 (en' + 1) c8, .slice ca cn cc], .int .i64 e.id, .int .i64 0]) ?_ rfl ⟨⟨ra, rn, rc, A8, en' + 1, c8, ca, cn, cc⟩, ?_, ?_, ?_⟩
    · exact results_B_tmp2 (P := Tryz.prog) Tryz.results50 (g := w.heap.size + 2) rfl (by exact (HZ12.out.ext hx11).put _) Tryz.underlying27 rfl size_docI
    · rw [HOk.out]; show _ = Ending.returned (.tuple #[.agg ((d.insD e).cells _), .int .i64 (d.insId e), .int .i64 0]); rw [HI.out]; unfold Doc.cells Doc.insD; rw [HLs.out]
    · rw [HOk.out]; exact (HO12.out.ext hx11).put (HZ12.out.ext hx11) _
    · exact (HX12.out.trans hx11).put (by omega) _ _
end Go.Proofs.YtagfedbdakmlgaaGreatDoor

/-! RemP -/
namespace Go.Proofs.YtagfedbdakmlgaaGreatDoor
set_option linter.unusedVariables false
set_option linter.unusedSimpArgs false
open Go.RowKit
def Com.lose (id : Int) (c : Com) : Com := if c.ev = id then ⟨c.id, c.ev, 0, 0, c.author, c.text, c.done, true⟩ else c
def Doc.cutE (d : Doc) (k : Nat) : Doc := ⟨d.title, d.lang, d.rate, d.drop, d.last, d.regs, d.evs.take k ++ d.evs.drop (k + 1), d.coms⟩
/-- what Remove comes to -/
def Doc.remX (d : Doc) (id : Int) : DE :=
  if d.err ≠ 0 then (Doc.zero, d.err) else match findE d.evs id with
    | none => (Doc.zero, 6)
    | some k => ((d.cutE k).withComs (d.coms.map (Com.lose id)), 0)
section
variable {d : Doc} {id : Int} {k : Nat}
end
theorem DocOwn.ev_at {w : World} {L k : Nat} {d : Doc} {h : DocH} (o : DocOwn w L d h) (hk : k < h.en) : ∃ g, h.ea = some ⟨g, 0, none⟩ ∧ L ≤ g := by
  obtain ⟨hs, h1, -⟩ := o.evs
  rcases h1.2 with ⟨hv, hn⟩ | ⟨g, cap, cur, hv, hg, hb, hnc, hcm, hcs, ht⟩
  · omega
  · exact ⟨g, by injection hv, hg⟩
theorem DocOwn.com_cell {w : World} {L k j g : Nat} {d : Doc} {h : DocH} {c : Com} {u : Value} (o : DocOwn w L d h) (hca : h.ca = some ⟨g, 0, none⟩) (hc : d.coms[k]? = some c) (hu : c.vals[j]? = some u) : w.cell? ⟨g, k * 8 + j, none⟩ = some u ∧ w.frozen? ⟨g, k * 8 + j, none⟩ = false := by
  have hk := (List.getElem?_eq_some_iff.1 hc).1
  have hj : j < 8 := by have := (List.getElem?_eq_some_iff.1 hu).1; exact this
  have a4 := o.coms
  have hty := own_typed a4
  rw [hca] at a4 hty
  have a5 := o.clen
  exact ⟨by rw [a4.cellAt (k * 8 + j) (by omega), flatMap_at Com.vals 8 (fun _ => rfl) d.coms k c j hc hj, hu], (hty g rfl).frozen _⟩
end Go.Proofs.YtagfedbdakmlgaaGreatDoor

/-! RetV -/
namespace Go.Proofs.YtagfedbdakmlgaaGreatDoor
set_option linter.unusedVariables false
set_option linter.unusedSimpArgs false
open Go.RowKit
section
variable {d : Doc} {b m : Int} {drop : Bool}
/-- what a comment that is not lost must have -/
def Com.Good (c : Com) (evs : List Ev) : Prop := (∃ k e, findE evs c.ev = some k ∧ evs[k]? = some e ∧ 0 ≤ c.fr ∧ c.fr < c.til ∧ c.til ≤ e.len) ∧ nameB c.author = true ∧ vld c.text = true ∧ c.text.toList.isEmpty = false ∧ c.text.size ≤ 400
end
end Go.Proofs.YtagfedbdakmlgaaGreatDoor

/-! RetPlain -/
namespace Go.Proofs.YtagfedbdakmlgaaGreatDoor
set_option linter.unusedVariables false
set_option linter.unusedSimpArgs false
open Go.RowKit
/-- what a valid event is -/
structure Ev.Ok (e : Ev) (regs : List Reg) : Prop where
  id1 : 1 ≤ e.id
  id2 : e.id ≤ 1099511627776
  span : spansB e.inn e.out = true
  found : ∃ r, findR regs e.region = some r ∧ r.usable = true ∧ (e.rows.length : Int) ≤ r.height ∧ ∀ x ∈ e.rows, 0 ≤ rowLen x ∧ rowLen x ≤ r.width
  kind : noKind e.kind = false
  name : ¬ (e.speaker.toList.isEmpty = false ∧ nameB e.speaker = false)
  some_ : e.rows.length ≠ 0
  few : e.rows.length ≤ 4
  rows : ∀ r ∈ e.rows, rowErrE r = 0
/-- an event with some of the rows of a valid one -/
theorem Ev.Ok.part {e f : Ev} {regs : List Reg} (h : e.Ok regs) (h1 : 1 ≤ f.id) (h2 : f.id ≤ 1099511627776) (h3 : spansB f.inn f.out = true) (hr : f.region = e.region) (hk : f.kind = e.kind) (hs : f.speaker = e.speaker) (hl : f.rows.length ≠ 0) (hle : f.rows.length ≤ e.rows.length) (hsub : ∀ r ∈ f.rows, r ∈ e.rows) : f.Ok regs := by
  obtain ⟨_, _, _, ⟨r, hr', hu, hh, hw⟩, h4, h5, h6, h7, h8⟩ := h
  exact ⟨h1, h2, h3, ⟨r, by rw [hr]; exact hr', hu, by omega, fun x hx => hw x (hsub x hx)⟩, by rw [hk]; exact h4, by rw [hs]; exact h5, hl, by omega, fun x hx => h8 x (hsub x hx)⟩
theorem lenSum_of : ∀ {l : List Int} (s : Int), (∀ x ∈ l, 0 ≤ x) → lenSum s l = s + l.sum
  | [], s, _ => by simp [lenSum]
  | n :: l, s, h => by
    have h1 := h n (List.mem_cons_self ..)
    unfold lenSum
    rw [if_neg (by omega), lenSum_of (s + n) fun x hx => h x (List.mem_cons_of_mem _ hx), List.sum_cons]
    omega
theorem Ev.Ok.len {e : Ev} {regs : List Reg} (h : e.Ok regs) : e.len = (e.rows.length : Int) - 1 + (e.rows.map rowLen).sum := by
  obtain ⟨_, _, _, hw⟩ := h.found
  unfold Ev.len
  rw [lenSum_of _ (fun x hx => by obtain ⟨y, hy, rfl⟩ := List.mem_map.1 hx; exact (hw.2 y hy).1)]
  have := h.some_
  omega
theorem Ev.Ok.frames {e : Ev} {regs : List Reg} (h : e.Ok regs) : e.frames = e.out - e.inn := by unfold Ev.frames; rw [if_pos h.span]
end Go.Proofs.YtagfedbdakmlgaaGreatDoor

/-! ShP -/
namespace Go.Proofs.YtagfedbdakmlgaaGreatDoor
set_option linter.unusedVariables false
set_option linter.unusedSimpArgs false
open Go.RowKit
def Ev.mv (fr sh : Int) (e : Ev) : Ev := if e.inn < fr then e else ⟨e.id, e.inn + sh, e.out + sh, e.region, e.kind, e.speaker, e.rows⟩
def Ev.mvBad (fr sh : Int) (e : Ev) : Bool := decide (¬ e.inn < fr ∧ (e.inn + sh < 0 ∨ 5184000 < e.out + sh))
def Doc.withEvs (d : Doc) (l : List Ev) : Doc := ⟨d.title, d.lang, d.rate, d.drop, d.last, d.regs, l, d.coms⟩
/-- what Shift comes to -/
def Doc.shX (d : Doc) (fr sh : Int) : DE :=
  if d.err ≠ 0 then (Doc.zero, d.err) else if sh < -5184000 ∨ 5184000 < sh then (Doc.zero, 2) else if d.evs.any (Ev.mvBad fr sh) = true then (Doc.zero, 2) else (d.withEvs (srtE (d.evs.map (Ev.mv fr sh))), 0)
section
variable {d : Doc} {fr sh : Int}
end
theorem upd_step {α : Type} (f : α → α) (l : List α) (i : Nat) (c : α) (h : l[i]? = some c) : ((l.take i).map f ++ l.drop i)[i]? = some c ∧ ∀ c' : α, ((l.take i).map f ++ l.drop i).set i c' = (l.take i).map f ++ c' :: l.drop (i + 1) := by
  have hi := (List.getElem?_eq_some_iff.1 h).1
  have hl : ((l.take i).map f).length = i := by rw [List.length_map, List.length_take]; omega
  constructor
  · rw [List.getElem?_append_right (by omega), hl, Nat.sub_self, drop_at l i c h]; rfl
  · intro c'
    rw [List.set_append_right _ _ (by omega), hl, Nat.sub_self, drop_at l i c h]
    rfl
theorem upd_next {α : Type} (f : α → α) (l : List α) (i : Nat) (c : α) (h : l[i]? = some c) : (l.take (i + 1)).map f ++ l.drop (i + 1) = (l.take i).map f ++ f c :: l.drop (i + 1) := by
  rw [take_snoc' l i c h, List.map_append, List.append_assoc]
  rfl
end Go.Proofs.YtagfedbdakmlgaaGreatDoor
