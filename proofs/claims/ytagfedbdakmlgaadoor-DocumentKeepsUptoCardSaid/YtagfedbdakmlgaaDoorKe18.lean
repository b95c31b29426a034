/- Laid together: The walk of the reference's Shift. The walk of document.Put. -/
import Derived.Test.YtagfedbdakmlgaaDoorKe17
import Derived.Test.YtagfedbdakmlgaaDoorKe16
import Derived.Test.YtagfedbdakmlgaaDoorKe14

/-! ShiftR -/
namespace Go.Proofs.YtagfedbdakmlgaaDoor
set_option linter.unusedVariables false
set_option linter.unusedSimpArgs false
open Go.RowKit
theorem DocOwn.ev_row {w : World} {L k g : Nat} {d : Doc} {h : DocH} {e : Ev} (o : DocOwn w L d h) (hea : h.ea = some ⟨g, 0, none⟩) (he : d.evs[k]? = some e) : ∃ A n c, EGood w L (EH.of e A n c) e ∧ Typed w 45 g ∧ ∀ j u, (e.cells A n c).toList[j]? = some u → w.cell? ⟨g, k * 7 + j, none⟩ = some u := by
  obtain ⟨hs, h1, h2, h3, h4⟩ := o.evs
  rw [hea] at h1
  have hty : Typed w 45 g := own_typed h1 g rfl
  have hk := (List.getElem?_eq_some_iff.1 he).1
  obtain ⟨x, hx⟩ : ∃ x, hs[k]? = some x := ⟨_, List.getElem?_eq_getElem (by omega)⟩
  have hg := h4 k x e hx he
  refine ⟨x.A, x.n, x.c, ⟨rfl, hg.2.1, hg.2.2.1, hg.2.2.2⟩, hty, fun j u hu => ?_⟩
  have hj : j < 7 := (List.getElem?_eq_some_iff.1 hu).1
  rw [h1.cellAt (k * 7 + j) (by omega), flatMap_at EH.vals 7 EH.len hs k x j hx hj, hg.1, EH.of_vals]
  exact hu
def ShLoopR (d : Doc) (fr sh : Int) (w w0 : World) (h : DocH) (G9 : Nat) (cs : Array Value) (v : Value) (wr : World) : Prop :=
  ∃ i : Nat, i ≤ h.en ∧ v = .int .i64 i ∧ (d.evs.take i).any (Ev.mvBad fr sh) = false ∧ Ext w0 wr ∧ Blk wr G9 39 cs ∧ Blk wr (w.heap.size + 1) 39 docZero ∧ DocOwn wr w0.heap.size (d.withEvs ((d.evs.take i).map (Ev.mv fr sh) ++ d.evs.drop i)) h
end Go.Proofs.YtagfedbdakmlgaaDoor

/-! PutD -/
namespace Go.Proofs.YtagfedbdakmlgaaDoor
set_option linter.unusedVariables false
set_option linter.unusedSimpArgs false
open Go.RowKit
def PtLoop (f : Com → Com) (d : Doc) (w : World) (h : DocH) (L G : Nat) (cs EE : Array Value) (v : Value) (wr : World) : Prop :=
  ∃ i : Nat, i ≤ h.cn ∧ v = .int .i64 i ∧ Ext w wr ∧ Blk wr G 39 cs ∧ Blk wr (w.heap.size + 1) 45 EE ∧ Blk wr (w.heap.size + 2) 39 docZero ∧ DocOwn wr L (d.withComs ((d.coms.take i).map f ++ d.coms.drop i)) h ∧ L ≤ wr.heap.size
set_option maxRecDepth 100000 in
set_option maxHeartbeats 8000000 in
theorem DPut_any (d : Doc) (h : DocH) (e : Ev) (A : Option Addr) (n c : Nat) (w : World) (hE : Env w) (hat : DocAt w d h) (hf : DocFit d) (hrn : h.rn ≤ 9223372036854775807) (hr : h.rn * 56 ≤ 140737488355328) (hn : h.en ≤ 1000000) (hcn : h.cn ≤ 1000000) (he : EvAt w e A n c) (hes : EvSmall e) (hby : e.bytes ≤ 1099511627776) :
    Calls Tryd.prog 16 #[.agg (d.cells h), .agg (e.cells A n c)] w (DEPost (d.putX e) w) := by
  have HX : Hid (Ext w (((w.alloc (.cells (d.cells h) 39)).alloc (.cells (e.cells A n c) 45)).alloc (.cells docZero 39))) := (((Ext.refl w).alloc _).alloc _).alloc _
  have HB : Hid (Blk (((w.alloc (.cells (d.cells h) 39)).alloc (.cells (e.cells A n c) 45)).alloc (.cells docZero 39)) w.heap.size 39 (d.cells h)) := ((Blk.new w _ _).alloc _).alloc _
  have HV : Hid (Blk (((w.alloc (.cells (d.cells h) 39)).alloc (.cells (e.cells A n c) 45)).alloc (.cells docZero 39)) (w.heap.size + 1) 45 (e.cells A n c)) := (Blk.new' (by simp)).alloc _
  have HZ : Hid (Blk (((w.alloc (.cells (d.cells h) 39)).alloc (.cells (e.cells A n c) 45)).alloc (.cells docZero 39)) (w.heap.size + 2) 39 docZero) := Blk.new' (by simp)
  have HCk := Lib.hid (fun w' (hx : Ext w w') => DCheck_any d h w' (hE.ext hx) (hat.ext hx) hf hrn hn (by omega))
  have HFd := Lib.hid (fun w' (hx : Ext w w') => DFind_any d h e.id w' (hat.evs.ext hx) (by omega))
  have HEc := Lib.hid (fun w' (hx : Ext w w') => ECheck_any e A n c h.ra h.rn h.rc d.regs w' (hE.ext hx) (he.ext hx) hes (hat.regs.ext hx) hrn hf.regs)
  have HCl := Lib.hid (fun w' (hx : Ext w w') => DClone_any d h w' (hat.ext hx) hr (by omega) (by omega))
  have HPe := Lib.hid (fun w' (hx : Ext w w') => EPlain_any e A n c w' (he.ext hx) hby)
  have HEln := Lib.hid hat.evs.len
  have HCln := Lib.hid hat.coms.len
  have HEv := Lib.hid hat.evs
  have HEa := Lib.hid he
  have HFx := Lib.hid hf.evs
  have hse : (⟨e.text.toArray⟩ : ByteArray).size ≤ 35184372088831 := text_size e hby he.2.2 he.len
  have END : ∀ (w9 : World) (er : Int), Ext w w9 → Blk w9 (w.heap.size + 2) 39 docZero → d.putX e = (Doc.zero, er) → ∀ (tmps : Array Value), tmps.getD 4 undef = .pointer (some ⟨w.heap.size + 2, 0, none⟩) → tmps.getD 5 undef = .int .i64 er →
      (results Tryd.f16 tmps).run Tryd.prog (putB w9 (w.heap.size + 2) 39 docZero) = .ok (.tuple #[.agg docZero, .int .i64 er]) (putB w9 (w.heap.size + 2) 39 docZero) ∧
        DEPost (d.putX e) w (.returned (.tuple #[.agg docZero, .int .i64 er])) (putB w9 (w.heap.size + 2) 39 docZero) := fun w9 er hx hz hq tmps h8 h9 => by
    refine ⟨?_, dePost_err hq (hx.put (by omega) _ _)⟩
    have := results_B_tmp (P := Tryd.prog) Tryd.results16 (tmps := tmps) (w := putB w9 (w.heap.size + 2) 39 docZero) (g := w.heap.size + 2) h8 (hz.put _) Tryd.underlying39 rfl size_docI
    rw [this, h9]
  have HEnd := Lib.hid END
  clear END hat hE hf hrn hr he hes hby
  obtain ⟨hra, nr, hrc, hea, hen, hec, hca, nc, hcc⟩ := h
  unfold DClPost at HCl
  unfold Doc.cells docZero at *
  unfold Ev.cells at HX HB HV HZ HEc HPe ⊢
  dsimp only at *
  go_enter Tryd.func16, Tryd.ntmps16
  go_wp2_with (refine wpList_loadB rfl 39 (.tmp 2) rfl (w.heap.size) 39 _ _ (by exact rfl) (by exact HB.out) Tryd.underlying39 rfl (by exact size_docI) ?_)
  refine (HCk.out _ HX.out).mono ?_
  rintro en w0 ⟨rfl, hx0⟩
  have HX0 := Lib.hid (HX.out.trans hx0)
  have HB0 := Lib.hid (HB.out.ext hx0)
  have HZ0 := Lib.hid (HZ.out.ext hx0)
  have HV0 := Lib.hid (HV.out.ext hx0)
  clear hx0 HX HB HZ HV HCk
  by_cases h0 : d.err = 0
  case neg =>
    have hne2 : (d.err != 0) = true := by simpa using h0
    have HR1 : Hid (d.putX e = (Doc.zero, d.err)) := put_1 h0
    clear h0
    go_wp2_with (refine wpList_storeB rfl 39 (.tmp 4) _ rfl (w.heap.size + 2) 39 _ _ (by exact rfl) (by exact rfl) (by exact HZ0.out) (by exact rfl) (by exact size_docI) (by simp [Value.oneCell']) ?_)
    exact (fun q => bodyPost_ret q.1 rfl q.2) (HEnd.out _ _ HX0.out HZ0.out HR1.out _ (by exact rfl) (by exact rfl))
  have HC := Lib.hid h0
  rw [h0]
  clear h0
  have hce := fun o => HV0.out.cell o
  go_wp2_with (refine wpList_loadB rfl 39 (.tmp 2) rfl (w.heap.size) 39 _ _ (by exact rfl) (by exact HB0.out) Tryd.underlying39 rfl (by exact size_docI) ?_)
  clear hce
  refine (HFd.out _ HX0.out).mono ?_
  rintro en w1 ⟨rfl, hx1⟩
  have HX1 := Lib.hid (HX0.out.trans hx1)
  have HB1 := Lib.hid (HB0.out.ext hx1)
  have HZ1 := Lib.hid (HZ0.out.ext hx1)
  have HV1 := Lib.hid (HV0.out.ext hx1)
  clear hx1 HX0 HB0 HZ0 HV0 HFd
  cases hfc : findE d.evs e.id with
  | none =>
    have hfi : findI d.evs e.id = -1 := by unfold findI; rw [hfc]
    have HR1 : Hid (d.putX e = (Doc.zero, 6)) := put_2 HC.out hfc
    rw [hfi]
    clear hfc hfi
    go_wp2_with (refine wpList_storeB rfl 39 (.tmp 4) _ rfl (w.heap.size + 2) 39 _ _ (by exact rfl) (by exact rfl) (by exact HZ1.out) (by exact rfl) (by exact size_docI) (by simp [Value.oneCell']) ?_)
    exact (fun q => bodyPost_ret q.1 rfl q.2) (HEnd.out _ _ HX1.out HZ1.out HR1.out _ (by exact rfl) (by exact rfl))
  | some k =>
  have hfi : findI d.evs e.id = (k : Int) := by unfold findI; rw [hfc]
  have hkl : k < hen := by have h1 := findE_lt hfc; have h2 := HEln.out; omega
  have HF := Lib.hid hfc
  rw [hfi]
  clear hfc hfi
  have hcd := fun o => HB1.out.cell o
  go_wp2_with (refine wpList_loadB rfl 45 (.tmp 3) rfl (w.heap.size + 1) 45 _ _ (by exact rfl) (by exact HV1.out) Tryd.underlying45 rfl (by exact size_event) ?_)
  clear hcd
  refine (HEc.out _ HX1.out).mono ?_
  rintro en w2 ⟨rfl, hx2⟩
  have HX2 := Lib.hid (HX1.out.trans hx2)
  have HB2 := Lib.hid (HB1.out.ext hx2)
  have HZ2 := Lib.hid (HZ1.out.ext hx2)
  have HV2 := Lib.hid (HV1.out.ext hx2)
  clear hx2 HX1 HB1 HZ1 HV1 HEc
  by_cases hee : e.err d.regs = 0
  case neg =>
    have hne2 : (e.err d.regs != 0) = true := by simpa using hee
    have HR1 : Hid (d.putX e = (Doc.zero, e.err d.regs)) := put_3 HC.out HF.out hee
    clear hee
    go_wp2_with (refine wpList_storeB rfl 39 (.tmp 4) _ rfl (w.heap.size + 2) 39 _ _ (by exact rfl) (by exact rfl) (by exact HZ2.out) (by exact rfl) (by exact size_docI) (by simp [Value.oneCell']) ?_)
    exact (fun q => bodyPost_ret q.1 rfl q.2) (HEnd.out _ _ HX2.out HZ2.out HR1.out _ (by exact rfl) (by exact rfl))
  have HEe := Lib.hid hee
  rw [hee]
  clear hee
  obtain ⟨x, hxk⟩ : ∃ x, d.evs[k]? = some x := ⟨_, List.getElem?_eq_getElem (by have := HEln.out; omega)⟩
  have HXk := Lib.hid hxk
  have HXs := Lib.hid (HFx.out x (List.mem_of_getElem? hxk))
  have HR1 : Hid (d.putX e = (d.putD e x k, 0)) := put_4 HC.out HF.out HEe.out hxk
  clear hxk HFx
  go_wp2_with (refine wpList_loadB rfl 39 (.tmp 2) rfl (w.heap.size) 39 _ _ (by exact rfl) (by exact HB2.out) Tryd.underlying39 rfl (by exact size_docI) ?_)
  refine (HCl.out _ HX2.out).mono ?_
  rintro en w5 ⟨⟨ra, rn, rc, ea, en5, ec, ca, cn, cc⟩, rfl, ho5, hx5⟩
  dsimp only
  have hsz := HX2.out.size
  have hszz := HZ2.out.lt
  have hen7 : en5 = hen := by have h1 := ho5.evs.len; have h2 := HEln.out; dsimp only at h1; omega
  subst hen7
  have hcn7 : cn = nc := by have h1 := ho5.clen; have h2 := HCln.out; dsimp only at h1; omega
  subst hcn7
  have hcl : d.coms.length = cn := HCln.out
  obtain ⟨g, hea5, hLg⟩ := ho5.ev_at hkl
  dsimp only at hea5
  subst hea5
  have HX5 := Lib.hid (HX2.out.trans hx5)
  have HB5 := Lib.hid (HB2.out.ext hx5)
  have HZ5 := Lib.hid (HZ2.out.ext hx5)
  have HV5 := Lib.hid (HV2.out.ext hx5)
  have HO6 := Lib.hid (DocOwn.put ho5 HB5.out #[.string d.title, .string d.lang, .int .u8 d.rate, .bool d.drop, .int .i64 d.last, .slice ra rn rc, .slice (some ⟨g, 0, none⟩) en5 ec, .slice ca cn cc])
  have HP6 := Lib.hid (HB5.out.put #[.string d.title, .string d.lang, .int .u8 d.rate, .bool d.drop, .int .i64 d.last, .slice ra rn rc, .slice (some ⟨g, 0, none⟩) en5 ec, .slice ca cn cc])
  have HZ6 := Lib.hid (HZ5.out.put_other (g' := w.heap.size) (t' := 39) (by omega) #[.string d.title, .string d.lang, .int .u8 d.rate, .bool d.drop, .int .i64 d.last, .slice ra rn rc, .slice (some ⟨g, 0, none⟩) en5 ec, .slice ca cn cc])
  have HV6 := Lib.hid (HV5.out.put_other (g' := w.heap.size) (t' := 39) (by omega) #[.string d.title, .string d.lang, .int .u8 d.rate, .bool d.drop, .int .i64 d.last, .slice ra rn rc, .slice (some ⟨g, 0, none⟩) en5 ec, .slice ca cn cc])
  have HX6 := Lib.hid (HX5.out.put (g := w.heap.size) (Nat.le_refl _) 39 #[.string d.title, .string d.lang, .int .u8 d.rate, .bool d.drop, .int .i64 d.last, .slice ra rn rc, .slice (some ⟨g, 0, none⟩) en5 ec, .slice ca cn cc])
  have hx5s := hx5.size
  clear ho5 hx5 HX5 HZ5 HV5
  go_upto_region 11 with (refine wpList_storeB rfl 39 (.tmp 2) _ rfl (w.heap.size) 39 _ _ (by exact rfl) (by exact rfl) (by exact HB5.out) (by exact rfl) (by exact size_docI) (by simp [Value.oneCell']) ?_)
  obtain ⟨W, hW⟩ : ∃ W, W = putB w5 w.heap.size 39 #[.string d.title, .string d.lang, .int .u8 d.rate, .bool d.drop, .int .i64 d.last, .slice ra rn rc, .slice (some ⟨g, 0, none⟩) en5 ec, .slice ca cn cc] := ⟨_, rfl⟩
  rw [← hW] at HO6 HP6 HZ6 HV6 HX6 ⊢
  have hWs : w2.heap.size ≤ W.heap.size := by rw [hW, putB_size]; exact hx5s
  clear hW HB5 hx5s HX2 HB2 HZ2 HV2 HCl
  have hcp := fun o => HP6.out.cell o
  have hsg : True := trivial
  go_wp2_with fail
  clear hcp
  go_loopw [37] (fun i wr => PtLoop (Com.onto e.id x.chars e.chars) d w ⟨ra, rn, rc, some ⟨g, 0, none⟩, en5, ec, ca, cn, cc⟩ w2.heap.size (w.heap.size) #[.string d.title, .string d.lang, .int .u8 d.rate, .bool d.drop, .int .i64 d.last, .slice ra rn rc, .slice (some ⟨g, 0, none⟩) en5 ec, .slice ca cn cc] #[.int .i64 e.id, .int .i64 e.inn, .int .i64 e.out, .string e.region, .int .u8 e.kind, .string e.speaker, .slice A n c] i wr) (fun i _ => cn - (intOf i).toNat)
  case atStart => exact ⟨0, Nat.zero_le _, rfl, HX6.out, HP6.out, HV6.out, HZ6.out, HO6.out, hWs⟩
  case round =>
    obtain ⟨ki, hi, rfl, hx8, hp8, hv8, hz8, ho8, hls⟩ := hrel
    dsimp only at hi
    have HX8 := Lib.hid hx8
    have HP8 := Lib.hid hp8
    have HV8 := Lib.hid hv8
    have HZ8 := Lib.hid hz8
    have HO8 := Lib.hid ho8
    clear hx8 hp8 hv8 hz8 ho8 HX6 HP6 HV6 HZ6 HO6
    by_cases hlt : ki < cn
    · obtain ⟨gc, hgc, hLc⟩ := HO8.out.com_at hlt
      dsimp only at hgc
      have hgcs := hgc
      subst hgc
      obtain ⟨cm, hc0⟩ : ∃ cm, d.coms[ki]? = some cm := ⟨_, List.getElem?_eq_getElem (by omega)⟩
      have hus := upd_step (Com.onto e.id x.chars e.chars) d.coms ki cm hc0
      have HNx := Lib.hid (upd_next (Com.onto e.id x.chars e.chars) d.coms ki cm hc0)
      have HUs := Lib.hid hus.2
      have HU1 := Lib.hid hus.1
      have HC0 := Lib.hid hc0
      have e0 : wr.cell? ⟨gc, ki * 8, none⟩ = some (.int .i64 cm.id) := (HO8.out.com_cell (j := 0) hgcs hus.1 rfl).1
      obtain ⟨e1, -⟩ := HO8.out.com_cell (j := 1) hgcs hus.1 rfl
      obtain ⟨e2, -⟩ := HO8.out.com_cell (j := 2) hgcs hus.1 rfl
      obtain ⟨e3, -⟩ := HO8.out.com_cell (j := 3) hgcs hus.1 rfl
      obtain ⟨e4, -⟩ := HO8.out.com_cell (j := 4) hgcs hus.1 rfl
      obtain ⟨e5, -⟩ := HO8.out.com_cell (j := 5) hgcs hus.1 rfl
      obtain ⟨e6, -⟩ := HO8.out.com_cell (j := 6) hgcs hus.1 rfl
      obtain ⟨e7, -⟩ := HO8.out.com_cell (j := 7) hgcs hus.1 rfl
      have HBc := Lib.hid (Blk.new wr 31 #[.int .i64 cm.id, .int .i64 cm.ev, .int .i64 cm.fr, .int .i64 cm.til, .string cm.author, .string cm.text, .bool cm.done, .bool cm.lost])
      have hxa := (Ext.refl wr).alloc (.cells #[.int .i64 cm.id, .int .i64 cm.ev, .int .i64 cm.fr, .int .i64 cm.til, .string cm.author, .string cm.text, .bool cm.done, .bool cm.lost] 31)
      have HX9 := Lib.hid (HX8.out.trans hxa)
      have HP9 := Lib.hid (HP8.out.ext hxa)
      have HV9 := Lib.hid (HV8.out.ext hxa)
      have HZ9 := Lib.hid (HZ8.out.ext hxa)
      have HO9 := Lib.hid (HO8.out.ext hxa)
      have hls9 := Nat.le_trans hls hxa.size
      have hce := fun o => HV9.out.cell o
      clear hus hc0 hgcs hxa
      by_cases hev : cm.ev = e.id
      case neg =>
        have heb : (cm.ev == e.id) = false := by simpa using hev
        have HMv : Hid (Com.onto e.id x.chars e.chars cm = cm) := by show _ = _; unfold Com.onto; rw [if_neg hev]
        clear hev
        go_wp2_with fail
        clear hce e0 e1 e2 e3 e4 e5 e6 e7
        refine ⟨⟨ki + 1, by dsimp only; omega, by go_num, HX9.out, HP9.out, HV9.out, HZ9.out, ?_, hls9⟩, by simp [intOf]; omega⟩
        rw [HNx.out, HMv.out, ← drop_at d.coms ki cm HC0.out]
        exact HO9.out
      have heb : (cm.ev == e.id) = true := by simpa using hev
      obtain ⟨cx, hcx⟩ : ∃ cx, cx = cm.fol x.chars e.chars := ⟨_, rfl⟩
      have HMv : Hid (Com.onto e.id x.chars e.chars cm = cx) := by show _ = _; unfold Com.onto; rw [if_pos hev, hcx]
      obtain ⟨A1, n1, c1, hgd, hty, hxc⟩ := HO9.out.ev_row (k := k) rfl HXk.out
      have hsx : (⟨x.text.toArray⟩ : ByteArray).size ≤ 35184372088831 := text_size x HXs.out.2 hgd.at_.2.2 hgd.at_.len
      have HFo : Hid (∀ w', Calls Tryd.prog 11 #[.agg #[.int .i64 cm.id, .int .i64 cm.ev, .int .i64 cm.fr, .int .i64 cm.til, .string cm.author, .string cm.text, .bool cm.done, .bool cm.lost], .string ⟨x.text.toArray⟩, .string ⟨e.text.toArray⟩] w' fun en w'' => en = .returned (.agg cx.vals.toArray) ∧ Ext w' w'') := fun w' => by rw [hcx]; exact DFollow_any cm ⟨x.text.toArray⟩ ⟨e.text.toArray⟩ w' hsx hse
      have HXc := Lib.hid hxc
      have HGd := Lib.hid hgd
      clear hev hcx hgd hty hsx hxc
      go_upto_region 15 with fail
      clear hce e0 e1 e2 e3 e4 e5 e6 e7
      obtain ⟨W9, hW9⟩ : ∃ W9, W9 = wr.alloc (.cells #[.int .i64 cm.id, .int .i64 cm.ev, .int .i64 cm.fr, .int .i64 cm.til, .string cm.author, .string cm.text, .bool cm.done, .bool cm.lost] 31) := ⟨_, rfl⟩
      rw [← hW9] at HBc HX9 HP9 HV9 HZ9 HO9 HXc HGd hls9 ⊢
      clear hW9 HX8 HP8 HV8 HZ8 HO8
      have HPx := Lib.hid (fun w' (hx : Ext W9 w') => EPlain_any x A1 n1 c1 w' (HGd.out.at_.ext hx) HXs.out.2)
      have HPe9 := Lib.hid (fun w' (hx : Ext W9 w') => HPe.out w' (HX9.out.trans hx))
      have HTh := Lib.hid (fun w' (hx : Ext W9 w') => ((HO9.out.ext hx).com_sets (c' := cx) rfl HU1.out).2.1)
      unfold Ev.cells at HPx
      refine wp_region_links [some 47, some 48, some 49, some 50, some 51, some 52, some 53, some 54, some 55, some 56, some 57, some 58, some 59, some 60, none] [[], [0], [], [], [], [4], [], [5, 6], [7], [8], [], [10, 9], [3, 9, 11, 11], [1, 2, 0, 1, 2, 3, 4, 5, 6, 7, 8, 9, 10, 11, 12], [13, 12, 12, 0, 1, 2, 3, 4, 5, 6, 7, 8, 9, 10, 11, 12]] [9, 11, 12, 14] [.pointer (some ⟨w.heap.size, 7, none⟩), .slice (some ⟨gc, 0, none⟩) cn cc, .int .i64 (ki : Int), .agg #[.int .i64 cm.id, .int .i64 cm.ev, .int .i64 cm.fr, .int .i64 cm.til, .string cm.author, .string cm.text, .bool cm.done, .bool cm.lost], .pointer (some ⟨w.heap.size, 6, none⟩), .slice (some ⟨g, 0, none⟩) en5 ec, .int .i64 (k : Int), .pointer (some ⟨g, k * 7, none⟩), .agg #[.int .i64 x.id, .int .i64 x.inn, .int .i64 x.out, .string x.region, .int .u8 x.kind, .string x.speaker, .slice A1 n1 c1], undef, .agg #[.int .i64 e.id, .int .i64 e.inn, .int .i64 e.out, .string e.region, .int .u8 e.kind, .string e.speaker, .slice A n c], undef, undef, .pointer (some ⟨gc, ki * 8, none⟩), undef] (PutJ [.string ⟨x.text.toArray⟩, .string ⟨e.text.toArray⟩, .agg cx.vals.toArray] gc (ki * 8) cx.vals W9) (by kernel_rfl) (by kernel_rfl) (by kernel_rfl) (by kernel_rfl) (by kernel_rfl) (by kernel_rfl) (by kernel_rfl) (by decide) ?_ ?_ ?_ ?_
      · exact PutJ.start W9
      · intro i o ho hc a w' us K' hJ hF hlim hk
        match i, ho with
        | 0, ho =>
          simp only [List.getElem?_toArray, List.getElem?_cons_zero, List.getElem?_cons_succ, Option.some.injEq] at ho
          subst ho
          have e2 := hF.old 2 (.pointer (some ⟨w.heap.size, 0, none⟩)) rfl rfl
          simp only [Act.eval] at e2
          clear hF hlim hJ
          go_simp
          exact hk
        | 1, ho =>
          simp only [List.getElem?_toArray, List.getElem?_cons_zero, List.getElem?_cons_succ, Option.some.injEq] at ho
          subst ho
          have e47 := hF.pure 0 47 (.pointer (some ⟨w.heap.size, 7, none⟩)) rfl rfl rfl rfl
          have hcl2 := (HP9.out.ext (hJ.ext (by have := hlim 3 14 rfl rfl; simp only [List.length_cons, List.length_nil]; omega))).cell 7
          simp only [Act.eval] at e47
          clear hF hlim hJ
          go_simp
          exact hk
        | 2, ho =>
          simp only [List.getElem?_toArray, List.getElem?_cons_zero, List.getElem?_cons_succ, Option.some.injEq] at ho
          subst ho
          have e9 := hF.old 9 (.int .i64 (ki : Int)) rfl rfl
          simp only [Act.eval] at e9
          clear hF hlim hJ
          go_simp
          exact hk
        | 3, ho =>
          simp only [List.getElem?_toArray, List.getElem?_cons_zero, List.getElem?_cons_succ, Option.some.injEq] at ho
          subst ho
          have e10 := hF.old 10 (.pointer (some ⟨wr.heap.size, 0, none⟩)) rfl rfl
          exact wp_loadBk 31 (.tmp 10) rfl _ 31 _ _ e10 (HBc.out.ext (hJ.ext (by have := hlim 3 14 rfl rfl; simp only [List.length_cons, List.length_nil]; omega))) Tryd.underlying31 rfl (by exact size_comI) hk
        | 4, ho =>
          simp only [List.getElem?_toArray, List.getElem?_cons_zero, List.getElem?_cons_succ, Option.some.injEq] at ho
          subst ho
          have e2 := hF.old 2 (.pointer (some ⟨w.heap.size, 0, none⟩)) rfl rfl
          simp only [Act.eval] at e2
          clear hF hlim hJ
          go_simp
          exact hk
        | 5, ho =>
          simp only [List.getElem?_toArray, List.getElem?_cons_zero, List.getElem?_cons_succ, Option.some.injEq] at ho
          subst ho
          have e51 := hF.pure 4 51 (.pointer (some ⟨w.heap.size, 6, none⟩)) rfl rfl rfl rfl
          have hcl2 := (HP9.out.ext (hJ.ext (by have := hlim 3 14 rfl rfl; simp only [List.length_cons, List.length_nil]; omega))).cell 6
          simp only [Act.eval] at e51
          clear hF hlim hJ
          go_simp
          exact hk
        | 6, ho =>
          simp only [List.getElem?_toArray, List.getElem?_cons_zero, List.getElem?_cons_succ, Option.some.injEq] at ho
          subst ho
          have e7 := hF.old 7 (.int .i64 (k : Int)) rfl rfl
          simp only [Act.eval] at e7
          clear hF hlim hJ
          go_simp
          exact hk
        | 7, ho =>
          simp only [List.getElem?_toArray, List.getElem?_cons_zero, List.getElem?_cons_succ, Option.some.injEq] at ho
          subst ho
          have e52 := hF.pure 5 52 (.slice (some ⟨g, 0, none⟩) en5 ec) rfl rfl rfl rfl
          have e53 := hF.pure 6 53 (.int .i64 (k : Int)) rfl rfl rfl rfl
          exact wp_ix_ev rfl e52 e53 hkl (by rw [Nat.zero_add]; exact hk)
        | 8, ho =>
          simp only [List.getElem?_toArray, List.getElem?_cons_zero, List.getElem?_cons_succ, Option.some.injEq] at ho
          subst ho
          have e54 := hF.pure 7 54 (.pointer (some ⟨g, k * 7, none⟩)) rfl rfl rfl rfl
          exact wp_load_mid 45 (.tmp 54) rfl g (k * 7) e54 (x.cells A1 n1 c1).toList _ (fun j v hv => (hJ.ext (by have := hlim 3 14 rfl rfl; simp only [List.length_cons, List.length_nil]; omega)).cell (HXc.out j v hv)) Tryd.underlying45 rfl size_event hk
        | 9, ho => simp at hc
        | 10, ho =>
          simp only [List.getElem?_toArray, List.getElem?_cons_zero, List.getElem?_cons_succ, Option.some.injEq] at ho
          subst ho
          have e3 := hF.old 3 (.pointer (some ⟨w.heap.size + 1, 0, none⟩)) rfl rfl
          exact wp_loadBk 45 (.tmp 3) rfl _ 45 _ _ e3 (HV9.out.ext (hJ.ext (by have := hlim 3 14 rfl rfl; simp only [List.length_cons, List.length_nil]; omega))) Tryd.underlying45 rfl (by exact size_event) hk
        | 11, ho => simp at hc
        | 12, ho => simp at hc
        | 13, ho =>
          simp only [List.getElem?_toArray, List.getElem?_cons_zero, List.getElem?_cons_succ, Option.some.injEq] at ho
          subst ho
          have e48 := hF.pure 1 48 (.slice (some ⟨gc, 0, none⟩) cn cc) rfl rfl rfl rfl
          have e49 := hF.pure 2 49 (.int .i64 (ki : Int)) rfl rfl rfl rfl
          simp only [Act.eval] at e48 e49
          clear hF hlim hJ
          go_simp
          exact hk
        | 14, ho => simp at hc
        | i + 15, ho => simp at ho
      · intro p c' o hp ho a w' us K' hl hJ hF hk
        match p, hp with
        | 0, hp =>
          obtain rfl : 9 = c' := by simpa using hp
          simp only [List.getElem?_toArray, List.getElem?_cons_zero, List.getElem?_cons_succ, Option.some.injEq] at ho
          subst ho
          obtain rfl : us = [] := List.eq_nil_of_length_eq_zero hl
          have e55 := hF.pure 8 55 (.agg #[.int .i64 x.id, .int .i64 x.inn, .int .i64 x.out, .string x.region, .int .u8 x.kind, .string x.speaker, .slice A1 n1 c1]) rfl rfl rfl rfl
          refine wp_call1 rfl e55 Tryd.call26 (HPx.out w' (hJ.ext (by simp))) ?_
          rintro en w8 ⟨rfl, hx8⟩
          exact ⟨_, rfl, hk _ _ (hJ.call rfl hx8)⟩
        | 1, hp =>
          obtain rfl : 11 = c' := by simpa using hp
          simp only [List.getElem?_toArray, List.getElem?_cons_zero, List.getElem?_cons_succ, Option.some.injEq] at ho
          subst ho
          obtain ⟨u0, rfl⟩ := list_1 hl
          have e57 := hF.pure 10 57 (.agg #[.int .i64 e.id, .int .i64 e.inn, .int .i64 e.out, .string e.region, .int .u8 e.kind, .string e.speaker, .slice A n c]) rfl rfl rfl rfl
          refine wp_call1 rfl e57 Tryd.call26 (HPe9.out w' (hJ.ext (by simp))) ?_
          rintro en w8 ⟨rfl, hx8⟩
          exact ⟨_, rfl, hk _ _ (hJ.call rfl hx8)⟩
        | 2, hp =>
          obtain rfl : 12 = c' := by simpa using hp
          simp only [List.getElem?_toArray, List.getElem?_cons_zero, List.getElem?_cons_succ, Option.some.injEq] at ho
          subst ho
          obtain ⟨u0, u1, rfl⟩ := list_2 hl
          have hv := hJ.val (by simp)
          simp at hv
          obtain ⟨rfl, rfl⟩ := hv
          have e50 := hF.pure 3 50 (.agg #[.int .i64 cm.id, .int .i64 cm.ev, .int .i64 cm.fr, .int .i64 cm.til, .string cm.author, .string cm.text, .bool cm.done, .bool cm.lost]) rfl rfl rfl rfl
          have e56 := hF.link 0 9 56 _ rfl rfl rfl rfl
          have e58 := hF.link 1 11 58 _ rfl rfl rfl rfl
          exact wp_call3v rfl e50 e56 e58 Tryd.call11 (HFo.out w') (fun w8 hx8 => hk _ _ (hJ.call rfl hx8))
        | 3, hp =>
          obtain rfl : 14 = c' := by simpa using hp
          simp only [List.getElem?_toArray, List.getElem?_cons_zero, List.getElem?_cons_succ, Option.some.injEq] at ho
          subst ho
          obtain ⟨u0, u1, u2, rfl⟩ := list_3 hl
          have hv := hJ.val (by simp)
          simp at hv
          obtain ⟨rfl, rfl, rfl⟩ := hv
          have e60 := hF.pure 13 60 (.pointer (some ⟨gc, ki * 8, none⟩)) rfl rfl rfl rfl
          have e59 := hF.link 2 12 59 _ rfl rfl rfl rfl
          exact wp_store_mid 31 (.tmp 60) (.tmp 59) rfl gc (ki * 8) cx.vals.toArray e60 e59 (HTh.out w' (hJ.ext (by simp))) (by exact size_comI) (all_oneCell_toArray (com_ones cx)) (hk undef _ (hJ.sto rfl))
        | p + 4, hp => simp at hp
      intro us w9 hl hJ
      obtain ⟨u0, u1, u2, u3, rfl⟩ := list_4 hl
      first | (rename_i hK; refine hK _ _ ?_; clear hK) | (rename_i hK hK_1; refine hK _ _ ?_; clear hK) | (rename_i hK hK_1 hK_2; refine hK _ _ ?_; clear hK) | (rename_i hK hK_1 hK_2 hK_3; refine hK _ _ ?_; clear hK)
      generalize hL : frameL _ _ _ _ = L
      obtain rfl : L = [(47, .pointer (some ⟨w.heap.size, 7, none⟩)), (48, .slice (some ⟨gc, 0, none⟩) cn cc), (49, .int .i64 (ki : Int)), (50, .agg #[.int .i64 cm.id, .int .i64 cm.ev, .int .i64 cm.fr, .int .i64 cm.til, .string cm.author, .string cm.text, .bool cm.done, .bool cm.lost]), (51, .pointer (some ⟨w.heap.size, 6, none⟩)), (52, .slice (some ⟨g, 0, none⟩) en5 ec), (53, .int .i64 (k : Int)), (54, .pointer (some ⟨g, k * 7, none⟩)), (55, .agg #[.int .i64 x.id, .int .i64 x.inn, .int .i64 x.out, .string x.region, .int .u8 x.kind, .string x.speaker, .slice A1 n1 c1]), (56, u0), (57, .agg #[.int .i64 e.id, .int .i64 e.inn, .int .i64 e.out, .string e.region, .int .u8 e.kind, .string e.speaker, .slice A n c]), (58, u1), (59, u2), (60, .pointer (some ⟨gc, ki * 8, none⟩))] := hL.symm.trans (by kernel_rfl)
      clear hL hl
      simp only [Act.put, List.foldl_cons, List.foldl_nil, List.setIfInBounds_toArray, List.set_cons_zero, List.set_cons_succ]
      obtain ⟨w5', hx5, rfl⟩ := hJ.all rfl
      clear hJ
      go_wp2_with fail
      have hq := (HO9.out.ext hx5).com_sets (c' := cx) rfl HU1.out
      refine ⟨⟨ki + 1, by dsimp only; omega, by go_num, ext_sets (by omega) _ _ _ (HX9.out.trans hx5), hq.2.2.1 _ _ (by decide) (HP9.out.ext hx5), hq.2.2.1 _ _ (by decide) (HV9.out.ext hx5), hq.2.2.1 _ _ (by decide) (HZ9.out.ext hx5), ?_, Nat.le_trans (Nat.le_trans hls9 hx5.size) hq.2.2.2⟩, by simp [intOf]; omega⟩
      rw [HNx.out, HMv.out, ← HUs.out]
      exact hq.1
    · have hin : ki = cn := by omega
      have HO9 : Hid (DocOwn wr w2.heap.size (d.withComs (d.coms.map (Com.onto e.id x.chars e.chars))) ⟨ra, rn, rc, some ⟨g, 0, none⟩, en5, ec, ca, cn, cc⟩) := by
        have h9 := HO8.out
        rw [List.take_of_length_le (by omega), List.drop_eq_nil_of_le (by omega), List.append_nil] at h9
        exact h9
      clear HO8
      have hlt2 : ¬ (ki : Int) < (cn : Int) := by omega
      have hcp := fun o => HP8.out.cell o
      have hce := fun o => HV8.out.cell o
      have HX10 : Hid (Ext w (wr.setCells g (k * 7) (e.cells A n c).toList)) := ext_sets (by omega) _ _ _ HX8.out
      have hq := HO9.out.ev_put (k := k) (x := x) rfl HXk.out (HEa.out.ext HX10.out)
      have HTh := Lib.hid hq.2.1
      have HEs := Lib.hid hq.1
      have HP10 : Hid (Blk (wr.setCells g (k * 7) (e.cells A n c).toList) (w.heap.size) 39 #[.string d.title, .string d.lang, .int .u8 d.rate, .bool d.drop, .int .i64 d.last, .slice ra rn rc, .slice (some ⟨g, 0, none⟩) en5 ec, .slice ca cn cc]) := hq.2.2 (T := 39) (by decide) _ _ HP8.out
      have HZ10 : Hid (Blk (wr.setCells g (k * 7) (e.cells A n c).toList) (w.heap.size + 2) 39 docZero) := hq.2.2 (T := 39) (by decide) _ _ HZ8.out
      have HRg10 := Lib.hid (own_kb HO9.out.regs (hq.2.2 (by decide)))
      have HCm10 := Lib.hid (own_kb HO9.out.coms (hq.2.2 (by decide)))
      have HRl10 := Lib.hid HO9.out.rlen
      have HCl10 := Lib.hid HO9.out.clen
      have hls10 : w2.heap.size ≤ (wr.setCells g (k * 7) (e.cells A n c).toList).heap.size := by
        obtain ⟨hs, h1, -⟩ := HO9.out.evs
        exact Nat.le_trans hls (own_sets_size _ _ _ _ h1)
      clear hq
      unfold Ev.cells at HX10 HEs HP10 HZ10 HRg10 HCm10 hls10
      go_upto_region 18 with (first | (refine wpList_loadB rfl 45 (.tmp 3) rfl (w.heap.size + 1) 45 _ _ (by exact rfl) (by exact HV8.out) Tryd.underlying45 rfl (by exact size_event) ?_) | (refine wpList_store_mid rfl 45 (.tmp 66) (.tmp 65) rfl g (k * 7) (#[.int .i64 e.id, .int .i64 e.inn, .int .i64 e.out, .string e.region, .int .u8 e.kind, .string e.speaker, .slice A n c]) (by exact rfl) (by exact rfl) (by exact HTh.out) (by exact size_event) (by simp [Value.oneCell']) ?_; generalize hW8 : World.setCells _ _ _ _ = W8; have HW8 := Lib.hid hW8; clear hW8))
      rw [HW8.out] at HX10 HEs HP10 HZ10 HRg10 HCm10 hls10
      clear hcp hce HW8 HTh HX8 HP8 HV8 HZ8 HO9
      have hcp := fun o => HP10.out.cell o
      have hfp := fun o => HP10.out.frozen o
      go_wp2_with fail
      refine (DSort_any _ _ _ _ _ HEs.out (show en5 * 88 ≤ _ by omega)).mono ?_
      rintro en w7 ⟨v7, rfl, hev7, hx7⟩
      obtain ⟨A7, c7, hv7, -, -, -⟩ := hev7.at_
      subst hv7
      have HX7 := Lib.hid (HX10.out.trans hx7)
      have HP7 := Lib.hid (HP10.out.ext hx7)
      have HZ7 := Lib.hid (HZ10.out.ext hx7)
      have HO7 : Hid (DocOwn w7 w2.heap.size (d.putD e x k) ⟨ra, rn, rc, A7, en5, c7, ca, cn, cc⟩) := ⟨own_ext HRg10.out hx7, HRl10.out, hev7.le hls10, own_ext HCm10.out hx7, HCl10.out⟩
      clear hcp hfp hev7 hx7 HX10 HP10 HZ10 HRg10 HCm10 HEs
      have hs7 := setCell_put HP7.out 6 (.slice A7 en5 c7)
      have hc7 := HP7.out.cell 6
      have hf7 := HP7.out.frozen 6
      simp at hs7 hc7
      have HP9 := Lib.hid (HP7.out.put #[.string d.title, .string d.lang, .int .u8 d.rate, .bool d.drop, .int .i64 d.last, .slice ra rn rc, .slice A7 en5 c7, .slice ca cn cc])
      have HZ9 := Lib.hid (HZ7.out.put_other (g' := w.heap.size) (t' := 39) (by omega) #[.string d.title, .string d.lang, .int .u8 d.rate, .bool d.drop, .int .i64 d.last, .slice ra rn rc, .slice A7 en5 c7, .slice ca cn cc])
      have HX9 := Lib.hid (HX7.out.put (g := w.heap.size) (by omega) 39 #[.string d.title, .string d.lang, .int .u8 d.rate, .bool d.drop, .int .i64 d.last, .slice ra rn rc, .slice A7 en5 c7, .slice ca cn cc])
      have HO9 := Lib.hid (HO7.out.put HP7.out #[.string d.title, .string d.lang, .int .u8 d.rate, .bool d.drop, .int .i64 d.last, .slice ra rn rc, .slice A7 en5 c7, .slice ca cn cc])
      go_wp2_with (first | (refine wpList_loadB rfl 39 (.tmp 2) rfl (w.heap.size) 39 _ _ (by exact rfl) (by exact HP9.out) Tryd.underlying39 rfl (by exact size_docI) ?_) | (refine wpList_storeB rfl 39 (.tmp 4) _ rfl (w.heap.size + 2) 39 _ _ (by exact rfl) (by exact rfl) (by exact HZ9.out) (by exact rfl) (by exact size_docI) (by simp [Value.oneCell']) ?_))
      refine bodyPost_ret (v := .tuple #[.agg ((d.putX e).1.cells ⟨ra, rn, rc, A7, en5, c7, ca, cn, cc⟩), .int .i64 (d.putX e).2]) ?_ rfl ⟨⟨ra, rn, rc, A7, en5, c7, ca, cn, cc⟩, rfl, ?_, ?_⟩
      · rw [HR1.out]
        exact results_B_tmp (P := Tryd.prog) Tryd.results16 (g := w.heap.size + 2) rfl (by exact HZ9.out.put _) Tryd.underlying39 rfl size_docI
      · rw [HR1.out]
        exact (HO9.out.le hsz).put HZ9.out _
      · exact HX9.out.put (by omega) _ _
end Go.Proofs.YtagfedbdakmlgaaDoor
