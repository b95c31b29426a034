/- Laid together: The walk of the reference's Put. The walk of document.Head. Equality of runs and rows: slices.Equal, style.Same, slices.EqualFunc, style.SameRows; the reference's Same, SameRows. slices.Equal of regions. slices.Equal of comments. The walks of event.Same and of the reference's Same. -/
import Derived.Test.YtagfedbdakmlgaaGreatDoorIn22
import Derived.Test.YtagfedbdakmlgaaGreatDoorIn23
import Derived.Test.YtagfedbdakmlgaaGreatDoorIn17
import Derived.Test.YtagfedbdakmlgaaGreatDoorIn06
import Derived.Test.YtagfedbdakmlgaaGreatDoorIn02
import Derived.Test.YtagfedbdakmlgaaGreatDoorIn03

/-! PutR -/
namespace Go.Proofs.YtagfedbdakmlgaaGreatDoor
set_option linter.unusedVariables false
set_option linter.unusedSimpArgs false
open Go.RowKit
set_option maxRecDepth 100000 in
set_option maxHeartbeats 8000000 in
theorem R12Put_any (d : Doc) (h : DocH) (e : Ev) (A : Option Addr) (n c : Nat) (w : World) (hE : Env w) (hat : DocAt w d h) (hf : DocFit d) (hrn : h.rn ≤ 9223372036854775807) (hr : h.rn * 56 ≤ 140737488355328) (hn : h.en ≤ 1000000) (hcn : h.cn ≤ 1000000) (he : EvAt w e A n c) (hes : EvSmall e) (hby : e.bytes ≤ 1099511627776) :
    Calls Tryz.prog 52 #[.agg (d.cells h), .agg (e.cells A n c)] w (DEPost (d.putX e) w) := by
  have HX : Hid (Ext w (((w.alloc (.cells (d.cells h) 27)).alloc (.cells (e.cells A n c) 66)).alloc (.cells docZero 27))) := (((Ext.refl w).alloc _).alloc _).alloc _
  have HB : Hid (Blk (((w.alloc (.cells (d.cells h) 27)).alloc (.cells (e.cells A n c) 66)).alloc (.cells docZero 27)) w.heap.size 27 (d.cells h)) := ((Blk.new w _ _).alloc _).alloc _
  have HV : Hid (Blk (((w.alloc (.cells (d.cells h) 27)).alloc (.cells (e.cells A n c) 66)).alloc (.cells docZero 27)) (w.heap.size + 1) 66 (e.cells A n c)) := (Blk.new' (by simp)).alloc _
  have HZ : Hid (Blk (((w.alloc (.cells (d.cells h) 27)).alloc (.cells (e.cells A n c) 66)).alloc (.cells docZero 27)) (w.heap.size + 2) 27 docZero) := Blk.new' (by simp)
  have HCk := Lib.hid (fun w' (hx : Ext w w') => R12Check_any d h w' (hE.ext hx) (hat.ext hx) hf hrn hn (by omega))
  have HFd := Lib.hid (fun w' (hx : Ext w w') => R12Find_any d h e.id w' (hat.evs.ext hx) (by omega))
  have HEc := Lib.hid (fun w' (hx : Ext w w') => R11Check_any e A n c h.ra h.rn h.rc d.regs w' (hE.ext hx) (he.ext hx) hes hby (hat.regs.ext hx) hrn hf.regs)
  have HCl := Lib.hid (fun w' (hx : Ext w w') => R12Clone_any d h w' (hat.ext hx) hr (by omega) (by omega))
  have HPe := Lib.hid (fun w' (hx : Ext w w') => R11Plain_any e A n c w' (he.ext hx) hby (rows_len he.1))
  have HEln := Lib.hid hat.evs.len
  have HCln := Lib.hid hat.coms.len
  have HEv := Lib.hid hat.evs
  have HEa := Lib.hid he
  have HFx := Lib.hid hf.evs
  have hse : (⟨e.text.toArray⟩ : ByteArray).size ≤ 35184372088831 := text_size e hby he.2.2 he.len
  have END : ∀ (w9 : World) (er : Int), Ext w w9 → Blk w9 (w.heap.size + 2) 27 docZero → d.putX e = (Doc.zero, er) → ∀ (tmps : Array Value), tmps.getD 4 undef = .pointer (some ⟨w.heap.size + 2, 0, none⟩) → tmps.getD 5 undef = .int .i64 er →
      (results Tryz.f52 tmps).run Tryz.prog (putB w9 (w.heap.size + 2) 27 docZero) = .ok (.tuple #[.agg docZero, .int .i64 er]) (putB w9 (w.heap.size + 2) 27 docZero) ∧
        DEPost (d.putX e) w (.returned (.tuple #[.agg docZero, .int .i64 er])) (putB w9 (w.heap.size + 2) 27 docZero) := fun w9 er hx hz hq tmps h8 h9 => by
    refine ⟨?_, dePost_err hq (hx.put (by omega) _ _)⟩
    have := results_B_tmp (P := Tryz.prog) Tryz.results52 (tmps := tmps) (w := putB w9 (w.heap.size + 2) 27 docZero) (g := w.heap.size + 2) h8 (hz.put _) Tryz.underlying27 rfl size_docI
    rw [this, h9]
  have HEnd := Lib.hid END
  clear END hat hE hf hrn hr he hes hby
  obtain ⟨hra, nr, hrc, hea, hen, hec, hca, nc, hcc⟩ := h
  unfold DClPost at HCl
  unfold Doc.cells docZero at *
  unfold Ev.cells at HX HB HV HZ HEc HPe ⊢
  dsimp only at *
  go_enter Tryz.func52, Tryz.ntmps52
  go_wp2_with (refine wpList_loadB rfl 27 (.tmp 2) rfl (w.heap.size) 27 _ _ (by exact rfl) (by exact HB.out) Tryz.underlying27 rfl (by exact size_docI) ?_)
  refine (HCk.out _ HX.out).mono ?_
  rintro en w0 ⟨rfl, hx0⟩
  have HX0 := Lib.hid (HX.out.trans hx0)
  have HB0 := Lib.hid (HB.out.ext hx0)
  have HZ0 := Lib.hid (HZ.out.ext hx0)
  have HV0 := Lib.hid (HV.out.ext hx0)
  clear hx0 HX HB HZ HV HCk
  by_cases h0 : d.err = 0
  case neg =>
    have hne2 : (d.err != 0) = true := by simpa using h0
    have HR1 : Hid (d.putX e = (Doc.zero, d.err)) := put_1 h0
    clear h0
    go_wp2_with (refine wpList_storeB rfl 27 (.tmp 4) _ rfl (w.heap.size + 2) 27 _ _ (by exact rfl) (by exact rfl) (by exact HZ0.out) (by exact rfl) (by exact size_docI) (by simp [Value.oneCell']) ?_)
    exact (fun q => bodyPost_ret q.1 rfl q.2) (HEnd.out _ _ HX0.out HZ0.out HR1.out _ (by exact rfl) (by exact rfl))
  have HC := Lib.hid h0
  rw [h0]
  clear h0
  have hce := fun o => HV0.out.cell o
  go_wp2_with (refine wpList_loadB rfl 27 (.tmp 2) rfl (w.heap.size) 27 _ _ (by exact rfl) (by exact HB0.out) Tryz.underlying27 rfl (by exact size_docI) ?_)
  clear hce
  refine (HFd.out _ HX0.out).mono ?_
  rintro en w1 ⟨rfl, hx1⟩
  have HX1 := Lib.hid (HX0.out.trans hx1)
  have HB1 := Lib.hid (HB0.out.ext hx1)
  have HZ1 := Lib.hid (HZ0.out.ext hx1)
  have HV1 := Lib.hid (HV0.out.ext hx1)
  clear hx1 HX0 HB0 HZ0 HV0 HFd
  cases hfc : findE d.evs e.id with
  | none =>
    have hfi : findI d.evs e.id = -1 := by unfold findI; rw [hfc]
    have HR1 : Hid (d.putX e = (Doc.zero, 6)) := put_2 HC.out hfc
    rw [hfi]
    clear hfc hfi
    go_wp2_with (refine wpList_storeB rfl 27 (.tmp 4) _ rfl (w.heap.size + 2) 27 _ _ (by exact rfl) (by exact rfl) (by exact HZ1.out) (by exact rfl) (by exact size_docI) (by simp [Value.oneCell']) ?_)
    exact (fun q => bodyPost_ret q.1 rfl q.2) (HEnd.out _ _ HX1.out HZ1.out HR1.out _ (by exact rfl) (by exact rfl))
  | some k =>
  have hfi : findI d.evs e.id = (k : Int) := by unfold findI; rw [hfc]
  have hkl : k < hen := by have h1 := findE_lt hfc; have h2 := HEln.out; omega
  have HF := Lib.hid hfc
  rw [hfi]
  clear hfc hfi
  have hcd := fun o => HB1.out.cell o
  go_wp2_with (refine wpList_loadB rfl 66 (.tmp 3) rfl (w.heap.size + 1) 66 _ _ (by exact rfl) (by exact HV1.out) Tryz.underlying66 rfl (by exact size_event) ?_)
  clear hcd
  refine (HEc.out _ HX1.out).mono ?_
  rintro en w2 ⟨rfl, hx2⟩
  have HX2 := Lib.hid (HX1.out.trans hx2)
  have HB2 := Lib.hid (HB1.out.ext hx2)
  have HZ2 := Lib.hid (HZ1.out.ext hx2)
  have HV2 := Lib.hid (HV1.out.ext hx2)
  clear hx2 HX1 HB1 HZ1 HV1 HEc
  by_cases hee : e.err d.regs = 0
  case neg =>
    have hne2 : (e.err d.regs != 0) = true := by simpa using hee
    have HR1 : Hid (d.putX e = (Doc.zero, e.err d.regs)) := put_3 HC.out HF.out hee
    clear hee
    go_wp2_with (refine wpList_storeB rfl 27 (.tmp 4) _ rfl (w.heap.size + 2) 27 _ _ (by exact rfl) (by exact rfl) (by exact HZ2.out) (by exact rfl) (by exact size_docI) (by simp [Value.oneCell']) ?_)
    exact (fun q => bodyPost_ret q.1 rfl q.2) (HEnd.out _ _ HX2.out HZ2.out HR1.out _ (by exact rfl) (by exact rfl))
  have HEe := Lib.hid hee
  rw [hee]
  clear hee
  obtain ⟨x, hxk⟩ : ∃ x, d.evs[k]? = some x := ⟨_, List.getElem?_eq_getElem (by have := HEln.out; omega)⟩
  have HXk := Lib.hid hxk
  have HXs := Lib.hid (HFx.out x (List.mem_of_getElem? hxk))
  have HR1 : Hid (d.putX e = (d.putD e x k, 0)) := put_4 HC.out HF.out HEe.out hxk
  clear hxk HFx
  go_wp2_with (refine wpList_loadB rfl 27 (.tmp 2) rfl (w.heap.size) 27 _ _ (by exact rfl) (by exact HB2.out) Tryz.underlying27 rfl (by exact size_docI) ?_)
  refine (HCl.out _ HX2.out).mono ?_
  rintro en w5 ⟨⟨ra, rn, rc, ea, en5, ec, ca, cn, cc⟩, rfl, ho5, hx5⟩
  dsimp only
  have hsz := HX2.out.size
  have hszz := HZ2.out.lt
  have hen7 : en5 = hen := by have h1 := ho5.evs.len; have h2 := HEln.out; dsimp only at h1; omega
  subst hen7
  have hcn7 : cn = nc := by have h1 := ho5.clen; have h2 := HCln.out; dsimp only at h1; omega
  subst hcn7
  have hcl : d.coms.length = cn := HCln.out
  obtain ⟨g, hea5, hLg⟩ := ho5.ev_at hkl
  dsimp only at hea5
  subst hea5
  have hxa := (Ext.refl w5).alloc (.cells #[.string d.title, .string d.lang, .int .u8 d.rate, .bool d.drop, .int .i64 d.last, .slice ra rn rc, .slice (some ⟨g, 0, none⟩) en5 ec, .slice ca cn cc] 27)
  have HX5 := Lib.hid ((HX2.out.trans hx5).trans hxa)
  have HB5 := Lib.hid ((HB2.out.ext hx5).ext hxa)
  have HZ5 := Lib.hid ((HZ2.out.ext hx5).ext hxa)
  have HV5 := Lib.hid ((HV2.out.ext hx5).ext hxa)
  have HO5 := Lib.hid (ho5.ext hxa)
  have HP5 := Lib.hid (Blk.new w5 27 #[.string d.title, .string d.lang, .int .u8 d.rate, .bool d.drop, .int .i64 d.last, .slice ra rn rc, .slice (some ⟨g, 0, none⟩) en5 ec, .slice ca cn cc])
  have hG2 := hx5.size
  have hs5 : w2.heap.size ≤ (w5.alloc (.cells #[.string d.title, .string d.lang, .int .u8 d.rate, .bool d.drop, .int .i64 d.last, .slice ra rn rc, .slice (some ⟨g, 0, none⟩) en5 ec, .slice ca cn cc] 27)).heap.size := Nat.le_trans hx5.size hxa.size
  clear ho5 hx5 hxa
  go_upto_region 11 with fail
  obtain ⟨G9, hG9⟩ : ∃ G9, G9 = w5.heap.size := ⟨_, rfl⟩
  obtain ⟨V, hW⟩ : ∃ V, V = w5.alloc (.cells #[.string d.title, .string d.lang, .int .u8 d.rate, .bool d.drop, .int .i64 d.last, .slice ra rn rc, .slice (some ⟨g, 0, none⟩) en5 ec, .slice ca cn cc] 27) := ⟨_, rfl⟩
  rw [← hW] at HO5 HP5 HZ5 HV5 HB5 HX5 hs5 ⊢
  rw [← hG9] at HP5 hG2 ⊢
  clear hW hG9 HX2 HB2 HZ2 HV2 HCl
  obtain ⟨b0, off0, x', A0, n0, c0', hA0, hxx, hxat, e0, e1, e2, e3, e4, e5, e6⟩ := (HEv.out.ext HX5.out).at_ev hkl
  subst hA0
  obtain rfl : x' = x := by have := HXk.out; rw [hxx] at this; exact Option.some.inj this
  have HPx2 := Lib.hid (fun (y : EW V) => R11Plain_any x' A0 n0 c0' y.w (hxat.ext y.ext) HXs.out.2 (rows_len hxat.1))
  have HPe2 := Lib.hid (fun (y : EW V) => HPe.out y.w (HX5.out.trans y.ext))
  unfold Ev.cells at HPx2
  have fb := fun (y : EW V) o => (HB5.out.ext y.ext).cell o
  have fv := fun (y : EW V) o => (HV5.out.ext y.ext).cell o
  have k0 := fun (y : EW V) => y.ext.cell e0
  have k1 := fun (y : EW V) => y.ext.cell e1
  have k2 := fun (y : EW V) => y.ext.cell e2
  have k3 := fun (y : EW V) => y.ext.cell e3
  have k4 := fun (y : EW V) => y.ext.cell e4
  have k5 := fun (y : EW V) => y.ext.cell e5
  have k6 := fun (y : EW V) => y.ext.cell e6
  clear e0 e1 e2 e3 e4 e5 e6 hxx
  refine wp_region_ew V (Ext.refl _) (by kernel_rfl) (by kernel_rfl) ?_
  repeat (go_big_quiet_step ((first | (go_at_call 87; first | with_reducible exact EW.calls _ (HPx2.out _) | with_reducible exact EW.calls _ (HPe2.out _)))))
  refine wpQuiet_nil ?_
  rintro W ⟨⟨_, hx6⟩, rfl⟩
  try dsimp only
  clear fb fv k0 k1 k2 k3 k4 k5 k6 HPx2 HPe2 hxat
  have HX6 := Lib.hid (HX5.out.trans hx6)
  have HZ6 := Lib.hid (HZ5.out.ext hx6)
  have HV6 := Lib.hid (HV5.out.ext hx6)
  have HO6 := Lib.hid (HO5.out.ext hx6)
  have HP6 := Lib.hid (HP5.out.ext hx6)
  have hWs : w2.heap.size ≤ W.heap.size := Nat.le_trans hs5 hx6.size
  clear hx6 HX5 HZ5 HV5 HO5 HP5 HB5 hs5
  obtain ⟨x, hxe⟩ : ∃ x, x = x' := ⟨_, rfl⟩
  subst hxe
  have hcp := fun o => HP6.out.cell o
  have hsg : w.heap.size + 2 < G9 := by omega
  go_wp2_with fail
  clear hcp
  go_loopw [48] (fun i wr => PtLoop (Com.onto e.id x.chars e.chars) d w ⟨ra, rn, rc, some ⟨g, 0, none⟩, en5, ec, ca, cn, cc⟩ w2.heap.size (G9) #[.string d.title, .string d.lang, .int .u8 d.rate, .bool d.drop, .int .i64 d.last, .slice ra rn rc, .slice (some ⟨g, 0, none⟩) en5 ec, .slice ca cn cc] #[.int .i64 e.id, .int .i64 e.inn, .int .i64 e.out, .string e.region, .int .u8 e.kind, .string e.speaker, .slice A n c] i wr) (fun i _ => cn - (intOf i).toNat)
  case atStart => exact ⟨0, Nat.zero_le _, rfl, HX6.out, HP6.out, HV6.out, HZ6.out, HO6.out, hWs⟩
  case round =>
    obtain ⟨ki, hi, rfl, hx8, hp8, hv8, hz8, ho8, hls⟩ := hrel
    dsimp only at hi
    have HX8 := Lib.hid hx8
    have HP8 := Lib.hid hp8
    have HV8 := Lib.hid hv8
    have HZ8 := Lib.hid hz8
    have HO8 := Lib.hid ho8
    clear hx8 hp8 hv8 hz8 ho8 HX6 HP6 HV6 HZ6 HO6
    by_cases hlt : ki < cn
    · obtain ⟨gc, hgc, hLc⟩ := HO8.out.com_at hlt
      dsimp only at hgc
      have hgcs := hgc
      subst hgc
      obtain ⟨cm, hc0⟩ : ∃ cm, d.coms[ki]? = some cm := ⟨_, List.getElem?_eq_getElem (by omega)⟩
      have hus := upd_step (Com.onto e.id x.chars e.chars) d.coms ki cm hc0
      have HNx := Lib.hid (upd_next (Com.onto e.id x.chars e.chars) d.coms ki cm hc0)
      have HUs := Lib.hid hus.2
      have HU1 := Lib.hid hus.1
      have HC0 := Lib.hid hc0
      have e0 : wr.cell? ⟨gc, ki * 8, none⟩ = some (.int .i64 cm.id) := (HO8.out.com_cell (j := 0) hgcs hus.1 rfl).1
      obtain ⟨e1, -⟩ := HO8.out.com_cell (j := 1) hgcs hus.1 rfl
      obtain ⟨e2, -⟩ := HO8.out.com_cell (j := 2) hgcs hus.1 rfl
      obtain ⟨e3, -⟩ := HO8.out.com_cell (j := 3) hgcs hus.1 rfl
      obtain ⟨e4, -⟩ := HO8.out.com_cell (j := 4) hgcs hus.1 rfl
      obtain ⟨e5, -⟩ := HO8.out.com_cell (j := 5) hgcs hus.1 rfl
      obtain ⟨e6, -⟩ := HO8.out.com_cell (j := 6) hgcs hus.1 rfl
      obtain ⟨e7, -⟩ := HO8.out.com_cell (j := 7) hgcs hus.1 rfl
      have HBc := Lib.hid (Blk.new wr 78 #[.int .i64 cm.id, .int .i64 cm.ev, .int .i64 cm.fr, .int .i64 cm.til, .string cm.author, .string cm.text, .bool cm.done, .bool cm.lost])
      have hxa := (Ext.refl wr).alloc (.cells #[.int .i64 cm.id, .int .i64 cm.ev, .int .i64 cm.fr, .int .i64 cm.til, .string cm.author, .string cm.text, .bool cm.done, .bool cm.lost] 78)
      have HX9 := Lib.hid (HX8.out.trans hxa)
      have HP9 := Lib.hid (HP8.out.ext hxa)
      have HV9 := Lib.hid (HV8.out.ext hxa)
      have HZ9 := Lib.hid (HZ8.out.ext hxa)
      have HO9 := Lib.hid (HO8.out.ext hxa)
      have hls9 := Nat.le_trans hls hxa.size
      have hce := fun o => HV9.out.cell o
      clear hus hc0 hgcs hxa
      by_cases hev : cm.ev = e.id
      case neg =>
        have heb : (cm.ev == e.id) = false := by simpa using hev
        have HMv : Hid (Com.onto e.id x.chars e.chars cm = cm) := by show _ = _; unfold Com.onto; rw [if_neg hev]
        clear hev
        go_wp2_with fail
        clear hce e0 e1 e2 e3 e4 e5 e6 e7
        refine ⟨⟨ki + 1, by dsimp only; omega, by go_num, HX9.out, HP9.out, HV9.out, HZ9.out, ?_, hls9⟩, by simp [intOf]; omega⟩
        rw [HNx.out, HMv.out, ← drop_at d.coms ki cm HC0.out]
        exact HO9.out
      have heb : (cm.ev == e.id) = true := by simpa using hev
      obtain ⟨cx, hcx⟩ : ∃ cx, cx = cm.fol x.chars e.chars := ⟨_, rfl⟩
      have HMv : Hid (Com.onto e.id x.chars e.chars cm = cx) := by show _ = _; unfold Com.onto; rw [if_pos hev, hcx]
      obtain ⟨A1, n1, c1, hgd, hty, hxc⟩ := HO9.out.ev_row (k := k) rfl HXk.out
      have hsx : (⟨x.text.toArray⟩ : ByteArray).size ≤ 35184372088831 := text_size x HXs.out.2 hgd.at_.2.2 hgd.at_.len
      have HFo : Hid (∀ w', Calls Tryz.prog 113 #[.agg #[.int .i64 cm.id, .int .i64 cm.ev, .int .i64 cm.fr, .int .i64 cm.til, .string cm.author, .string cm.text, .bool cm.done, .bool cm.lost], .string ⟨x.text.toArray⟩, .string ⟨e.text.toArray⟩] w' fun en w'' => en = .returned (.agg cx.vals.toArray) ∧ Ext w' w'') := fun w' => by rw [hcx]; exact R12Follow_any cm ⟨x.text.toArray⟩ ⟨e.text.toArray⟩ w' hsx hse
      have HXc := Lib.hid hxc
      have HGd := Lib.hid hgd
      clear hev hcx hgd hty hsx hxc
      go_upto_region 16 with fail
      clear hce e0 e1 e2 e3 e4 e5 e6 e7
      obtain ⟨W9, hW9⟩ : ∃ W9, W9 = wr.alloc (.cells #[.int .i64 cm.id, .int .i64 cm.ev, .int .i64 cm.fr, .int .i64 cm.til, .string cm.author, .string cm.text, .bool cm.done, .bool cm.lost] 78) := ⟨_, rfl⟩
      rw [← hW9] at HBc HX9 HP9 HV9 HZ9 HO9 HXc HGd hls9 ⊢
      clear hW9 HX8 HP8 HV8 HZ8 HO8
      have HPx := Lib.hid (fun w' (hx : Ext W9 w') => R11Plain_any x A1 n1 c1 w' (HGd.out.at_.ext hx) HXs.out.2 (rows_len HGd.out.at_.1))
      have HPe9 := Lib.hid (fun w' (hx : Ext W9 w') => HPe.out w' (HX9.out.trans hx))
      have HTh := Lib.hid (fun w' (hx : Ext W9 w') => ((HO9.out.ext hx).com_sets (c' := cx) rfl HU1.out).2.1)
      unfold Ev.cells at HPx
      refine wp_region_links [some 58, some 59, some 60, some 61, some 62, some 63, some 64, some 65, none] [[], [0], [], [], [], [], [3, 4, 5], [1, 2, 0, 1, 2, 3, 4, 5, 6], [7, 6, 6, 0, 1, 2, 3, 4, 5, 6]] [6, 8] [.pointer (some ⟨G9, 7, none⟩), .slice (some ⟨gc, 0, none⟩) cn cc, .int .i64 (ki : Int), .agg #[.int .i64 cm.id, .int .i64 cm.ev, .int .i64 cm.fr, .int .i64 cm.til, .string cm.author, .string cm.text, .bool cm.done, .bool cm.lost], .string ⟨x.text.toArray⟩, .string ⟨e.text.toArray⟩, undef, .pointer (some ⟨gc, ki * 8, none⟩), undef] (PutJ [.agg cx.vals.toArray] gc (ki * 8) cx.vals W9) (by kernel_rfl) (by kernel_rfl) (by kernel_rfl) (by kernel_rfl) (by kernel_rfl) (by kernel_rfl) (by kernel_rfl) (by decide) ?_ ?_ ?_ ?_
      · exact PutJ.start W9
      · intro i o ho hc a w' us K' hJ hF hlim hk
        match i, ho with
        | 0, ho =>
          simp only [List.getElem?_toArray, List.getElem?_cons_zero, List.getElem?_cons_succ, Option.some.injEq] at ho
          subst ho
          have e9 := hF.old 9 (.pointer (some ⟨G9, 0, none⟩)) rfl rfl
          simp only [Act.eval] at e9
          clear hF hlim hJ
          go_simp
          exact hk
        | 1, ho =>
          simp only [List.getElem?_toArray, List.getElem?_cons_zero, List.getElem?_cons_succ, Option.some.injEq] at ho
          subst ho
          have e58 := hF.pure 0 58 (.pointer (some ⟨G9, 7, none⟩)) rfl rfl rfl rfl
          have hcl2 := (HP9.out.ext (hJ.ext (by have := hlim 1 8 rfl rfl; simp only [List.length_cons, List.length_nil]; omega))).cell 7
          simp only [Act.eval] at e58
          clear hF hlim hJ
          go_simp
          exact hk
        | 2, ho =>
          simp only [List.getElem?_toArray, List.getElem?_cons_zero, List.getElem?_cons_succ, Option.some.injEq] at ho
          subst ho
          have e12 := hF.old 12 (.int .i64 (ki : Int)) rfl rfl
          simp only [Act.eval] at e12
          clear hF hlim hJ
          go_simp
          exact hk
        | 3, ho =>
          simp only [List.getElem?_toArray, List.getElem?_cons_zero, List.getElem?_cons_succ, Option.some.injEq] at ho
          subst ho
          have e13 := hF.old 13 (.pointer (some ⟨wr.heap.size, 0, none⟩)) rfl rfl
          exact wp_loadBk 78 (.tmp 13) rfl _ 78 _ _ e13 (HBc.out.ext (hJ.ext (by have := hlim 1 8 rfl rfl; simp only [List.length_cons, List.length_nil]; omega))) Tryz.underlying78 rfl (by exact size_comI) hk
        | 4, ho =>
          simp only [List.getElem?_toArray, List.getElem?_cons_zero, List.getElem?_cons_succ, Option.some.injEq] at ho
          subst ho
          have e10 := hF.old 10 (.string ⟨x.text.toArray⟩) rfl rfl
          simp only [Act.eval] at e10
          clear hF hlim hJ
          go_simp
          exact hk
        | 5, ho =>
          simp only [List.getElem?_toArray, List.getElem?_cons_zero, List.getElem?_cons_succ, Option.some.injEq] at ho
          subst ho
          have e11 := hF.old 11 (.string ⟨e.text.toArray⟩) rfl rfl
          simp only [Act.eval] at e11
          clear hF hlim hJ
          go_simp
          exact hk
        | 6, ho => simp at hc
        | 7, ho =>
          simp only [List.getElem?_toArray, List.getElem?_cons_zero, List.getElem?_cons_succ, Option.some.injEq] at ho
          subst ho
          have e59 := hF.pure 1 59 (.slice (some ⟨gc, 0, none⟩) cn cc) rfl rfl rfl rfl
          have e60 := hF.pure 2 60 (.int .i64 (ki : Int)) rfl rfl rfl rfl
          simp only [Act.eval] at e59 e60
          clear hF hlim hJ
          go_simp
          exact hk
        | 8, ho => simp at hc
        | i + 9, ho => simp at ho
      · intro p c' o hp ho a w' us K' hl hJ hF hk
        match p, hp with
        | 0, hp =>
          obtain rfl : 6 = c' := by simpa using hp
          simp only [List.getElem?_toArray, List.getElem?_cons_zero, List.getElem?_cons_succ, Option.some.injEq] at ho
          subst ho
          obtain rfl : us = [] := List.eq_nil_of_length_eq_zero hl
          have e61 := hF.pure 3 61 (.agg #[.int .i64 cm.id, .int .i64 cm.ev, .int .i64 cm.fr, .int .i64 cm.til, .string cm.author, .string cm.text, .bool cm.done, .bool cm.lost]) rfl rfl rfl rfl
          have e62 := hF.pure 4 62 (.string ⟨x.text.toArray⟩) rfl rfl rfl rfl
          have e63 := hF.pure 5 63 (.string ⟨e.text.toArray⟩) rfl rfl rfl rfl
          exact wp_call3v rfl e61 e62 e63 Tryz.call113 (HFo.out w') (fun w8 hx8 => hk _ _ (hJ.call rfl hx8))
        | 1, hp =>
          obtain rfl : 8 = c' := by simpa using hp
          simp only [List.getElem?_toArray, List.getElem?_cons_zero, List.getElem?_cons_succ, Option.some.injEq] at ho
          subst ho
          obtain ⟨u0, rfl⟩ := list_1 hl
          have hv := hJ.val (by simp)
          simp at hv
          obtain rfl := hv
          have e65 := hF.pure 7 65 (.pointer (some ⟨gc, ki * 8, none⟩)) rfl rfl rfl rfl
          have e64 := hF.link 0 6 64 _ rfl rfl rfl rfl
          exact wp_store_mid 78 (.tmp 65) (.tmp 64) rfl gc (ki * 8) cx.vals.toArray e65 e64 (HTh.out w' (hJ.ext (by simp))) (by exact size_comI) (all_oneCell_toArray (com_ones cx)) (hk undef _ (hJ.sto rfl))
        | p + 2, hp => simp at hp
      intro us w9 hl hJ
      obtain ⟨u0, u1, rfl⟩ := list_2 hl
      first | (rename_i hK; refine hK _ _ ?_; clear hK) | (rename_i hK hK_1; refine hK _ _ ?_; clear hK) | (rename_i hK hK_1 hK_2; refine hK _ _ ?_; clear hK) | (rename_i hK hK_1 hK_2 hK_3; refine hK _ _ ?_; clear hK)
      generalize hL : frameL _ _ _ _ = L
      obtain rfl : L = [(58, .pointer (some ⟨G9, 7, none⟩)), (59, .slice (some ⟨gc, 0, none⟩) cn cc), (60, .int .i64 (ki : Int)), (61, .agg #[.int .i64 cm.id, .int .i64 cm.ev, .int .i64 cm.fr, .int .i64 cm.til, .string cm.author, .string cm.text, .bool cm.done, .bool cm.lost]), (62, .string ⟨x.text.toArray⟩), (63, .string ⟨e.text.toArray⟩), (64, u0), (65, .pointer (some ⟨gc, ki * 8, none⟩))] := hL.symm.trans (by kernel_rfl)
      clear hL hl
      simp only [Act.put, List.foldl_cons, List.foldl_nil, List.setIfInBounds_toArray, List.set_cons_zero, List.set_cons_succ]
      obtain ⟨w5', hx5, rfl⟩ := hJ.all rfl
      clear hJ
      go_wp2_with fail
      have hq := (HO9.out.ext hx5).com_sets (c' := cx) rfl HU1.out
      refine ⟨⟨ki + 1, by dsimp only; omega, by go_num, ext_sets (by omega) _ _ _ (HX9.out.trans hx5), hq.2.2.1 _ _ (by decide) (HP9.out.ext hx5), hq.2.2.1 _ _ (by decide) (HV9.out.ext hx5), hq.2.2.1 _ _ (by decide) (HZ9.out.ext hx5), ?_, Nat.le_trans (Nat.le_trans hls9 hx5.size) hq.2.2.2⟩, by simp [intOf]; omega⟩
      rw [HNx.out, HMv.out, ← HUs.out]
      exact hq.1
    · have hin : ki = cn := by omega
      have HO9 : Hid (DocOwn wr w2.heap.size (d.withComs (d.coms.map (Com.onto e.id x.chars e.chars))) ⟨ra, rn, rc, some ⟨g, 0, none⟩, en5, ec, ca, cn, cc⟩) := by
        have h9 := HO8.out
        rw [List.take_of_length_le (by omega), List.drop_eq_nil_of_le (by omega), List.append_nil] at h9
        exact h9
      clear HO8
      have hlt2 : ¬ (ki : Int) < (cn : Int) := by omega
      have hcp := fun o => HP8.out.cell o
      have hce := fun o => HV8.out.cell o
      have HX10 : Hid (Ext w (wr.setCells g (k * 7) (e.cells A n c).toList)) := ext_sets (by omega) _ _ _ HX8.out
      have hq := HO9.out.ev_put (k := k) (x := x) rfl HXk.out (HEa.out.ext HX10.out)
      have HTh := Lib.hid hq.2.1
      have HEs := Lib.hid hq.1
      have HP10 : Hid (Blk (wr.setCells g (k * 7) (e.cells A n c).toList) (G9) 27 #[.string d.title, .string d.lang, .int .u8 d.rate, .bool d.drop, .int .i64 d.last, .slice ra rn rc, .slice (some ⟨g, 0, none⟩) en5 ec, .slice ca cn cc]) := hq.2.2 (T := 27) (by decide) _ _ HP8.out
      have HZ10 : Hid (Blk (wr.setCells g (k * 7) (e.cells A n c).toList) (w.heap.size + 2) 27 docZero) := hq.2.2 (T := 27) (by decide) _ _ HZ8.out
      have HRg10 := Lib.hid (own_kb HO9.out.regs (hq.2.2 (by decide)))
      have HCm10 := Lib.hid (own_kb HO9.out.coms (hq.2.2 (by decide)))
      have HRl10 := Lib.hid HO9.out.rlen
      have HCl10 := Lib.hid HO9.out.clen
      have hls10 : w2.heap.size ≤ (wr.setCells g (k * 7) (e.cells A n c).toList).heap.size := by
        obtain ⟨hs, h1, -⟩ := HO9.out.evs
        exact Nat.le_trans hls (own_sets_size _ _ _ _ h1)
      clear hq
      unfold Ev.cells at HX10 HEs HP10 HZ10 HRg10 HCm10 hls10
      go_upto_region 19 with (first | (refine wpList_loadB rfl 66 (.tmp 3) rfl (w.heap.size + 1) 66 _ _ (by exact rfl) (by exact HV8.out) Tryz.underlying66 rfl (by exact size_event) ?_) | (refine wpList_store_mid rfl 66 (.tmp 71) (.tmp 70) rfl g (k * 7) (#[.int .i64 e.id, .int .i64 e.inn, .int .i64 e.out, .string e.region, .int .u8 e.kind, .string e.speaker, .slice A n c]) (by exact rfl) (by exact rfl) (by exact HTh.out) (by exact size_event) (by simp [Value.oneCell']) ?_; generalize hW8 : World.setCells _ _ _ _ = W8; have HW8 := Lib.hid hW8; clear hW8))
      rw [HW8.out] at HX10 HEs HP10 HZ10 HRg10 HCm10 hls10
      clear hcp hce HW8 HTh HX8 HP8 HV8 HZ8 HO9
      have hcp := fun o => HP10.out.cell o
      have hfp := fun o => HP10.out.frozen o
      go_wp2_with fail
      refine (R12Sort_any _ _ _ _ _ HEs.out (show en5 * 88 ≤ _ by omega)).mono ?_
      rintro en w7 ⟨v7, rfl, hev7, hx7⟩
      obtain ⟨A7, c7, hv7, -, -, -⟩ := hev7.at_
      subst hv7
      have HX7 := Lib.hid (HX10.out.trans hx7)
      have HP7 := Lib.hid (HP10.out.ext hx7)
      have HZ7 := Lib.hid (HZ10.out.ext hx7)
      have HO7 : Hid (DocOwn w7 w2.heap.size (d.putD e x k) ⟨ra, rn, rc, A7, en5, c7, ca, cn, cc⟩) := ⟨own_ext HRg10.out hx7, HRl10.out, hev7.le hls10, own_ext HCm10.out hx7, HCl10.out⟩
      clear hcp hfp hev7 hx7 HX10 HP10 HZ10 HRg10 HCm10 HEs
      have hs7 := setCell_put HP7.out 6 (.slice A7 en5 c7)
      have hc7 := HP7.out.cell 6
      have hf7 := HP7.out.frozen 6
      simp at hs7 hc7
      have HP9 := Lib.hid (HP7.out.put #[.string d.title, .string d.lang, .int .u8 d.rate, .bool d.drop, .int .i64 d.last, .slice ra rn rc, .slice A7 en5 c7, .slice ca cn cc])
      have HZ9 := Lib.hid (HZ7.out.put_other (g' := G9) (t' := 27) (by omega) #[.string d.title, .string d.lang, .int .u8 d.rate, .bool d.drop, .int .i64 d.last, .slice ra rn rc, .slice A7 en5 c7, .slice ca cn cc])
      have HX9 := Lib.hid (HX7.out.put (g := G9) (by omega) 27 #[.string d.title, .string d.lang, .int .u8 d.rate, .bool d.drop, .int .i64 d.last, .slice ra rn rc, .slice A7 en5 c7, .slice ca cn cc])
      have HO9 := Lib.hid (HO7.out.put HP7.out #[.string d.title, .string d.lang, .int .u8 d.rate, .bool d.drop, .int .i64 d.last, .slice ra rn rc, .slice A7 en5 c7, .slice ca cn cc])
      go_wp2_with (first | (refine wpList_loadB rfl 27 (.tmp 9) rfl (G9) 27 _ _ (by exact rfl) (by exact HP9.out) Tryz.underlying27 rfl (by exact size_docI) ?_) | (refine wpList_storeB rfl 27 (.tmp 4) _ rfl (w.heap.size + 2) 27 _ _ (by exact rfl) (by exact rfl) (by exact HZ9.out) (by exact rfl) (by exact size_docI) (by simp [Value.oneCell']) ?_))
      refine bodyPost_ret (v := .tuple #[.agg ((d.putX e).1.cells ⟨ra, rn, rc, A7, en5, c7, ca, cn, cc⟩), .int .i64 (d.putX e).2]) ?_ rfl ⟨⟨ra, rn, rc, A7, en5, c7, ca, cn, cc⟩, rfl, ?_, ?_⟩
      · rw [HR1.out]
        exact results_B_tmp (P := Tryz.prog) Tryz.results52 (g := w.heap.size + 2) rfl (by exact HZ9.out.put _) Tryz.underlying27 rfl size_docI
      · rw [HR1.out]
        exact (HO9.out.le hsz).put HZ9.out _
      · exact HX9.out.put (by omega) _ _
end Go.Proofs.YtagfedbdakmlgaaGreatDoor

/-! HeadD -/
namespace Go.Proofs.YtagfedbdakmlgaaGreatDoor
set_option linter.unusedVariables false
set_option linter.unusedSimpArgs false
open Go.RowKit
def Doc.head (d : Doc) : Value := .agg #[.string d.title, .string d.lang, .int .u8 d.rate, .bool d.drop, .int .i64 d.last]
set_option maxRecDepth 100000 in
set_option maxHeartbeats 1000000 in
theorem DHead_any (d : Doc) (h : DocH) (w : World) : Calls Tryz.prog 36 #[.agg (d.cells h)] w fun e w' => e = .returned d.head ∧ Ext w w' := by
  have HX := Lib.hid (((Ext.refl w).alloc (.cells (d.cells h) 27)))
  unfold Doc.cells at *
  go_enter Tryz.func36, Tryz.ntmps36
  go_wp2
  exact bodyPost_ret (v := d.head) (by simp [results, Tryz.results36, go_sem, Doc.head]) rfl ⟨rfl, HX.out.alloc _⟩
end Go.Proofs.YtagfedbdakmlgaaGreatDoor

/-! Same -/
namespace Go.Proofs.YtagfedbdakmlgaaGreatDoor
set_option linter.unusedVariables false
set_option linter.unusedSimpArgs false
open Go.RowKit
theorem neq_run (a b : Run) (w : World) : (binOp .neq 84 a.val b.val).run Tryz.prog w = .ok (.bool (!decide (a = b))) w := by
  obtain ⟨t1, c1, i1, u1, r1⟩ := a
  obtain ⟨t2, c2, i2, u2, r2⟩ := b
  unfold Run.val
  dsimp only
  go_simp
  simp only [toList_inj]
  repeat' split
  all_goals simp_all
theorem neq_run_yes (a b : Run) (h : ¬ a = b) (w : World) : (binOp .neq 84 a.val b.val).run Tryz.prog w = .ok (.bool true) w := by rw [neq_run, decide_eq_false h]; rfl
theorem neq_run_no (a : Run) (w : World) : (binOp .neq 84 a.val a.val).run Tryz.prog w = .ok (.bool false) w := by rw [neq_run, decide_eq_true rfl]; rfl
def EqRel {α : Type} (w : World) (n : Nat) (l1 l2 : List α) (i : Value) (wr : World) : Prop := ∃ k : Nat, k ≤ n ∧ i = .int .i64 k ∧ Ext w wr ∧ l1.take k = l2.take k
theorem eq_of_take {α : Type} {l1 l2 : List α} {n : Nat} (h1 : l1.length = n) (h2 : l2.length = n) (h : l1.take n = l2.take n) : l1 = l2 := by
  rw [List.take_of_length_le (by omega), List.take_of_length_le (by omega)] at h
  exact h
theorem take_eq_succ {α : Type} {l1 l2 : List α} {k : Nat} {x : α} (h : l1.take k = l2.take k) (h1 : l1[k]? = some x) (h2 : l2[k]? = some x) : l1.take (k + 1) = l2.take (k + 1) := by
  rw [List.take_add_one, List.take_add_one, h, h1, h2]
theorem ne_at {α : Type} {l1 l2 : List α} {k : Nat} {x y : α} (h1 : l1[k]? = some x) (h2 : l2[k]? = some y) (h : ¬ x = y) : ¬ l1 = l2 := by
  rintro rfl
  rw [h1] at h2
  exact h (Option.some.inj h2)
set_option maxRecDepth 100000 in
set_option maxHeartbeats 2000000 in
theorem EqualRuns_any (A : Option Addr) (n c : Nat) (B : Option Addr) (m d : Nat) (l1 l2 : Row) (w : World) (h1 : RunsAt w A n l1) (h2 : RunsAt w B m l2) (hn : n ≤ 4611686018427387904) :
    Calls Tryz.prog 206 #[.slice A n c, .slice B m d] w fun e w' => e = .returned (.bool (decide (l1 = l2))) ∧ Ext w w' := by
  have L1 := Lib.hid h1.len
  have L2 := Lib.hid h2.len
  have H1 := Lib.hid h1
  have H2 := Lib.hid h2
  clear h1 h2
  by_cases hnm : n = m
  · subst hnm
    go_enter Tryz.func206, Tryz.ntmps206
    go_wp2_with fail
    go_loopw [13] (fun i wr => EqRel w n l1 l2 i wr) (fun i _ => n - (intOf i).toNat)
    case atStart => exact ⟨0, Nat.zero_le _, rfl, Ext.refl _, rfl⟩
    case round =>
      obtain ⟨k, hk, rfl, hx, hp⟩ := hrel
      have HP := Lib.hid hp
      clear hp
      by_cases hlt : k < n
      · obtain ⟨b1, o1, r, rfl, hr, c0, c1, c2, c3, c4⟩ := (H1.out.ext hx).at_ hlt
        obtain ⟨b2, o2, s, rfl, hs, d0, d1, d2, d3, d4⟩ := (H2.out.ext hx).at_ hlt
        have HR := Lib.hid hr
        have HS := Lib.hid hs
        clear hr hs
        have hk0 : (0 : Int) ≤ (k : Int) := by omega
        have hk1 : (k : Int) < (n : Int) := by omega
        by_cases hq : r = s
        · subst hq
          have HT := Lib.hid (take_eq_succ HP.out HR.out HS.out)
          have hne := fun w => neq_run_no r w
          unfold Run.val at hne
          go_wp2_with fail
          go_quiet (fail)
          go_wp2_with fail
          exact ⟨⟨k + 1, by omega, by go_num, hx.drewN _, HT.out⟩, by simp [intOf]; omega⟩
        · have hne := fun w => neq_run_yes r s hq w
          have HN := Lib.hid (ne_at HR.out HS.out hq)
          unfold Run.val at hne
          clear hq
          go_wp2_with fail
          go_quiet (fail)
          go_wp2_with fail
          go_ret
          exact ⟨ret_bool (decide_eq_false HN.out).symm, hx.drewN _⟩
      · have hkn : k = n := by omega
        subst hkn
        have HQ := Lib.hid (eq_of_take L1.out L2.out HP.out)
        go_wp2_with fail
        go_ret
        exact ⟨ret_bool (decide_eq_true HQ.out).symm, hx⟩
  · have hb : ((n : Int) != (m : Int)) = true := by simp; omega
    have HN : Hid (¬ l1 = l2) := by
      show ¬ _
      intro h
      apply hnm
      rw [← L1.out, ← L2.out, h]
    go_enter Tryz.func206, Tryz.ntmps206
    go_wp2_with fail
    go_ret
    exact ⟨ret_bool (decide_eq_false HN.out).symm, Ext.refl _⟩
set_option maxHeartbeats 1000000 in
theorem SSame_any (A : Option Addr) (n c : Nat) (B : Option Addr) (m d : Nat) (l1 l2 : Row) (w : World) (h1 : RunsAt w A n l1) (h2 : RunsAt w B m l2) (hn : n ≤ 4611686018427387904) :
    Calls Tryz.prog 176 #[.agg #[.slice A n c], .agg #[.slice B m d]] w fun e w' => e = .returned (.bool (decide (l1 = l2))) ∧ Ext w w' := by
  have H1 := Lib.hid h1
  have H2 := Lib.hid h2
  clear h1 h2
  have hx := ((Ext.refl w).alloc (.cells #[.slice A n c] 87)).alloc (.cells #[.slice B m d] 87)
  have HX := Lib.hid hx
  clear hx
  go_enter Tryz.func176, Tryz.ntmps176
  go_wp2_with fail
  refine (EqualRuns_any A n c B m d l1 l2 _ (H1.out.ext HX.out) (H2.out.ext HX.out) hn).mono ?_
  rintro e w1 ⟨rfl, hx1⟩
  go_wp2_with fail
  go_ret
  exact ⟨rfl, HX.out.trans hx1⟩
set_option maxRecDepth 100000 in
set_option maxHeartbeats 2000000 in
theorem EqualFunc_any (A : Option Addr) (n c : Nat) (B : Option Addr) (m d : Nat) (l1 l2 : List Row) (w : World) (h1 : RowsAt w A n l1) (h2 : RowsAt w B m l2) (hn : n ≤ 4611686018427387904) :
    Calls Tryz.prog 175 #[.slice A n c, .slice B m d, .func (.func 176) #[] #[]] w fun e w' => e = .returned (.bool (decide (l1 = l2))) ∧ Ext w w' := by
  have L1 := Lib.hid h1.len
  have L2 := Lib.hid h2.len
  have H1 := Lib.hid h1
  have H2 := Lib.hid h2
  clear h1 h2
  by_cases hnm : n = m
  · subst hnm
    go_enter Tryz.func175, Tryz.ntmps175
    go_wp2_with fail
    go_loopw [17] (fun i wr => EqRel w n l1 l2 i wr) (fun i _ => n - (intOf i).toNat)
    case atStart => exact ⟨0, Nat.zero_le _, rfl, Ext.refl _, rfl⟩
    case round =>
      obtain ⟨k, hk, rfl, hx, hp⟩ := hrel
      have HP := Lib.hid hp
      clear hp
      by_cases hlt : k < n
      · obtain ⟨b1, o1, r, rfl, hr, A1, n1, c1, e1, f1, g1, u1⟩ := (H1.out.ext hx).at_ hlt
        obtain ⟨b2, o2, s, rfl, hs, A2, n2, c2, e2, f2, g2, u2⟩ := (H2.out.ext hx).at_ hlt
        simp only [Nat.mul_one] at e1 e2
        have U1 := Lib.hid u1
        have U2 := Lib.hid u2
        have HR := Lib.hid hr
        have HS := Lib.hid hs
        clear hr hs u1 u2
        have hb2 : b2 < wr.heap.size := World.block_lt_of_cell? wr _ e2
        have hxa := ((Ext.refl wr).alloc (.cells #[.slice A1 n1 c1] 87)).alloc (.cells #[.slice A2 n2 c2] 87)
        have HX := Lib.hid hxa
        clear hxa
        go_wp2_with fail
        refine (SSame_any A1 n1 c1 A2 n2 c2 r s _ (U1.out.ext HX.out) (U2.out.ext HX.out) (by omega)).mono ?_
        rintro e w1 ⟨rfl, hx1⟩
        have hxw1 : Ext w w1 := (hx.trans HX.out).trans hx1
        by_cases hq : r = s
        · subst hq
          have HT := Lib.hid (take_eq_succ HP.out HR.out HS.out)
          rw [decide_eq_true rfl]
          go_wp2_with fail
          exact ⟨⟨k + 1, by omega, by go_num, hxw1, HT.out⟩, by simp [intOf]; omega⟩
        · have HN := Lib.hid (ne_at HR.out HS.out hq)
          rw [decide_eq_false hq]
          clear hq
          go_wp2_with fail
          go_ret
          exact ⟨ret_bool (decide_eq_false HN.out).symm, hxw1⟩
      · have hkn : k = n := by omega
        subst hkn
        have HQ := Lib.hid (eq_of_take L1.out L2.out HP.out)
        go_wp2_with fail
        go_ret
        exact ⟨ret_bool (decide_eq_true HQ.out).symm, hx⟩
  · have hb : ((n : Int) != (m : Int)) = true := by simp; omega
    have HN : Hid (¬ l1 = l2) := by
      show ¬ _
      intro h
      apply hnm
      rw [← L1.out, ← L2.out, h]
    go_enter Tryz.func175, Tryz.ntmps175
    go_wp2_with fail
    go_ret
    exact ⟨ret_bool (decide_eq_false HN.out).symm, Ext.refl _⟩
theorem SameRows_any (A : Option Addr) (n c : Nat) (B : Option Addr) (m d : Nat) (l1 l2 : List Row) (w : World) (h1 : RowsAt w A n l1) (h2 : RowsAt w B m l2) (hn : n ≤ 4611686018427387904) :
    Calls Tryz.prog 134 #[.slice A n c, .slice B m d] w fun e w' => e = .returned (.bool (decide (l1 = l2))) ∧ Ext w w' := by
  have H1 := Lib.hid h1
  have H2 := Lib.hid h2
  clear h1 h2
  go_enter Tryz.func134, Tryz.ntmps134
  go_wp2_with fail
  refine (EqualFunc_any A n c B m d l1 l2 _ H1.out H2.out hn).mono ?_
  rintro e w1 ⟨rfl, hx1⟩
  go_wp2_with fail
  go_ret
  exact ⟨rfl, hx1⟩
set_option maxRecDepth 100000 in
set_option maxHeartbeats 2000000 in
theorem RSame_any (A : Option Addr) (n c : Nat) (B : Option Addr) (m d : Nat) (l1 l2 : Row) (w : World) (h1 : RunsAt w A n l1) (h2 : RunsAt w B m l2) (hn : n ≤ 4611686018427387904) :
    Calls Tryz.prog 154 #[.agg #[.slice A n c], .agg #[.slice B m d]] w fun e w' => e = .returned (.bool (decide (l1 = l2))) ∧ Ext w w' := by
  have L1 := Lib.hid h1.len
  have L2 := Lib.hid h2.len
  have H1 := Lib.hid h1
  have H2 := Lib.hid h2
  clear h1 h2
  have hx0 := ((Ext.refl w).alloc (.cells #[.slice A n c] 87)).alloc (.cells #[.slice B m d] 87)
  have HX0 := Lib.hid hx0
  clear hx0
  by_cases hnm : n = m
  · subst hnm
    go_enter Tryz.func154, Tryz.ntmps154
    go_wp2_with fail
    go_loopw [16] (fun i wr => EqRel ((w.alloc (.cells #[.slice A n c] 87)).alloc (.cells #[.slice B n d] 87)) n l1 l2 i wr) (fun i _ => n - (intOf i).toNat)
    case atStart => exact ⟨0, Nat.zero_le _, rfl, Ext.refl _, rfl⟩
    case round =>
      obtain ⟨k, hk, rfl, hx, hp⟩ := hrel
      have HP := Lib.hid hp
      clear hp
      have hxw : Ext w wr := HX0.out.trans hx
      have hca := (((Blk.new w _ _).alloc _).ext hx).cell 0
      have hcb := ((Blk.new' (g := w.heap.size + 1) (w := w.alloc _) (by simp)).ext hx).cell 0
      simp at hca hcb
      by_cases hlt : k < n
      · obtain ⟨b1, o1, r, rfl, hr, c0, c1, c2, c3, c4⟩ := (H1.out.ext hxw).at_ hlt
        obtain ⟨b2, o2, s, rfl, hs, d0, d1, d2, d3, d4⟩ := (H2.out.ext hxw).at_ hlt
        have HR := Lib.hid hr
        have HS := Lib.hid hs
        clear hr hs
        have hk0 : (0 : Int) ≤ (k : Int) := by omega
        have hk1 : (k : Int) < (n : Int) := by omega
        by_cases hq : r = s
        · subst hq
          have HT := Lib.hid (take_eq_succ HP.out HR.out HS.out)
          have hne := fun w => neq_run_no r w
          unfold Run.val at hne
          go_wp2_with fail
          go_quiet (fail)
          go_wp2_with fail
          exact ⟨⟨k + 1, by omega, by go_num, hx.drewN _, HT.out⟩, by simp [intOf]; omega⟩
        · have hne := fun w => neq_run_yes r s hq w
          have HN := Lib.hid (ne_at HR.out HS.out hq)
          unfold Run.val at hne
          clear hq
          go_wp2_with fail
          go_quiet (fail)
          go_wp2_with fail
          go_ret
          exact ⟨ret_bool (decide_eq_false HN.out).symm, hxw.drewN _⟩
      · have hkn : k = n := by omega
        subst hkn
        have HQ := Lib.hid (eq_of_take L1.out L2.out HP.out)
        go_wp2_with fail
        go_ret
        exact ⟨ret_bool (decide_eq_true HQ.out).symm, hxw⟩
  · have hb : ((n : Int) != (m : Int)) = true := by simp; omega
    have HN : Hid (¬ l1 = l2) := by
      show ¬ _
      intro h
      apply hnm
      rw [← L1.out, ← L2.out, h]
    go_enter Tryz.func154, Tryz.ntmps154
    go_wp2_with fail
    go_ret
    exact ⟨ret_bool (decide_eq_false HN.out).symm, HX0.out⟩
set_option maxRecDepth 100000 in
set_option maxHeartbeats 2000000 in
theorem RSameRows_any (A : Option Addr) (n c : Nat) (B : Option Addr) (m d : Nat) (l1 l2 : List Row) (w : World) (h1 : RowsAt w A n l1) (h2 : RowsAt w B m l2) (hn : n ≤ 4611686018427387904) :
    Calls Tryz.prog 110 #[.slice A n c, .slice B m d] w fun e w' => e = .returned (.bool (decide (l1 = l2))) ∧ Ext w w' := by
  have L1 := Lib.hid h1.len
  have L2 := Lib.hid h2.len
  have H1 := Lib.hid h1
  have H2 := Lib.hid h2
  clear h1 h2
  by_cases hnm : n = m
  · subst hnm
    go_enter Tryz.func110, Tryz.ntmps110
    go_wp2_with fail
    go_loopw [13] (fun i wr => EqRel w n l1 l2 i wr) (fun i _ => n - (intOf i).toNat)
    case atStart => exact ⟨0, Nat.zero_le _, rfl, Ext.refl _, rfl⟩
    case round =>
      obtain ⟨k, hk, rfl, hx, hp⟩ := hrel
      have HP := Lib.hid hp
      clear hp
      by_cases hlt : k < n
      · obtain ⟨b1, o1, r, rfl, hr, A1, n1, c1, e1, f1, g1, u1⟩ := (H1.out.ext hx).at_ hlt
        obtain ⟨b2, o2, s, rfl, hs, A2, n2, c2, e2, f2, g2, u2⟩ := (H2.out.ext hx).at_ hlt
        simp only [Nat.mul_one] at e1 e2
        have U1 := Lib.hid u1
        have U2 := Lib.hid u2
        have HR := Lib.hid hr
        have HS := Lib.hid hs
        clear hr hs u1 u2
        have hk0 : (0 : Int) ≤ (k : Int) := by omega
        have hk1 : (k : Int) < (n : Int) := by omega
        go_wp2_with fail
        go_region_held3 (fun w' => w'.cell? ⟨b1, o1 + k, none⟩ = some (.slice A1 n1 c1) ∧ w'.cell? ⟨b2, o2 + k, none⟩ = some (.slice A2 n2 c2)) (first | go_keep | (go_split_ands; refine ⟨?_, ?_⟩ <;> (apply hx1.cell; assumption))) (first | (go_at_call 154; refine (RSame_any A1 n1 c1 A2 n2 c2 r s _ (U1.out.ext (by exact (Ext.refl wr).drew)) (U2.out.ext (by exact (Ext.refl wr).drew)) (by omega)).mono ?_; rintro e w1 ⟨rfl, hx1⟩))
        have hxw1 : Ext w w1 := hx.drew.trans hx1
        by_cases hq : r = s
        · subst hq
          have HT := Lib.hid (take_eq_succ HP.out HR.out HS.out)
          rw [decide_eq_true rfl]
          go_wp2_with fail
          exact ⟨⟨k + 1, by omega, by go_num, hxw1, HT.out⟩, by simp [intOf]; omega⟩
        · have HN := Lib.hid (ne_at HR.out HS.out hq)
          rw [decide_eq_false hq]
          clear hq
          go_wp2_with fail
          go_ret
          exact ⟨ret_bool (decide_eq_false HN.out).symm, hxw1⟩
      · have hkn : k = n := by omega
        subst hkn
        have HQ := Lib.hid (eq_of_take L1.out L2.out HP.out)
        go_wp2_with fail
        go_ret
        exact ⟨ret_bool (decide_eq_true HQ.out).symm, hx⟩
  · have hb : ((n : Int) != (m : Int)) = true := by simp; omega
    have HN : Hid (¬ l1 = l2) := by
      show ¬ _
      intro h
      apply hnm
      rw [← L1.out, ← L2.out, h]
    go_enter Tryz.func110, Tryz.ntmps110
    go_wp2_with fail
    go_ret
    exact ⟨ret_bool (decide_eq_false HN.out).symm, Ext.refl _⟩
end Go.Proofs.YtagfedbdakmlgaaGreatDoor

/-! EqualD -/
namespace Go.Proofs.YtagfedbdakmlgaaGreatDoor
set_option linter.unusedVariables false
set_option linter.unusedSimpArgs false
open Go.RowKit
theorem neq_reg (a b : Reg) (w : World) : (binOp .neq 94 a.val b.val).run Tryz.prog w = .ok (.bool (!decide (a = b))) w := by
  obtain ⟨nm, top, hgt, lft, wid, al, bot⟩ := a
  obtain ⟨nm', top', hgt', lft', wid', al', bot'⟩ := b
  unfold Reg.val
  dsimp only
  go_simp
  simp only [toList_inj]
  repeat' split
  all_goals simp_all
theorem neq_reg_yes (a b : Reg) (h : ¬ a = b) (w : World) : (binOp .neq 94 a.val b.val).run Tryz.prog w = .ok (.bool true) w := by rw [neq_reg, decide_eq_false h]; rfl
theorem neq_reg_no (a : Reg) (w : World) : (binOp .neq 94 a.val a.val).run Tryz.prog w = .ok (.bool false) w := by rw [neq_reg, decide_eq_true rfl]; rfl
set_option maxRecDepth 100000 in
set_option maxHeartbeats 2000000 in
theorem EqualRegs_any (A : Option Addr) (n c : Nat) (B : Option Addr) (m d : Nat) (l1 l2 : List Reg) (w : World) (h1 : RegsAt w A n l1) (h2 : RegsAt w B m l2) (hn : n ≤ 4611686018427387904) :
    Calls Tryz.prog 79 #[.slice A n c, .slice B m d] w fun e w' => e = .returned (.bool (decide (l1 = l2))) ∧ Ext w w' := by
  have L1 := Lib.hid h1.len
  have L2 := Lib.hid h2.len
  have H1 := Lib.hid h1
  have H2 := Lib.hid h2
  clear h1 h2
  by_cases hnm : n = m
  · subst hnm
    go_enter Tryz.func79, Tryz.ntmps79
    go_wp2_with fail
    go_loopw [13] (fun i wr => EqRel w n l1 l2 i wr) (fun i _ => n - (intOf i).toNat)
    case atStart => exact ⟨0, Nat.zero_le _, rfl, Ext.refl _, rfl⟩
    case round =>
      obtain ⟨k, hk, rfl, hx, hp⟩ := hrel
      have HP := Lib.hid hp
      clear hp
      by_cases hlt : k < n
      · obtain ⟨b1, o1, r, rfl, hr, c0, c1, c2, c3, c4, c5, c6⟩ := (H1.out.ext hx).at_ hlt
        obtain ⟨b2, o2, s, rfl, hs, d0, d1, d2, d3, d4, d5, d6⟩ := (H2.out.ext hx).at_ hlt
        have HR := Lib.hid hr
        have HS := Lib.hid hs
        clear hr hs
        have hk0 : (0 : Int) ≤ (k : Int) := by omega
        have hk1 : (k : Int) < (n : Int) := by omega
        by_cases hq : r = s
        · subst hq
          have HT := Lib.hid (take_eq_succ HP.out HR.out HS.out)
          have hne := fun w => neq_reg_no r w
          unfold Reg.val at hne
          go_wp2_with fail
          go_quiet (fail)
          go_wp2_with fail
          exact ⟨⟨k + 1, by omega, by go_num, hx.drewN _, HT.out⟩, by simp [intOf]; omega⟩
        · have hne := fun w => neq_reg_yes r s hq w
          have HN := Lib.hid (ne_at HR.out HS.out hq)
          unfold Reg.val at hne
          clear hq
          go_wp2_with fail
          go_quiet (fail)
          go_wp2_with fail
          go_ret
          exact ⟨ret_bool (decide_eq_false HN.out).symm, hx.drewN _⟩
      · have hkn : k = n := by omega
        subst hkn
        have HQ := Lib.hid (eq_of_take L1.out L2.out HP.out)
        go_wp2_with fail
        go_ret
        exact ⟨ret_bool (decide_eq_true HQ.out).symm, hx⟩
  · have hb : ((n : Int) != (m : Int)) = true := by simp; omega
    have HN : Hid (¬ l1 = l2) := by
      show ¬ _
      intro h
      apply hnm
      rw [← L1.out, ← L2.out, h]
    go_enter Tryz.func79, Tryz.ntmps79
    go_wp2_with fail
    go_ret
    exact ⟨ret_bool (decide_eq_false HN.out).symm, Ext.refl _⟩
end Go.Proofs.YtagfedbdakmlgaaGreatDoor

/-! EqualC -/
namespace Go.Proofs.YtagfedbdakmlgaaGreatDoor
set_option linter.unusedVariables false
set_option linter.unusedSimpArgs false
open Go.RowKit
def Com.aggV (c : Com) : Value := .agg #[.int .i64 c.id, .int .i64 c.ev, .int .i64 c.fr, .int .i64 c.til, .string c.author, .string c.text, .bool c.done, .bool c.lost]
theorem neq_com (a b : Com) (w : World) : (binOp .neq 78 a.aggV b.aggV).run Tryz.prog w = .ok (.bool (!decide (a = b))) w := by
  obtain ⟨id, ev, fr, tl, au, tx, dn, lo⟩ := a
  obtain ⟨id', ev', fr', tl', au', tx', dn', lo'⟩ := b
  unfold Com.aggV
  dsimp only
  go_simp
  simp only [toList_inj]
  repeat' split
  all_goals simp_all
theorem neq_com_yes (a b : Com) (h : ¬ a = b) (w : World) : (binOp .neq 78 a.aggV b.aggV).run Tryz.prog w = .ok (.bool true) w := by rw [neq_com, decide_eq_false h]; rfl
theorem neq_com_no (a : Com) (w : World) : (binOp .neq 78 a.aggV a.aggV).run Tryz.prog w = .ok (.bool false) w := by rw [neq_com, decide_eq_true rfl]; rfl
set_option maxRecDepth 100000 in
set_option maxHeartbeats 2000000 in
theorem EqualComs_any (A : Option Addr) (n c : Nat) (B : Option Addr) (m d : Nat) (l1 l2 : List Com) (w : World) (h1 : ComsAt w A n l1) (h2 : ComsAt w B m l2) (hn : n ≤ 4611686018427387904) :
    Calls Tryz.prog 82 #[.slice A n c, .slice B m d] w fun e w' => e = .returned (.bool (decide (l1 = l2))) ∧ Ext w w' := by
  have L1 := Lib.hid h1.len
  have L2 := Lib.hid h2.len
  have H1 := Lib.hid h1
  have H2 := Lib.hid h2
  clear h1 h2
  by_cases hnm : n = m
  · subst hnm
    go_enter Tryz.func82, Tryz.ntmps82
    go_wp2_with fail
    go_loopw [13] (fun i wr => EqRel w n l1 l2 i wr) (fun i _ => n - (intOf i).toNat)
    case atStart => exact ⟨0, Nat.zero_le _, rfl, Ext.refl _, rfl⟩
    case round =>
      obtain ⟨k, hk, rfl, hx, hp⟩ := hrel
      have HP := Lib.hid hp
      clear hp
      by_cases hlt : k < n
      · obtain ⟨b1, o1, r, rfl, hr, c0, c1, c2, c3, c4, c5, c6, c7⟩ := (H1.out.ext hx).at8 hlt
        obtain ⟨b2, o2, s, rfl, hs, d0, d1, d2, d3, d4, d5, d6, d7⟩ := (H2.out.ext hx).at8 hlt
        have HR := Lib.hid hr
        have HS := Lib.hid hs
        clear hr hs
        have hk0 : (0 : Int) ≤ (k : Int) := by omega
        have hk1 : (k : Int) < (n : Int) := by omega
        by_cases hq : r = s
        · subst hq
          have HT := Lib.hid (take_eq_succ HP.out HR.out HS.out)
          have hne := fun w => neq_com_no r w
          unfold Com.aggV at hne
          go_wp2_with fail
          go_quiet (fail)
          go_wp2_with fail
          exact ⟨⟨k + 1, by omega, by go_num, hx.drewN _, HT.out⟩, by simp [intOf]; omega⟩
        · have hne := fun w => neq_com_yes r s hq w
          have HN := Lib.hid (ne_at HR.out HS.out hq)
          unfold Com.aggV at hne
          clear hq
          go_wp2_with fail
          go_quiet (fail)
          go_wp2_with fail
          go_ret
          exact ⟨ret_bool (decide_eq_false HN.out).symm, hx.drewN _⟩
      · have hkn : k = n := by omega
        subst hkn
        have HQ := Lib.hid (eq_of_take L1.out L2.out HP.out)
        go_wp2_with fail
        go_ret
        exact ⟨ret_bool (decide_eq_true HQ.out).symm, hx⟩
  · have hb : ((n : Int) != (m : Int)) = true := by simp; omega
    have HN : Hid (¬ l1 = l2) := by
      show ¬ _
      intro h
      apply hnm
      rw [← L1.out, ← L2.out, h]
    go_enter Tryz.func82, Tryz.ntmps82
    go_wp2_with fail
    go_ret
    exact ⟨ret_bool (decide_eq_false HN.out).symm, Ext.refl _⟩
end Go.Proofs.YtagfedbdakmlgaaGreatDoor

/-! SameE -/
namespace Go.Proofs.YtagfedbdakmlgaaGreatDoor
set_option linter.unusedVariables false
set_option linter.unusedSimpArgs false
open Go.RowKit
theorem eql_span (a b a' b' : Int) (w : World) : (binOp .eql 57 (.agg #[.int .i64 a, .int .i64 b]) (.agg #[.int .i64 a', .int .i64 b'])).run Tryz.prog w = .ok (.bool (decide (a = a' ∧ b = b'))) w := by
  go_simp
  repeat' split
  all_goals simp_all
theorem ev_ne {x y : Ev} (h : ¬ (x.id = y.id ∧ (x.inn = y.inn ∧ x.out = y.out) ∧ x.region.toList = y.region.toList ∧ x.kind = y.kind ∧ x.speaker.toList = y.speaker.toList ∧ x.rows = y.rows)) : decide (x = y) = false :=
  decide_eq_false (by rintro rfl; exact h ⟨rfl, ⟨rfl, rfl⟩, rfl, rfl, rfl, rfl⟩)
theorem ev_eq {x y : Ev} (h1 : x.id = y.id) (h2 : x.inn = y.inn ∧ x.out = y.out) (h3 : x.region.toList = y.region.toList) (h4 : x.kind = y.kind) (h5 : x.speaker.toList = y.speaker.toList) : decide (x = y) = decide (x.rows = y.rows) := by
  obtain ⟨a1, a2, a3, a4, a5, a6, a7⟩ := x
  obtain ⟨b1, b2, b3, b4, b5, b6, b7⟩ := y
  rw [toList_inj] at h3 h5
  simp_all
set_option maxRecDepth 100000 in
set_option maxHeartbeats 4000000 in
theorem ESame_any (x y : Ev) (A : Option Addr) (n c : Nat) (B : Option Addr) (m d : Nat) (w : World) (h1 : EvAt w x A n c) (h2 : EvAt w y B m d) :
    Calls Tryz.prog 81 #[.agg (x.cells A n c), .agg (y.cells B m d)] w fun e w' => e = .returned (.bool (decide (x = y))) ∧ Ext w w' := by
  have hn24 : n * 24 ≤ 140737488355328 := h1.2.2
  have H1 := Lib.hid h1
  have H2 := Lib.hid h2
  clear h1 h2
  have hx := ((Ext.refl w).alloc (.cells (x.cells A n c) 66)).alloc (.cells (y.cells B m d) 66)
  have HX := Lib.hid hx
  clear hx
  unfold Ev.cells at HX ⊢
  by_cases h0 : x.id = y.id
  · have b0 : (x.id == y.id) = true := by simpa using h0
    have E0 := Lib.hid h0
    clear h0
    by_cases h1 : x.inn = y.inn ∧ x.out = y.out
    · have b1 := fun w => (eql_span x.inn x.out y.inn y.out w).trans (by rw [decide_eq_true h1])
      have E1 := Lib.hid h1
      clear h1
      by_cases h2 : x.region.toList = y.region.toList
      · have b2 : (x.region.toList == y.region.toList) = true := by simpa using h2
        have E2 := Lib.hid h2
        clear h2
        by_cases h3 : x.kind = y.kind
        · have b3 : (x.kind == y.kind) = true := by simpa using h3
          have E3 := Lib.hid h3
          clear h3
          by_cases h4 : x.speaker.toList = y.speaker.toList
          · have b4 : (x.speaker.toList == y.speaker.toList) = true := by simpa using h4
            have E4 := Lib.hid h4
            clear h4
            have HF : Hid (decide (x = y) = decide (x.rows = y.rows)) := ev_eq E0.out E1.out E2.out E3.out E4.out
            go_enter Tryz.func81, Tryz.ntmps81
            go_wp2_with fail
            refine (SameRows_any A n c B m d x.rows y.rows _ (H1.out.1.ext HX.out) (H2.out.1.ext HX.out) (by omega)).mono ?_
            rintro en w1 ⟨rfl, hx1⟩
            go_wp2_with fail
            go_ret
            exact ⟨ret_bool HF.out.symm, HX.out.trans hx1⟩
          · have b4 : (x.speaker.toList == y.speaker.toList) = false := by simpa using h4
            have HF : Hid (decide (x = y) = false) := ev_ne (fun h => h4 h.2.2.2.2.1)
            clear h4
            go_enter Tryz.func81, Tryz.ntmps81
            go_wp2_with fail
            go_ret
            exact ⟨ret_bool HF.out.symm, HX.out⟩
        · have b3 : (x.kind == y.kind) = false := by simpa using h3
          have HF : Hid (decide (x = y) = false) := ev_ne (fun h => h3 h.2.2.2.1)
          clear h3
          go_enter Tryz.func81, Tryz.ntmps81
          go_wp2_with fail
          go_ret
          exact ⟨ret_bool HF.out.symm, HX.out⟩
      · have b2 : (x.region.toList == y.region.toList) = false := by simpa using h2
        have HF : Hid (decide (x = y) = false) := ev_ne (fun h => h2 h.2.2.1)
        clear h2
        go_enter Tryz.func81, Tryz.ntmps81
        go_wp2_with fail
        go_ret
        exact ⟨ret_bool HF.out.symm, HX.out⟩
    · have b1 := fun w => (eql_span x.inn x.out y.inn y.out w).trans (by rw [decide_eq_false h1])
      have HF : Hid (decide (x = y) = false) := ev_ne (fun h => h1 h.2.1)
      clear h1
      go_enter Tryz.func81, Tryz.ntmps81
      go_wp2_with fail
      go_ret
      exact ⟨ret_bool HF.out.symm, HX.out⟩
  · have b0 : (x.id == y.id) = false := by simpa using h0
    have HF : Hid (decide (x = y) = false) := ev_ne (fun h => h0 h.1)
    clear h0
    go_enter Tryz.func81, Tryz.ntmps81
    go_wp2_with fail
    go_ret
    exact ⟨ret_bool HF.out.symm, HX.out⟩
set_option maxRecDepth 100000 in
set_option maxHeartbeats 4000000 in
theorem RESame_any (x y : Ev) (A : Option Addr) (n c : Nat) (B : Option Addr) (m d : Nat) (w : World) (h1 : EvAt w x A n c) (h2 : EvAt w y B m d) :
    Calls Tryz.prog 46 #[.agg (x.cells A n c), .agg (y.cells B m d)] w fun e w' => e = .returned (.bool (decide (x = y))) ∧ Ext w w' := by
  have hn24 : n * 24 ≤ 140737488355328 := h1.2.2
  have H1 := Lib.hid h1
  have H2 := Lib.hid h2
  clear h1 h2
  have hx := ((Ext.refl w).alloc (.cells (x.cells A n c) 66)).alloc (.cells (y.cells B m d) 66)
  have HX := Lib.hid hx
  clear hx
  unfold Ev.cells at HX ⊢
  by_cases h0 : x.id = y.id
  · have b0 : (x.id == y.id) = true := by simpa using h0
    have E0 := Lib.hid h0
    clear h0
    by_cases h1 : x.inn = y.inn ∧ x.out = y.out
    · have b1 := fun w => (eql_span x.inn x.out y.inn y.out w).trans (by rw [decide_eq_true h1])
      have E1 := Lib.hid h1
      clear h1
      by_cases h2 : x.region.toList = y.region.toList
      · have b2 : (x.region.toList == y.region.toList) = true := by simpa using h2
        have E2 := Lib.hid h2
        clear h2
        by_cases h3 : x.kind = y.kind
        · have b3 : (x.kind == y.kind) = true := by simpa using h3
          have E3 := Lib.hid h3
          clear h3
          by_cases h4 : x.speaker.toList = y.speaker.toList
          · have b4 : (x.speaker.toList == y.speaker.toList) = true := by simpa using h4
            have E4 := Lib.hid h4
            clear h4
            have HF : Hid (decide (x = y) = decide (x.rows = y.rows)) := ev_eq E0.out E1.out E2.out E3.out E4.out
            go_enter Tryz.func46, Tryz.ntmps46
            go_wp2_with fail
            refine (RSameRows_any A n c B m d x.rows y.rows _ (H1.out.1.ext HX.out) (H2.out.1.ext HX.out) (by omega)).mono ?_
            rintro en w1 ⟨rfl, hx1⟩
            go_wp2_with fail
            go_ret
            exact ⟨ret_bool HF.out.symm, HX.out.trans hx1⟩
          · have b4 : (x.speaker.toList == y.speaker.toList) = false := by simpa using h4
            have HF : Hid (decide (x = y) = false) := ev_ne (fun h => h4 h.2.2.2.2.1)
            clear h4
            go_enter Tryz.func46, Tryz.ntmps46
            go_wp2_with fail
            go_ret
            exact ⟨ret_bool HF.out.symm, HX.out⟩
        · have b3 : (x.kind == y.kind) = false := by simpa using h3
          have HF : Hid (decide (x = y) = false) := ev_ne (fun h => h3 h.2.2.2.1)
          clear h3
          go_enter Tryz.func46, Tryz.ntmps46
          go_wp2_with fail
          go_ret
          exact ⟨ret_bool HF.out.symm, HX.out⟩
      · have b2 : (x.region.toList == y.region.toList) = false := by simpa using h2
        have HF : Hid (decide (x = y) = false) := ev_ne (fun h => h2 h.2.2.1)
        clear h2
        go_enter Tryz.func46, Tryz.ntmps46
        go_wp2_with fail
        go_ret
        exact ⟨ret_bool HF.out.symm, HX.out⟩
    · have b1 := fun w => (eql_span x.inn x.out y.inn y.out w).trans (by rw [decide_eq_false h1])
      have HF : Hid (decide (x = y) = false) := ev_ne (fun h => h1 h.2.1)
      clear h1
      go_enter Tryz.func46, Tryz.ntmps46
      go_wp2_with fail
      go_ret
      exact ⟨ret_bool HF.out.symm, HX.out⟩
  · have b0 : (x.id == y.id) = false := by simpa using h0
    have HF : Hid (decide (x = y) = false) := ev_ne (fun h => h0 h.1)
    clear h0
    go_enter Tryz.func46, Tryz.ntmps46
    go_wp2_with fail
    go_ret
    exact ⟨ret_bool HF.out.symm, HX.out⟩
end Go.Proofs.YtagfedbdakmlgaaGreatDoor
