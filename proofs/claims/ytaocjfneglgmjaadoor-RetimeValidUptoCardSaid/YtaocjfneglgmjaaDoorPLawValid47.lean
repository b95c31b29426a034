/- The walk of the law RetimeValid. -/
import Derived.Test.YtaocjfneglgmjaaDoorPLawDrifts47
namespace Go.Proofs.YtaocjfneglgmjaaDoor
set_option linter.unusedVariables false
set_option linter.unusedSimpArgs false
open Go.RowKit

theorem ret_title (d : Doc) (b m : Int) : (d.ret b false m).rate = b := rfl
theorem wp_ix_dri {o : Oper} {a : Act} {w : World} {K : Act → World → Prop} {Q : Exit → Act → World → Prop} {s s' : Nat} {b off n c k : Nat} (ho : o.op = .indexAddr 37 (.tmp s) (.tmp s')) (hx : a.eval (.tmp s) = .slice (some ⟨b, off, none⟩) n c) (hy : a.eval (.tmp s') = .int .i64 k) (hk : k < n) (h : K (a.put o.dst (.pointer (some ⟨b, off + k * 3, none⟩))) w) : o.wp Tryd.prog a w K Q := by
  obtain ⟨dst, op, ty, pos, after, guard⟩ := o
  simp only at ho
  subst ho
  have fx : a.tmps[s]?.getD undef = .slice (some ⟨b, off, none⟩) n c := by simpa [Act.eval] using hx
  have fy : a.tmps[s']?.getD undef = .int .i64 k := by simpa [Act.eval] using hy
  clear hx hy
  go_simp
  exact h
set_option maxRecDepth 100000 in
set_option maxHeartbeats 16000000 in
theorem RetimeValid_any (d : Doc) (h : DocH) (b : Int) (fr : Bool) (w : World) (hE : Env w) (hat : DocAt w d h) (hi : DocIn d h) (b0 : 0 ≤ b) (b1 : b ≤ 255) :
    Calls Tryd.prog 8 #[.agg (d.cells h), .int .u8 b, .bool fr] w fun en w' => en = .returned (.bool true) ∧ Ext w w' := by
  have HX0 := Lib.hid ((Ext.refl w).alloc (.cells (d.cells h) 35))
  have HB0 := Lib.hid (Blk.new w 35 (d.cells h))
  have HE := Lib.hid hE
  have HR := Lib.hid (fun m w' (hx : Ext w w') => Retime_any d h b m false w' (hE.ext hx) (hat.ext hx) hi.fit hi.rn hi.en (by have := hi.cn; omega) b0 b1)
  have HS := Lib.hid (fun w => small47_any d h w)
  have HOl := Lib.hid hat.evs
  have HSm := Lib.hid hi.fit.evs
  have HFt := Lib.hid (fun m (he : d.retE b false m = 0) => ret_fit hi.fit he b0 b1)
  have HCl := Lib.hid (show (liveN d.coms ≤ 1000000) from by have h1 := liveN_le d.coms; have h2 := hat.coms.len; have h3 := hi.cn; omega)
  have HRl := Lib.hid (show (d.regs.length ≤ 9223372036854775807) from by have h2 := hat.regs.len; have h3 := hi.rn; omega)
  have HEn := Lib.hid hi.en
  have hlen0 := hat.evs.len
  clear hE hat hi
  obtain ⟨ra0, rn0, rc0, ea0, en0, ec0, ca0, cn0, cc0⟩ := h
  unfold Doc.cells at *
  dsimp only at *
  go_enter Tryd.func8, Tryd.ntmps8
  go_wp2_with fail
  refine (awake47_any _ (HE.out.ext HX0.out)).mono ?_
  rintro en w1 ⟨rfl, hx1⟩
  have HX1 := Lib.hid (HX0.out.trans hx1)
  have HB1 := Lib.hid (HB0.out.ext hx1)
  clear hx1 HX0 HB0
  go_wp2_with (refine wpList_loadB rfl 35 (.tmp 3) rfl w.heap.size 35 _ _ (by exact rfl) (by exact HB1.out) Tryd.underlying35 rfl (by exact size_docI) ?_)
  refine (HS.out _).mono ?_
  rintro en w2 ⟨rfl, hx2⟩
  have HX2 := Lib.hid (HX1.out.trans hx2)
  have HB2 := Lib.hid (HB1.out.ext hx2)
  clear hx2 HX1 HB1 HS
  cases hsm : decide (en0 ≤ 60 ∧ rn0 ≤ 40 ∧ cn0 ≤ 100)
  · go_wp2_with fail
    go_ret
    exact ⟨rfl, HX2.out⟩
  clear hsm
  cases fr
  case false =>
    go_wp2_with (refine wpList_loadB rfl 35 (.tmp 3) rfl w.heap.size 35 _ _ (by exact rfl) (by exact HB2.out) Tryd.underlying35 rfl (by exact size_docI) ?_)
    refine (HR.out 1 _ HX2.out).mono ?_
    rintro en w3 ⟨⟨ra, rn, rc, ea, nn, ec, ca, cn, cc⟩, A, n, c, rfl, hat3, hdr3, hnc3, hx3⟩
    have HX3 := Lib.hid (HX2.out.trans hx3)
    have HB3 := Lib.hid (HB2.out.ext hx3)
    clear hx3 HX2 HB2
    by_cases he : d.retE b false 1 = 0
    case neg =>
      have hne : (d.retE b false 1 != 0) = true := by simpa using he
      have hD : d.retD b false 1 = Doc.zero := by unfold Doc.retD; rw [if_neg he]
      have hL : d.retL b false 1 = [] := by unfold Doc.retL; rw [if_neg he]
      rw [hD] at hat3 ⊢
      rw [hL] at hdr3
      obtain rfl : nn = 0 := hat3.evs.len.symm
      obtain rfl : n = 0 := hdr3.len.symm
      clear hat3 hdr3 hD hL he
      unfold Doc.cells
      dsimp only
      generalize Doc.zero = z
      have hv := fun o => (Blk.new w3 35 #[.string z.title, .string z.lang, .int .u8 z.rate, .bool z.drop, .int .i64 z.last, .slice ra rn rc, .slice ea 0 ec, .slice ca cn cc]).cell o
      go_wp2_with fail
      go_ret
      exact ⟨rfl, HX3.out.alloc _⟩
    have hD : d.retD b false 1 = d.ret b false 1 := by unfold Doc.retD; rw [if_pos he]
    have hL : d.retL b false 1 = retDris d.rate b 1 d.evs := by unfold Doc.retL; rw [if_pos he]
    rw [hD] at hat3 ⊢
    rw [hL] at hdr3
    rw [he]
    have hn1 : d.evs.length = n := by have := hdr3.len; simpa [retDris] using this
    have hn2 : d.evs.length = nn := (retEvs_len d.rate b 1 d.evs).symm.trans hat3.evs.len
    obtain rfl : nn = n := by omega
    obtain rfl : en0 = nn := by omega
    have HDr := Lib.hid hdr3
    have HEv := Lib.hid hat3.evs
    have HCk : Hid (∀ w', Ext w3 w' → Calls Tryd.prog 17 #[.agg #[.string (d.ret b false 1).title, .string (d.ret b false 1).lang, .int .u8 b, .bool (d.ret b false 1).drop, .int .i64 (d.ret b false 1).last, .slice ra rn rc, .slice ea en0 ec, .slice ca cn cc]] w' fun e w'' => e = .returned (.int .i64 0) ∧ Ext w' w'') := Lib.hid fun w' hx => by
      have h1 := DCheck_any (d.ret b false 1) ⟨ra, rn, rc, ea, en0, ec, ca, cn, cc⟩ w' (HE.out.ext (HX3.out.trans hx)) (hat3.ext hx) (HFt.out 1 he) (by have h2 := hat3.regs.len; have h3 := HRl.out; have h4 : (d.ret b false 1).regs = d.regs := rfl; rw [h4] at h2; dsimp only at h2 ⊢; omega) HEn.out (by have h2 := hat3.coms.len; have h3 := HCl.out; have h4 : (d.ret b false 1).coms.length = liveN d.coms := retComs_len _ _ _; rw [h4] at h2; dsimp only at h2 ⊢; omega)
      rw [ret_ok he] at h1
      unfold Doc.cells at h1
      dsimp only at h1
      rw [ret_title] at h1
      exact h1
    have HSy : Hid (EvsSmall (d.ret b false 1).evs) := Lib.hid (HFt.out 1 he).evs
    clear hn1 hn2 hlen0 hD hL he hat3 hdr3 HR HFt HCl HRl
    unfold Doc.cells
    dsimp only
    rw [ret_title]
    have HV := Lib.hid (Blk.new w3 35 #[.string (d.ret b false 1).title, .string (d.ret b false 1).lang, .int .u8 b, .bool (d.ret b false 1).drop, .int .i64 (d.ret b false 1).last, .slice ra rn rc, .slice ea en0 ec, .slice ca cn cc])
    have HX4 := Lib.hid ((Ext.refl w3).alloc (.cells #[.string (d.ret b false 1).title, .string (d.ret b false 1).lang, .int .u8 b, .bool (d.ret b false 1).drop, .int .i64 (d.ret b false 1).last, .slice ra rn rc, .slice ea en0 ec, .slice ca cn cc] 35))
    go_wp2_with (refine wpList_loadB rfl 35 (.tmp 8) rfl w3.heap.size 35 _ _ (by exact rfl) (by exact HV.out) Tryd.underlying35 rfl (by exact size_docI) ?_)
    refine (HCk.out _ HX4.out).mono ?_
    rintro en w5 ⟨rfl, hx5⟩
    have HX5 := Lib.hid ((HX3.out.trans HX4.out).trans hx5)
    have HV5 := Lib.hid (HV.out.ext hx5)
    have HB5 := Lib.hid ((HB3.out.ext HX4.out).ext hx5)
    have HX35 := Lib.hid (HX4.out.trans hx5)
    have hv := fun o => HV5.out.cell o
    have hb := fun o => HB5.out.cell o
    clear hx5 HX4 HV HCk
    go_wp2_with fail
    clear hv hb
    have hen : en0 ≤ 1000000 := HEn.out
    go_loopw [67] (fun i wr => DrRel w5 en0 i wr) (fun i _ => en0 - (intOf i).toNat)
    case atStart => exact ⟨0, Nat.zero_le _, rfl, Ext.refl _⟩
    case round =>
      obtain ⟨k, hk, rfl, hx⟩ := hrel
      have HXr := Lib.hid hx
      by_cases hlt : k < en0
      · obtain ⟨bb, off, z, rfl, hz, c0, c1, c2⟩ := (HDr.out.ext (HX35.out.trans hx)).at3 hlt
        obtain ⟨be, oe, y, hea, hy, A', n', c', hCy, hYat⟩ := (HEv.out.ext (HX35.out.trans hx)).at_ hlt
        subst hea
        obtain ⟨bo, oo, x, hea, hxx, A2, n2, c2', hCx, hXat⟩ := (HOl.out.ext (HX5.out.trans hx)).at_ hlt
        subst hea
        obtain ⟨x', hx', hyx⟩ := retEvs_at hy
        rw [hxx] at hx'
        cases hx'
        have hzv : z = retDri d.rate b 1 k x := by
          unfold retDris at hz
          rw [List.getElem?_mapIdx, hxx] at hz
          exact (Option.some.inj hz).symm
        have hzi : z.id = (k : Int) + 1 := by rw [hzv]; rfl
        have hyi : y.id = (k : Int) + 1 := by rw [hyx]; rfl
        have hyt : y.text = x.text := by rw [hyx]; rfl
        rw [hzi] at c0
        have HPy : Hid (∀ w', Ext wr w' → Calls Tryd.prog 18 #[.agg #[.int .i64 ((k : Int) + 1), .int .i64 y.inn, .int .i64 y.out, .string y.region, .int .u8 y.kind, .string y.speaker, .slice A' n' c']] w' fun e w'' => e = .returned (.string ⟨x.text.toArray⟩) ∧ Ext w' w'') := Lib.hid fun w' hw => by
          have h1 := EPlain_any y A' n' c' w' (hYat.ext hw) (HSy.out y (List.mem_of_getElem? hy)).2
          rw [hyt] at h1
          unfold Ev.cells at h1
          rw [hyi] at h1
          exact h1
        have HPx : Hid (∀ w', Ext wr w' → Calls Tryd.prog 18 #[.agg #[.int .i64 x.id, .int .i64 x.inn, .int .i64 x.out, .string x.region, .int .u8 x.kind, .string x.speaker, .slice A2 n2 c2']] w' fun e w'' => e = .returned (.string ⟨x.text.toArray⟩) ∧ Ext w' w'') := Lib.hid fun w' hw => by
          have h1 := EPlain_any x A2 n2 c2' w' (hXat.ext hw) (HSm.out x (List.mem_of_getElem? hxx)).2
          unfold Ev.cells at h1
          exact h1
        have HDc := Lib.hid c0
        have HCx := Lib.hid hCx
        have e0 : wr.cell? ⟨be, oe + k * 7, none⟩ = some (.int .i64 ((k : Int) + 1)) := by rw [← hyi]; simpa using hCy 0 _ rfl
        have e1 : wr.cell? ⟨be, oe + k * 7 + 1, none⟩ = some (.int .i64 y.inn) := hCy 1 _ rfl
        have e2 : wr.cell? ⟨be, oe + k * 7 + 2, none⟩ = some (.int .i64 y.out) := hCy 2 _ rfl
        have e3 : wr.cell? ⟨be, oe + k * 7 + 3, none⟩ = some (.string y.region) := hCy 3 _ rfl
        have e4 : wr.cell? ⟨be, oe + k * 7 + 4, none⟩ = some (.int .u8 y.kind) := hCy 4 _ rfl
        have e5 : wr.cell? ⟨be, oe + k * 7 + 5, none⟩ = some (.string y.speaker) := hCy 5 _ rfl
        have e6 : wr.cell? ⟨be, oe + k * 7 + 6, none⟩ = some (.slice A' n' c') := hCy 6 _ rfl
        clear hzv hz hy hyx hyi hyt hzi hxx hCy hCx hYat hXat c0 c1 c2
        have HBc := Lib.hid (Blk.new wr 46 #[.int .i64 ((k : Int) + 1), .int .i64 y.inn, .int .i64 y.out, .string y.region, .int .u8 y.kind, .string y.speaker, .slice A' n' c'])
        have HXc := Lib.hid ((Ext.refl wr).alloc (.cells #[.int .i64 ((k : Int) + 1), .int .i64 y.inn, .int .i64 y.out, .string y.region, .int .u8 y.kind, .string y.speaker, .slice A' n' c'] 46))
        have HV6 := Lib.hid ((HV5.out.ext hx).ext HXc.out)
        have HB6 := Lib.hid ((HB5.out.ext hx).ext HXc.out)
        clear hx
        go_wp2_with fail
        clear e0 e1 e2 e3 e4 e5 e6
        refine wp_region_vals [.agg #[.int .i64 ((k : Int) + 1), .int .i64 y.inn, .int .i64 y.out, .string y.region, .int .u8 y.kind, .string y.speaker, .slice A' n' c'], .string ⟨x.text.toArray⟩, .pointer (some ⟨w.heap.size, 6, none⟩), .slice (some ⟨bo, oo, none⟩) en0 ec0, .int .i64 (k : Int), .pointer (some ⟨bo, oo + k * 7, none⟩), .agg #[.int .i64 x.id, .int .i64 x.inn, .int .i64 x.out, .string x.region, .int .u8 x.kind, .string x.speaker, .slice A2 n2 c2'], .string ⟨x.text.toArray⟩, .bool false, .bool false, .pointer (some ⟨wr.heap.size, 0, none⟩), .int .i64 ((k : Int) + 1), .int .i64 (k : Int), .int .i64 ((k : Int) + 1), .bool false, .bool false, .bool false, .slice (some ⟨bb, off, none⟩) en0 c, .int .i64 (k : Int), .pointer (some ⟨bb, off + k * 3, none⟩), .pointer (some ⟨bb, off + k * 3, none⟩), .int .i64 ((k : Int) + 1), .pointer (some ⟨wr.heap.size, 0, none⟩), .int .i64 ((k : Int) + 1), .bool false, .bool false] [(72, .agg #[.int .i64 ((k : Int) + 1), .int .i64 y.inn, .int .i64 y.out, .string y.region, .int .u8 y.kind, .string y.speaker, .slice A' n' c']), (73, .string ⟨x.text.toArray⟩), (74, .pointer (some ⟨w.heap.size, 6, none⟩)), (75, .slice (some ⟨bo, oo, none⟩) en0 ec0), (76, .int .i64 (k : Int)), (77, .pointer (some ⟨bo, oo + k * 7, none⟩)), (78, .agg #[.int .i64 x.id, .int .i64 x.inn, .int .i64 x.out, .string x.region, .int .u8 x.kind, .string x.speaker, .slice A2 n2 c2']), (79, .string ⟨x.text.toArray⟩), (80, .bool false), (81, .bool false), (82, .pointer (some ⟨wr.heap.size, 0, none⟩)), (83, .int .i64 ((k : Int) + 1)), (84, .int .i64 (k : Int)), (85, .int .i64 ((k : Int) + 1)), (86, .bool false), (87, .bool false), (88, .bool false), (89, .slice (some ⟨bb, off, none⟩) en0 c), (90, .int .i64 (k : Int)), (91, .pointer (some ⟨bb, off + k * 3, none⟩)), (92, .pointer (some ⟨bb, off + k * 3, none⟩)), (93, .int .i64 ((k : Int) + 1)), (94, .pointer (some ⟨wr.heap.size, 0, none⟩)), (95, .int .i64 ((k : Int) + 1)), (96, .bool false), (97, .bool false)] (by kernel_rfl) (by kernel_rfl) (by kernel_rfl) rfl rfl ?_ ?_
        · intro i o ho a w' K' hx hn hd hk
          match i, ho with
          | 0, ho =>
            simp only [List.getElem?_toArray, List.getElem?_cons_zero, List.getElem?_cons_succ, Option.some.injEq] at ho
            subst ho
            refine want_none rfl ?_
            exact wp_loadB 46 (.tmp 12) rfl _ 46 _ _ ((hn 12 rfl).trans (show _ = Value.pointer (some ⟨wr.heap.size, 0, none⟩) from rfl)) (HBc.out.ext hx) Tryd.underlying46 rfl (by exact size_evt) (hk _ rfl w' (Ext.refl _))
          | 1, ho =>
            simp only [List.getElem?_toArray, List.getElem?_cons_zero, List.getElem?_cons_succ, Option.some.injEq] at ho
            subst ho
            refine want_none rfl ?_
            exact wp_call1s rfl (eval_of (hd 0 72 (.agg #[.int .i64 ((k : Int) + 1), .int .i64 y.inn, .int .i64 y.out, .string y.region, .int .u8 y.kind, .string y.speaker, .slice A' n' c']) rfl rfl rfl)) Tryd.call18 (HPy.out w' (HXc.out.trans hx)) (hk _ rfl)
          | 2, ho =>
            simp only [List.getElem?_toArray, List.getElem?_cons_zero, List.getElem?_cons_succ, Option.some.injEq] at ho
            subst ho
            refine want_none rfl ?_
            have ex3 := ((hn 3 rfl).trans (show _ = Value.pointer (some ⟨w.heap.size, 0, none⟩) from rfl))
            simp only [Act.eval] at ex3
            have HK := Lib.hid (hk (.pointer (some ⟨w.heap.size, 6, none⟩)) rfl w' (Ext.refl _))
            clear hx hn hd hk
            go_simp
            exact HK.out
          | 3, ho =>
            simp only [List.getElem?_toArray, List.getElem?_cons_zero, List.getElem?_cons_succ, Option.some.injEq] at ho
            subst ho
            refine want_none rfl ?_
            have ex74 := (eval_of (hd 2 74 (.pointer (some ⟨w.heap.size, 6, none⟩)) rfl rfl rfl))
            have hcl : w'.cell? ⟨w.heap.size, 6, none⟩ = some (.slice (some ⟨bo, oo, none⟩) en0 ec0) := (HB6.out.ext hx).cell 6
            simp only [Act.eval] at ex74
            have HK := Lib.hid (hk (.slice (some ⟨bo, oo, none⟩) en0 ec0) rfl w' (Ext.refl _))
            clear hx hn hd hk
            go_simp
            exact HK.out
          | 4, ho =>
            simp only [List.getElem?_toArray, List.getElem?_cons_zero, List.getElem?_cons_succ, Option.some.injEq] at ho
            subst ho
            refine want_none rfl ?_
            exact wp_move _ _ rfl ((hn 11 rfl).trans (show _ = Value.int .i64 (k : Int) from rfl)) (hk _ rfl w' (Ext.refl _))
          | 5, ho =>
            simp only [List.getElem?_toArray, List.getElem?_cons_zero, List.getElem?_cons_succ, Option.some.injEq] at ho
            subst ho
            refine want_none rfl ?_
            exact wp_ix_ev rfl (eval_of (hd 3 75 (.slice (some ⟨bo, oo, none⟩) en0 ec0) rfl rfl rfl)) (eval_of (hd 4 76 (.int .i64 (k : Int)) rfl rfl rfl)) (by omega) (hk _ rfl w' (Ext.refl _))
          | 6, ho =>
            simp only [List.getElem?_toArray, List.getElem?_cons_zero, List.getElem?_cons_succ, Option.some.injEq] at ho
            subst ho
            refine want_none rfl ?_
            exact wp_load_ev rfl bo _ x A2 n2 c2' (eval_of (hd 5 77 (.pointer (some ⟨bo, oo + k * 7, none⟩)) rfl rfl rfl)) (fun j u hu => (HXc.out.trans hx).cell (HCx.out j u hu)) (hk _ rfl w' (Ext.refl _))
          | 7, ho =>
            simp only [List.getElem?_toArray, List.getElem?_cons_zero, List.getElem?_cons_succ, Option.some.injEq] at ho
            subst ho
            refine want_none rfl ?_
            exact wp_call1s rfl (eval_of (hd 6 78 (.agg #[.int .i64 x.id, .int .i64 x.inn, .int .i64 x.out, .string x.region, .int .u8 x.kind, .string x.speaker, .slice A2 n2 c2']) rfl rfl rfl)) Tryd.call18 (HPx.out w' (HXc.out.trans hx)) (hk _ rfl)
          | 8, ho =>
            simp only [List.getElem?_toArray, List.getElem?_cons_zero, List.getElem?_cons_succ, Option.some.injEq] at ho
            subst ho
            refine want_none rfl ?_
            exact wp_bin rfl (eval_of (hd 1 73 (.string ⟨x.text.toArray⟩) rfl rfl rfl)) (eval_of (hd 7 79 (.string ⟨x.text.toArray⟩) rfl rfl rfl)) (by first | (go_simp; done) | (go_simp; simp; done) | simp) (hk _ rfl w' (Ext.refl _))
          | 9, ho =>
            simp only [List.getElem?_toArray, List.getElem?_cons_zero, List.getElem?_cons_succ, Option.some.injEq] at ho
            subst ho
            refine want_none rfl ?_
            exact wp_move _ _ rfl (eval_of (hd 8 80 (.bool false) rfl rfl rfl)) (hk _ rfl w' (Ext.refl _))
          | 10, ho =>
            simp only [List.getElem?_toArray, List.getElem?_cons_zero, List.getElem?_cons_succ, Option.some.injEq] at ho
            subst ho
            refine want_yes rfl rfl (hd 9 81 (.bool false) rfl rfl rfl) rfl ?_
            have ex12 := ((hn 12 rfl).trans (show _ = Value.pointer (some ⟨wr.heap.size, 0, none⟩) from rfl))
            simp only [Act.eval] at ex12
            have HK := Lib.hid (hk (.pointer (some ⟨wr.heap.size, 0, none⟩)) rfl w' (Ext.refl _))
            clear hx hn hd hk
            go_simp
            exact HK.out
          | 11, ho =>
            simp only [List.getElem?_toArray, List.getElem?_cons_zero, List.getElem?_cons_succ, Option.some.injEq] at ho
            subst ho
            refine want_yes rfl rfl (hd 9 81 (.bool false) rfl rfl rfl) rfl ?_
            have ex82 := (eval_of (hd 10 82 (.pointer (some ⟨wr.heap.size, 0, none⟩)) rfl rfl rfl))
            have hcl : w'.cell? ⟨wr.heap.size, 0, none⟩ = some (.int .i64 ((k : Int) + 1)) := (HBc.out.ext hx).cell 0
            simp only [Act.eval] at ex82
            have HK := Lib.hid (hk (.int .i64 ((k : Int) + 1)) rfl w' (Ext.refl _))
            clear hx hn hd hk
            go_simp
            exact HK.out
          | 12, ho =>
            simp only [List.getElem?_toArray, List.getElem?_cons_zero, List.getElem?_cons_succ, Option.some.injEq] at ho
            subst ho
            refine want_yes rfl rfl (hd 9 81 (.bool false) rfl rfl rfl) rfl ?_
            exact wp_move _ _ rfl ((hn 11 rfl).trans (show _ = Value.int .i64 (k : Int) from rfl)) (hk _ rfl w' (Ext.refl _))
          | 13, ho =>
            simp only [List.getElem?_toArray, List.getElem?_cons_zero, List.getElem?_cons_succ, Option.some.injEq] at ho
            subst ho
            refine want_yes rfl rfl (hd 9 81 (.bool false) rfl rfl rfl) rfl ?_
            exact wp_bin rfl (eval_of (hd 12 84 (.int .i64 (k : Int)) rfl rfl rfl)) rfl (by first | (go_simp; done) | (go_simp; rw [wrap_i64 (by omega) (by omega)]; done) | (go_simp; exact wrap_i64 (by omega) (by omega))) (hk _ rfl w' (Ext.refl _))
          | 14, ho =>
            simp only [List.getElem?_toArray, List.getElem?_cons_zero, List.getElem?_cons_succ, Option.some.injEq] at ho
            subst ho
            refine want_yes rfl rfl (hd 9 81 (.bool false) rfl rfl rfl) rfl ?_
            exact wp_bin rfl (eval_of (hd 11 83 (.int .i64 ((k : Int) + 1)) rfl rfl rfl)) (eval_of (hd 13 85 (.int .i64 ((k : Int) + 1)) rfl rfl rfl)) (by first | (go_simp; done) | (go_simp; simp; done) | simp) (hk _ rfl w' (Ext.refl _))
          | 15, ho =>
            simp only [List.getElem?_toArray, List.getElem?_cons_zero, List.getElem?_cons_succ, Option.some.injEq] at ho
            subst ho
            refine want_none rfl ?_
            exact wp_pick _ _ _ false _ rfl (eval_of (hd 9 81 (.bool false) rfl rfl rfl)) (by exact (eval_of (hd 14 86 (.bool false) rfl rfl rfl))) (hk _ rfl w' (Ext.refl _))
          | 16, ho =>
            simp only [List.getElem?_toArray, List.getElem?_cons_zero, List.getElem?_cons_succ, Option.some.injEq] at ho
            subst ho
            refine want_none rfl ?_
            exact wp_move _ _ rfl (eval_of (hd 15 87 (.bool false) rfl rfl rfl)) (hk _ rfl w' (Ext.refl _))
          | 17, ho =>
            simp only [List.getElem?_toArray, List.getElem?_cons_zero, List.getElem?_cons_succ, Option.some.injEq] at ho
            subst ho
            refine want_yes rfl rfl (hd 16 88 (.bool false) rfl rfl rfl) rfl ?_
            exact wp_move _ _ rfl ((hn 9 rfl).trans (show _ = Value.slice (some ⟨bb, off, none⟩) en0 c from rfl)) (hk _ rfl w' (Ext.refl _))
          | 18, ho =>
            simp only [List.getElem?_toArray, List.getElem?_cons_zero, List.getElem?_cons_succ, Option.some.injEq] at ho
            subst ho
            refine want_yes rfl rfl (hd 16 88 (.bool false) rfl rfl rfl) rfl ?_
            exact wp_move _ _ rfl ((hn 11 rfl).trans (show _ = Value.int .i64 (k : Int) from rfl)) (hk _ rfl w' (Ext.refl _))
          | 19, ho =>
            simp only [List.getElem?_toArray, List.getElem?_cons_zero, List.getElem?_cons_succ, Option.some.injEq] at ho
            subst ho
            refine want_yes rfl rfl (hd 16 88 (.bool false) rfl rfl rfl) rfl ?_
            exact wp_ix_dri rfl (eval_of (hd 17 89 (.slice (some ⟨bb, off, none⟩) en0 c) rfl rfl rfl)) (eval_of (hd 18 90 (.int .i64 (k : Int)) rfl rfl rfl)) (by omega) (hk _ rfl w' (Ext.refl _))
          | 20, ho =>
            simp only [List.getElem?_toArray, List.getElem?_cons_zero, List.getElem?_cons_succ, Option.some.injEq] at ho
            subst ho
            refine want_yes rfl rfl (hd 16 88 (.bool false) rfl rfl rfl) rfl ?_
            have ex91 := (eval_of (hd 19 91 (.pointer (some ⟨bb, off + k * 3, none⟩)) rfl rfl rfl))
            simp only [Act.eval] at ex91
            have HK := Lib.hid (hk (.pointer (some ⟨bb, off + k * 3, none⟩)) rfl w' (Ext.refl _))
            clear hx hn hd hk
            go_simp
            exact HK.out
          | 21, ho =>
            simp only [List.getElem?_toArray, List.getElem?_cons_zero, List.getElem?_cons_succ, Option.some.injEq] at ho
            subst ho
            refine want_yes rfl rfl (hd 16 88 (.bool false) rfl rfl rfl) rfl ?_
            have ex92 := (eval_of (hd 20 92 (.pointer (some ⟨bb, off + k * 3, none⟩)) rfl rfl rfl))
            have hcl : w'.cell? ⟨bb, off + k * 3, none⟩ = some (.int .i64 ((k : Int) + 1)) := (HXc.out.trans hx).cell HDc.out
            simp only [Act.eval] at ex92
            have HK := Lib.hid (hk (.int .i64 ((k : Int) + 1)) rfl w' (Ext.refl _))
            clear hx hn hd hk
            go_simp
            exact HK.out
          | 22, ho =>
            simp only [List.getElem?_toArray, List.getElem?_cons_zero, List.getElem?_cons_succ, Option.some.injEq] at ho
            subst ho
            refine want_yes rfl rfl (hd 16 88 (.bool false) rfl rfl rfl) rfl ?_
            have ex12 := ((hn 12 rfl).trans (show _ = Value.pointer (some ⟨wr.heap.size, 0, none⟩) from rfl))
            simp only [Act.eval] at ex12
            have HK := Lib.hid (hk (.pointer (some ⟨wr.heap.size, 0, none⟩)) rfl w' (Ext.refl _))
            clear hx hn hd hk
            go_simp
            exact HK.out
          | 23, ho =>
            simp only [List.getElem?_toArray, List.getElem?_cons_zero, List.getElem?_cons_succ, Option.some.injEq] at ho
            subst ho
            refine want_yes rfl rfl (hd 16 88 (.bool false) rfl rfl rfl) rfl ?_
            have ex94 := (eval_of (hd 22 94 (.pointer (some ⟨wr.heap.size, 0, none⟩)) rfl rfl rfl))
            have hcl : w'.cell? ⟨wr.heap.size, 0, none⟩ = some (.int .i64 ((k : Int) + 1)) := (HBc.out.ext hx).cell 0
            simp only [Act.eval] at ex94
            have HK := Lib.hid (hk (.int .i64 ((k : Int) + 1)) rfl w' (Ext.refl _))
            clear hx hn hd hk
            go_simp
            exact HK.out
          | 24, ho =>
            simp only [List.getElem?_toArray, List.getElem?_cons_zero, List.getElem?_cons_succ, Option.some.injEq] at ho
            subst ho
            refine want_yes rfl rfl (hd 16 88 (.bool false) rfl rfl rfl) rfl ?_
            exact wp_bin rfl (eval_of (hd 21 93 (.int .i64 ((k : Int) + 1)) rfl rfl rfl)) (eval_of (hd 23 95 (.int .i64 ((k : Int) + 1)) rfl rfl rfl)) (by first | (go_simp; done) | (go_simp; simp; done) | simp) (hk _ rfl w' (Ext.refl _))
          | 25, ho =>
            simp only [List.getElem?_toArray, List.getElem?_cons_zero, List.getElem?_cons_succ, Option.some.injEq] at ho
            subst ho
            refine want_none rfl ?_
            exact wp_pick _ _ _ false _ rfl (eval_of (hd 16 88 (.bool false) rfl rfl rfl)) (by exact (eval_of (hd 24 96 (.bool false) rfl rfl rfl))) (hk _ rfl w' (Ext.refl _))
          | i + 26, ho => simp at ho
        intro w9 hx9
        simp only [Act.put, List.foldl_cons, List.foldl_nil, List.setIfInBounds_toArray, List.set_cons_zero, List.set_cons_succ]
        have HX9 := Lib.hid ((HXr.out.trans HXc.out).trans hx9)
        clear hx9
        go_wp2_with fail
        exact ⟨⟨k + 1, by omega, by go_num, HX9.out⟩, by simp [intOf]; omega⟩
      · have hkn : k = en0 := by omega
        subst hkn
        go_wp2_with fail
        go_ret
        exact ⟨rfl, HX5.out.trans hx⟩
  case true =>
    go_wp2_with (refine wpList_loadB rfl 35 (.tmp 3) rfl w.heap.size 35 _ _ (by exact rfl) (by exact HB2.out) Tryd.underlying35 rfl (by exact size_docI) ?_)
    refine (HR.out 2 _ HX2.out).mono ?_
    rintro en w3 ⟨⟨ra, rn, rc, ea, nn, ec, ca, cn, cc⟩, A, n, c, rfl, hat3, hdr3, hnc3, hx3⟩
    have HX3 := Lib.hid (HX2.out.trans hx3)
    have HB3 := Lib.hid (HB2.out.ext hx3)
    clear hx3 HX2 HB2
    by_cases he : d.retE b false 2 = 0
    case neg =>
      have hne : (d.retE b false 2 != 0) = true := by simpa using he
      have hD : d.retD b false 2 = Doc.zero := by unfold Doc.retD; rw [if_neg he]
      have hL : d.retL b false 2 = [] := by unfold Doc.retL; rw [if_neg he]
      rw [hD] at hat3 ⊢
      rw [hL] at hdr3
      obtain rfl : nn = 0 := hat3.evs.len.symm
      obtain rfl : n = 0 := hdr3.len.symm
      clear hat3 hdr3 hD hL he
      unfold Doc.cells
      dsimp only
      generalize Doc.zero = z
      have hv := fun o => (Blk.new w3 35 #[.string z.title, .string z.lang, .int .u8 z.rate, .bool z.drop, .int .i64 z.last, .slice ra rn rc, .slice ea 0 ec, .slice ca cn cc]).cell o
      go_wp2_with fail
      go_ret
      exact ⟨rfl, HX3.out.alloc _⟩
    have hD : d.retD b false 2 = d.ret b false 2 := by unfold Doc.retD; rw [if_pos he]
    have hL : d.retL b false 2 = retDris d.rate b 2 d.evs := by unfold Doc.retL; rw [if_pos he]
    rw [hD] at hat3 ⊢
    rw [hL] at hdr3
    rw [he]
    have hn1 : d.evs.length = n := by have := hdr3.len; simpa [retDris] using this
    have hn2 : d.evs.length = nn := (retEvs_len d.rate b 2 d.evs).symm.trans hat3.evs.len
    obtain rfl : nn = n := by omega
    obtain rfl : en0 = nn := by omega
    have HDr := Lib.hid hdr3
    have HEv := Lib.hid hat3.evs
    have HCk : Hid (∀ w', Ext w3 w' → Calls Tryd.prog 17 #[.agg #[.string (d.ret b false 2).title, .string (d.ret b false 2).lang, .int .u8 b, .bool (d.ret b false 2).drop, .int .i64 (d.ret b false 2).last, .slice ra rn rc, .slice ea en0 ec, .slice ca cn cc]] w' fun e w'' => e = .returned (.int .i64 0) ∧ Ext w' w'') := Lib.hid fun w' hx => by
      have h1 := DCheck_any (d.ret b false 2) ⟨ra, rn, rc, ea, en0, ec, ca, cn, cc⟩ w' (HE.out.ext (HX3.out.trans hx)) (hat3.ext hx) (HFt.out 2 he) (by have h2 := hat3.regs.len; have h3 := HRl.out; have h4 : (d.ret b false 2).regs = d.regs := rfl; rw [h4] at h2; dsimp only at h2 ⊢; omega) HEn.out (by have h2 := hat3.coms.len; have h3 := HCl.out; have h4 : (d.ret b false 2).coms.length = liveN d.coms := retComs_len _ _ _; rw [h4] at h2; dsimp only at h2 ⊢; omega)
      rw [ret_ok he] at h1
      unfold Doc.cells at h1
      dsimp only at h1
      rw [ret_title] at h1
      exact h1
    have HSy : Hid (EvsSmall (d.ret b false 2).evs) := Lib.hid (HFt.out 2 he).evs
    clear hn1 hn2 hlen0 hD hL he hat3 hdr3 HR HFt HCl HRl
    unfold Doc.cells
    dsimp only
    rw [ret_title]
    have HV := Lib.hid (Blk.new w3 35 #[.string (d.ret b false 2).title, .string (d.ret b false 2).lang, .int .u8 b, .bool (d.ret b false 2).drop, .int .i64 (d.ret b false 2).last, .slice ra rn rc, .slice ea en0 ec, .slice ca cn cc])
    have HX4 := Lib.hid ((Ext.refl w3).alloc (.cells #[.string (d.ret b false 2).title, .string (d.ret b false 2).lang, .int .u8 b, .bool (d.ret b false 2).drop, .int .i64 (d.ret b false 2).last, .slice ra rn rc, .slice ea en0 ec, .slice ca cn cc] 35))
    go_wp2_with (refine wpList_loadB rfl 35 (.tmp 8) rfl w3.heap.size 35 _ _ (by exact rfl) (by exact HV.out) Tryd.underlying35 rfl (by exact size_docI) ?_)
    refine (HCk.out _ HX4.out).mono ?_
    rintro en w5 ⟨rfl, hx5⟩
    have HX5 := Lib.hid ((HX3.out.trans HX4.out).trans hx5)
    have HV5 := Lib.hid (HV.out.ext hx5)
    have HB5 := Lib.hid ((HB3.out.ext HX4.out).ext hx5)
    have HX35 := Lib.hid (HX4.out.trans hx5)
    have hv := fun o => HV5.out.cell o
    have hb := fun o => HB5.out.cell o
    clear hx5 HX4 HV HCk
    go_wp2_with fail
    clear hv hb
    have hen : en0 ≤ 1000000 := HEn.out
    go_loopw [67] (fun i wr => DrRel w5 en0 i wr) (fun i _ => en0 - (intOf i).toNat)
    case atStart => exact ⟨0, Nat.zero_le _, rfl, Ext.refl _⟩
    case round =>
      obtain ⟨k, hk, rfl, hx⟩ := hrel
      have HXr := Lib.hid hx
      by_cases hlt : k < en0
      · obtain ⟨bb, off, z, rfl, hz, c0, c1, c2⟩ := (HDr.out.ext (HX35.out.trans hx)).at3 hlt
        obtain ⟨be, oe, y, hea, hy, A', n', c', hCy, hYat⟩ := (HEv.out.ext (HX35.out.trans hx)).at_ hlt
        subst hea
        obtain ⟨bo, oo, x, hea, hxx, A2, n2, c2', hCx, hXat⟩ := (HOl.out.ext (HX5.out.trans hx)).at_ hlt
        subst hea
        obtain ⟨x', hx', hyx⟩ := retEvs_at hy
        rw [hxx] at hx'
        cases hx'
        have hzv : z = retDri d.rate b 2 k x := by
          unfold retDris at hz
          rw [List.getElem?_mapIdx, hxx] at hz
          exact (Option.some.inj hz).symm
        have hzi : z.id = (k : Int) + 1 := by rw [hzv]; rfl
        have hyi : y.id = (k : Int) + 1 := by rw [hyx]; rfl
        have hyt : y.text = x.text := by rw [hyx]; rfl
        rw [hzi] at c0
        have HPy : Hid (∀ w', Ext wr w' → Calls Tryd.prog 18 #[.agg #[.int .i64 ((k : Int) + 1), .int .i64 y.inn, .int .i64 y.out, .string y.region, .int .u8 y.kind, .string y.speaker, .slice A' n' c']] w' fun e w'' => e = .returned (.string ⟨x.text.toArray⟩) ∧ Ext w' w'') := Lib.hid fun w' hw => by
          have h1 := EPlain_any y A' n' c' w' (hYat.ext hw) (HSy.out y (List.mem_of_getElem? hy)).2
          rw [hyt] at h1
          unfold Ev.cells at h1
          rw [hyi] at h1
          exact h1
        have HPx : Hid (∀ w', Ext wr w' → Calls Tryd.prog 18 #[.agg #[.int .i64 x.id, .int .i64 x.inn, .int .i64 x.out, .string x.region, .int .u8 x.kind, .string x.speaker, .slice A2 n2 c2']] w' fun e w'' => e = .returned (.string ⟨x.text.toArray⟩) ∧ Ext w' w'') := Lib.hid fun w' hw => by
          have h1 := EPlain_any x A2 n2 c2' w' (hXat.ext hw) (HSm.out x (List.mem_of_getElem? hxx)).2
          unfold Ev.cells at h1
          exact h1
        have HDc := Lib.hid c0
        have HCx := Lib.hid hCx
        have e0 : wr.cell? ⟨be, oe + k * 7, none⟩ = some (.int .i64 ((k : Int) + 1)) := by rw [← hyi]; simpa using hCy 0 _ rfl
        have e1 : wr.cell? ⟨be, oe + k * 7 + 1, none⟩ = some (.int .i64 y.inn) := hCy 1 _ rfl
        have e2 : wr.cell? ⟨be, oe + k * 7 + 2, none⟩ = some (.int .i64 y.out) := hCy 2 _ rfl
        have e3 : wr.cell? ⟨be, oe + k * 7 + 3, none⟩ = some (.string y.region) := hCy 3 _ rfl
        have e4 : wr.cell? ⟨be, oe + k * 7 + 4, none⟩ = some (.int .u8 y.kind) := hCy 4 _ rfl
        have e5 : wr.cell? ⟨be, oe + k * 7 + 5, none⟩ = some (.string y.speaker) := hCy 5 _ rfl
        have e6 : wr.cell? ⟨be, oe + k * 7 + 6, none⟩ = some (.slice A' n' c') := hCy 6 _ rfl
        clear hzv hz hy hyx hyi hyt hzi hxx hCy hCx hYat hXat c0 c1 c2
        have HBc := Lib.hid (Blk.new wr 46 #[.int .i64 ((k : Int) + 1), .int .i64 y.inn, .int .i64 y.out, .string y.region, .int .u8 y.kind, .string y.speaker, .slice A' n' c'])
        have HXc := Lib.hid ((Ext.refl wr).alloc (.cells #[.int .i64 ((k : Int) + 1), .int .i64 y.inn, .int .i64 y.out, .string y.region, .int .u8 y.kind, .string y.speaker, .slice A' n' c'] 46))
        have HV6 := Lib.hid ((HV5.out.ext hx).ext HXc.out)
        have HB6 := Lib.hid ((HB5.out.ext hx).ext HXc.out)
        clear hx
        go_wp2_with fail
        clear e0 e1 e2 e3 e4 e5 e6
        refine wp_region_vals [.agg #[.int .i64 ((k : Int) + 1), .int .i64 y.inn, .int .i64 y.out, .string y.region, .int .u8 y.kind, .string y.speaker, .slice A' n' c'], .string ⟨x.text.toArray⟩, .pointer (some ⟨w.heap.size, 6, none⟩), .slice (some ⟨bo, oo, none⟩) en0 ec0, .int .i64 (k : Int), .pointer (some ⟨bo, oo + k * 7, none⟩), .agg #[.int .i64 x.id, .int .i64 x.inn, .int .i64 x.out, .string x.region, .int .u8 x.kind, .string x.speaker, .slice A2 n2 c2'], .string ⟨x.text.toArray⟩, .bool false, .bool false, .pointer (some ⟨wr.heap.size, 0, none⟩), .int .i64 ((k : Int) + 1), .int .i64 (k : Int), .int .i64 ((k : Int) + 1), .bool false, .bool false, .bool false, .slice (some ⟨bb, off, none⟩) en0 c, .int .i64 (k : Int), .pointer (some ⟨bb, off + k * 3, none⟩), .pointer (some ⟨bb, off + k * 3, none⟩), .int .i64 ((k : Int) + 1), .pointer (some ⟨wr.heap.size, 0, none⟩), .int .i64 ((k : Int) + 1), .bool false, .bool false] [(72, .agg #[.int .i64 ((k : Int) + 1), .int .i64 y.inn, .int .i64 y.out, .string y.region, .int .u8 y.kind, .string y.speaker, .slice A' n' c']), (73, .string ⟨x.text.toArray⟩), (74, .pointer (some ⟨w.heap.size, 6, none⟩)), (75, .slice (some ⟨bo, oo, none⟩) en0 ec0), (76, .int .i64 (k : Int)), (77, .pointer (some ⟨bo, oo + k * 7, none⟩)), (78, .agg #[.int .i64 x.id, .int .i64 x.inn, .int .i64 x.out, .string x.region, .int .u8 x.kind, .string x.speaker, .slice A2 n2 c2']), (79, .string ⟨x.text.toArray⟩), (80, .bool false), (81, .bool false), (82, .pointer (some ⟨wr.heap.size, 0, none⟩)), (83, .int .i64 ((k : Int) + 1)), (84, .int .i64 (k : Int)), (85, .int .i64 ((k : Int) + 1)), (86, .bool false), (87, .bool false), (88, .bool false), (89, .slice (some ⟨bb, off, none⟩) en0 c), (90, .int .i64 (k : Int)), (91, .pointer (some ⟨bb, off + k * 3, none⟩)), (92, .pointer (some ⟨bb, off + k * 3, none⟩)), (93, .int .i64 ((k : Int) + 1)), (94, .pointer (some ⟨wr.heap.size, 0, none⟩)), (95, .int .i64 ((k : Int) + 1)), (96, .bool false), (97, .bool false)] (by kernel_rfl) (by kernel_rfl) (by kernel_rfl) rfl rfl ?_ ?_
        · intro i o ho a w' K' hx hn hd hk
          match i, ho with
          | 0, ho =>
            simp only [List.getElem?_toArray, List.getElem?_cons_zero, List.getElem?_cons_succ, Option.some.injEq] at ho
            subst ho
            refine want_none rfl ?_
            exact wp_loadB 46 (.tmp 12) rfl _ 46 _ _ ((hn 12 rfl).trans (show _ = Value.pointer (some ⟨wr.heap.size, 0, none⟩) from rfl)) (HBc.out.ext hx) Tryd.underlying46 rfl (by exact size_evt) (hk _ rfl w' (Ext.refl _))
          | 1, ho =>
            simp only [List.getElem?_toArray, List.getElem?_cons_zero, List.getElem?_cons_succ, Option.some.injEq] at ho
            subst ho
            refine want_none rfl ?_
            exact wp_call1s rfl (eval_of (hd 0 72 (.agg #[.int .i64 ((k : Int) + 1), .int .i64 y.inn, .int .i64 y.out, .string y.region, .int .u8 y.kind, .string y.speaker, .slice A' n' c']) rfl rfl rfl)) Tryd.call18 (HPy.out w' (HXc.out.trans hx)) (hk _ rfl)
          | 2, ho =>
            simp only [List.getElem?_toArray, List.getElem?_cons_zero, List.getElem?_cons_succ, Option.some.injEq] at ho
            subst ho
            refine want_none rfl ?_
            have ex3 := ((hn 3 rfl).trans (show _ = Value.pointer (some ⟨w.heap.size, 0, none⟩) from rfl))
            simp only [Act.eval] at ex3
            have HK := Lib.hid (hk (.pointer (some ⟨w.heap.size, 6, none⟩)) rfl w' (Ext.refl _))
            clear hx hn hd hk
            go_simp
            exact HK.out
          | 3, ho =>
            simp only [List.getElem?_toArray, List.getElem?_cons_zero, List.getElem?_cons_succ, Option.some.injEq] at ho
            subst ho
            refine want_none rfl ?_
            have ex74 := (eval_of (hd 2 74 (.pointer (some ⟨w.heap.size, 6, none⟩)) rfl rfl rfl))
            have hcl : w'.cell? ⟨w.heap.size, 6, none⟩ = some (.slice (some ⟨bo, oo, none⟩) en0 ec0) := (HB6.out.ext hx).cell 6
            simp only [Act.eval] at ex74
            have HK := Lib.hid (hk (.slice (some ⟨bo, oo, none⟩) en0 ec0) rfl w' (Ext.refl _))
            clear hx hn hd hk
            go_simp
            exact HK.out
          | 4, ho =>
            simp only [List.getElem?_toArray, List.getElem?_cons_zero, List.getElem?_cons_succ, Option.some.injEq] at ho
            subst ho
            refine want_none rfl ?_
            exact wp_move _ _ rfl ((hn 11 rfl).trans (show _ = Value.int .i64 (k : Int) from rfl)) (hk _ rfl w' (Ext.refl _))
          | 5, ho =>
            simp only [List.getElem?_toArray, List.getElem?_cons_zero, List.getElem?_cons_succ, Option.some.injEq] at ho
            subst ho
            refine want_none rfl ?_
            exact wp_ix_ev rfl (eval_of (hd 3 75 (.slice (some ⟨bo, oo, none⟩) en0 ec0) rfl rfl rfl)) (eval_of (hd 4 76 (.int .i64 (k : Int)) rfl rfl rfl)) (by omega) (hk _ rfl w' (Ext.refl _))
          | 6, ho =>
            simp only [List.getElem?_toArray, List.getElem?_cons_zero, List.getElem?_cons_succ, Option.some.injEq] at ho
            subst ho
            refine want_none rfl ?_
            exact wp_load_ev rfl bo _ x A2 n2 c2' (eval_of (hd 5 77 (.pointer (some ⟨bo, oo + k * 7, none⟩)) rfl rfl rfl)) (fun j u hu => (HXc.out.trans hx).cell (HCx.out j u hu)) (hk _ rfl w' (Ext.refl _))
          | 7, ho =>
            simp only [List.getElem?_toArray, List.getElem?_cons_zero, List.getElem?_cons_succ, Option.some.injEq] at ho
            subst ho
            refine want_none rfl ?_
            exact wp_call1s rfl (eval_of (hd 6 78 (.agg #[.int .i64 x.id, .int .i64 x.inn, .int .i64 x.out, .string x.region, .int .u8 x.kind, .string x.speaker, .slice A2 n2 c2']) rfl rfl rfl)) Tryd.call18 (HPx.out w' (HXc.out.trans hx)) (hk _ rfl)
          | 8, ho =>
            simp only [List.getElem?_toArray, List.getElem?_cons_zero, List.getElem?_cons_succ, Option.some.injEq] at ho
            subst ho
            refine want_none rfl ?_
            exact wp_bin rfl (eval_of (hd 1 73 (.string ⟨x.text.toArray⟩) rfl rfl rfl)) (eval_of (hd 7 79 (.string ⟨x.text.toArray⟩) rfl rfl rfl)) (by first | (go_simp; done) | (go_simp; simp; done) | simp) (hk _ rfl w' (Ext.refl _))
          | 9, ho =>
            simp only [List.getElem?_toArray, List.getElem?_cons_zero, List.getElem?_cons_succ, Option.some.injEq] at ho
            subst ho
            refine want_none rfl ?_
            exact wp_move _ _ rfl (eval_of (hd 8 80 (.bool false) rfl rfl rfl)) (hk _ rfl w' (Ext.refl _))
          | 10, ho =>
            simp only [List.getElem?_toArray, List.getElem?_cons_zero, List.getElem?_cons_succ, Option.some.injEq] at ho
            subst ho
            refine want_yes rfl rfl (hd 9 81 (.bool false) rfl rfl rfl) rfl ?_
            have ex12 := ((hn 12 rfl).trans (show _ = Value.pointer (some ⟨wr.heap.size, 0, none⟩) from rfl))
            simp only [Act.eval] at ex12
            have HK := Lib.hid (hk (.pointer (some ⟨wr.heap.size, 0, none⟩)) rfl w' (Ext.refl _))
            clear hx hn hd hk
            go_simp
            exact HK.out
          | 11, ho =>
            simp only [List.getElem?_toArray, List.getElem?_cons_zero, List.getElem?_cons_succ, Option.some.injEq] at ho
            subst ho
            refine want_yes rfl rfl (hd 9 81 (.bool false) rfl rfl rfl) rfl ?_
            have ex82 := (eval_of (hd 10 82 (.pointer (some ⟨wr.heap.size, 0, none⟩)) rfl rfl rfl))
            have hcl : w'.cell? ⟨wr.heap.size, 0, none⟩ = some (.int .i64 ((k : Int) + 1)) := (HBc.out.ext hx).cell 0
            simp only [Act.eval] at ex82
            have HK := Lib.hid (hk (.int .i64 ((k : Int) + 1)) rfl w' (Ext.refl _))
            clear hx hn hd hk
            go_simp
            exact HK.out
          | 12, ho =>
            simp only [List.getElem?_toArray, List.getElem?_cons_zero, List.getElem?_cons_succ, Option.some.injEq] at ho
            subst ho
            refine want_yes rfl rfl (hd 9 81 (.bool false) rfl rfl rfl) rfl ?_
            exact wp_move _ _ rfl ((hn 11 rfl).trans (show _ = Value.int .i64 (k : Int) from rfl)) (hk _ rfl w' (Ext.refl _))
          | 13, ho =>
            simp only [List.getElem?_toArray, List.getElem?_cons_zero, List.getElem?_cons_succ, Option.some.injEq] at ho
            subst ho
            refine want_yes rfl rfl (hd 9 81 (.bool false) rfl rfl rfl) rfl ?_
            exact wp_bin rfl (eval_of (hd 12 84 (.int .i64 (k : Int)) rfl rfl rfl)) rfl (by first | (go_simp; done) | (go_simp; rw [wrap_i64 (by omega) (by omega)]; done) | (go_simp; exact wrap_i64 (by omega) (by omega))) (hk _ rfl w' (Ext.refl _))
          | 14, ho =>
            simp only [List.getElem?_toArray, List.getElem?_cons_zero, List.getElem?_cons_succ, Option.some.injEq] at ho
            subst ho
            refine want_yes rfl rfl (hd 9 81 (.bool false) rfl rfl rfl) rfl ?_
            exact wp_bin rfl (eval_of (hd 11 83 (.int .i64 ((k : Int) + 1)) rfl rfl rfl)) (eval_of (hd 13 85 (.int .i64 ((k : Int) + 1)) rfl rfl rfl)) (by first | (go_simp; done) | (go_simp; simp; done) | simp) (hk _ rfl w' (Ext.refl _))
          | 15, ho =>
            simp only [List.getElem?_toArray, List.getElem?_cons_zero, List.getElem?_cons_succ, Option.some.injEq] at ho
            subst ho
            refine want_none rfl ?_
            exact wp_pick _ _ _ false _ rfl (eval_of (hd 9 81 (.bool false) rfl rfl rfl)) (by exact (eval_of (hd 14 86 (.bool false) rfl rfl rfl))) (hk _ rfl w' (Ext.refl _))
          | 16, ho =>
            simp only [List.getElem?_toArray, List.getElem?_cons_zero, List.getElem?_cons_succ, Option.some.injEq] at ho
            subst ho
            refine want_none rfl ?_
            exact wp_move _ _ rfl (eval_of (hd 15 87 (.bool false) rfl rfl rfl)) (hk _ rfl w' (Ext.refl _))
          | 17, ho =>
            simp only [List.getElem?_toArray, List.getElem?_cons_zero, List.getElem?_cons_succ, Option.some.injEq] at ho
            subst ho
            refine want_yes rfl rfl (hd 16 88 (.bool false) rfl rfl rfl) rfl ?_
            exact wp_move _ _ rfl ((hn 9 rfl).trans (show _ = Value.slice (some ⟨bb, off, none⟩) en0 c from rfl)) (hk _ rfl w' (Ext.refl _))
          | 18, ho =>
            simp only [List.getElem?_toArray, List.getElem?_cons_zero, List.getElem?_cons_succ, Option.some.injEq] at ho
            subst ho
            refine want_yes rfl rfl (hd 16 88 (.bool false) rfl rfl rfl) rfl ?_
            exact wp_move _ _ rfl ((hn 11 rfl).trans (show _ = Value.int .i64 (k : Int) from rfl)) (hk _ rfl w' (Ext.refl _))
          | 19, ho =>
            simp only [List.getElem?_toArray, List.getElem?_cons_zero, List.getElem?_cons_succ, Option.some.injEq] at ho
            subst ho
            refine want_yes rfl rfl (hd 16 88 (.bool false) rfl rfl rfl) rfl ?_
            exact wp_ix_dri rfl (eval_of (hd 17 89 (.slice (some ⟨bb, off, none⟩) en0 c) rfl rfl rfl)) (eval_of (hd 18 90 (.int .i64 (k : Int)) rfl rfl rfl)) (by omega) (hk _ rfl w' (Ext.refl _))
          | 20, ho =>
            simp only [List.getElem?_toArray, List.getElem?_cons_zero, List.getElem?_cons_succ, Option.some.injEq] at ho
            subst ho
            refine want_yes rfl rfl (hd 16 88 (.bool false) rfl rfl rfl) rfl ?_
            have ex91 := (eval_of (hd 19 91 (.pointer (some ⟨bb, off + k * 3, none⟩)) rfl rfl rfl))
            simp only [Act.eval] at ex91
            have HK := Lib.hid (hk (.pointer (some ⟨bb, off + k * 3, none⟩)) rfl w' (Ext.refl _))
            clear hx hn hd hk
            go_simp
            exact HK.out
          | 21, ho =>
            simp only [List.getElem?_toArray, List.getElem?_cons_zero, List.getElem?_cons_succ, Option.some.injEq] at ho
            subst ho
            refine want_yes rfl rfl (hd 16 88 (.bool false) rfl rfl rfl) rfl ?_
            have ex92 := (eval_of (hd 20 92 (.pointer (some ⟨bb, off + k * 3, none⟩)) rfl rfl rfl))
            have hcl : w'.cell? ⟨bb, off + k * 3, none⟩ = some (.int .i64 ((k : Int) + 1)) := (HXc.out.trans hx).cell HDc.out
            simp only [Act.eval] at ex92
            have HK := Lib.hid (hk (.int .i64 ((k : Int) + 1)) rfl w' (Ext.refl _))
            clear hx hn hd hk
            go_simp
            exact HK.out
          | 22, ho =>
            simp only [List.getElem?_toArray, List.getElem?_cons_zero, List.getElem?_cons_succ, Option.some.injEq] at ho
            subst ho
            refine want_yes rfl rfl (hd 16 88 (.bool false) rfl rfl rfl) rfl ?_
            have ex12 := ((hn 12 rfl).trans (show _ = Value.pointer (some ⟨wr.heap.size, 0, none⟩) from rfl))
            simp only [Act.eval] at ex12
            have HK := Lib.hid (hk (.pointer (some ⟨wr.heap.size, 0, none⟩)) rfl w' (Ext.refl _))
            clear hx hn hd hk
            go_simp
            exact HK.out
          | 23, ho =>
            simp only [List.getElem?_toArray, List.getElem?_cons_zero, List.getElem?_cons_succ, Option.some.injEq] at ho
            subst ho
            refine want_yes rfl rfl (hd 16 88 (.bool false) rfl rfl rfl) rfl ?_
            have ex94 := (eval_of (hd 22 94 (.pointer (some ⟨wr.heap.size, 0, none⟩)) rfl rfl rfl))
            have hcl : w'.cell? ⟨wr.heap.size, 0, none⟩ = some (.int .i64 ((k : Int) + 1)) := (HBc.out.ext hx).cell 0
            simp only [Act.eval] at ex94
            have HK := Lib.hid (hk (.int .i64 ((k : Int) + 1)) rfl w' (Ext.refl _))
            clear hx hn hd hk
            go_simp
            exact HK.out
          | 24, ho =>
            simp only [List.getElem?_toArray, List.getElem?_cons_zero, List.getElem?_cons_succ, Option.some.injEq] at ho
            subst ho
            refine want_yes rfl rfl (hd 16 88 (.bool false) rfl rfl rfl) rfl ?_
            exact wp_bin rfl (eval_of (hd 21 93 (.int .i64 ((k : Int) + 1)) rfl rfl rfl)) (eval_of (hd 23 95 (.int .i64 ((k : Int) + 1)) rfl rfl rfl)) (by first | (go_simp; done) | (go_simp; simp; done) | simp) (hk _ rfl w' (Ext.refl _))
          | 25, ho =>
            simp only [List.getElem?_toArray, List.getElem?_cons_zero, List.getElem?_cons_succ, Option.some.injEq] at ho
            subst ho
            refine want_none rfl ?_
            exact wp_pick _ _ _ false _ rfl (eval_of (hd 16 88 (.bool false) rfl rfl rfl)) (by exact (eval_of (hd 24 96 (.bool false) rfl rfl rfl))) (hk _ rfl w' (Ext.refl _))
          | i + 26, ho => simp at ho
        intro w9 hx9
        simp only [Act.put, List.foldl_cons, List.foldl_nil, List.setIfInBounds_toArray, List.set_cons_zero, List.set_cons_succ]
        have HX9 := Lib.hid ((HXr.out.trans HXc.out).trans hx9)
        clear hx9
        go_wp2_with fail
        exact ⟨⟨k + 1, by omega, by go_num, HX9.out⟩, by simp [intOf]; omega⟩
      · have hkn : k = en0 := by omega
        subst hkn
        go_wp2_with fail
        go_ret
        exact ⟨rfl, HX5.out.trans hx⟩
end Go.Proofs.YtaocjfneglgmjaaDoor
