/- Laid together: The walk of the reference's Shift. The walk of document.Head. Equality of runs and rows: slices.Equal, style.Same, slices.EqualFunc, style.SameRows; the reference's Same, SameRows. slices.Equal of regions. slices.Equal of comments. The walks of event.Same and of the reference's Same. slices.EqualFunc of events. The walk of document.Same. -/
import Derived.Test.YtagfedbdakmlgaaGreatDoorMo21
import Derived.Test.YtagfedbdakmlgaaGreatDoorMo23
import Derived.Test.YtagfedbdakmlgaaGreatDoorMo06
import Derived.Test.YtagfedbdakmlgaaGreatDoorMo02
import Derived.Test.YtagfedbdakmlgaaGreatDoorMo03
import Derived.Test.YtagfedbdakmlgaaGreatDoorMo09

/-! ShiftR -/
namespace Go.Proofs.YtagfedbdakmlgaaGreatDoor
set_option linter.unusedVariables false
set_option linter.unusedSimpArgs false
open Go.RowKit
theorem DocOwn.ev_row {w : World} {L k g : Nat} {d : Doc} {h : DocH} {e : Ev} (o : DocOwn w L d h) (hea : h.ea = some ⟨g, 0, none⟩) (he : d.evs[k]? = some e) : ∃ A n c, EGood w L (EH.of e A n c) e ∧ Typed w 66 g ∧ ∀ j u, (e.cells A n c).toList[j]? = some u → w.cell? ⟨g, k * 7 + j, none⟩ = some u := by
  obtain ⟨hs, h1, h2, h3, h4⟩ := o.evs
  rw [hea] at h1
  have hty : Typed w 66 g := own_typed h1 g rfl
  have hk := (List.getElem?_eq_some_iff.1 he).1
  obtain ⟨x, hx⟩ : ∃ x, hs[k]? = some x := ⟨_, List.getElem?_eq_getElem (by omega)⟩
  have hg := h4 k x e hx he
  refine ⟨x.A, x.n, x.c, ⟨rfl, hg.2.1, hg.2.2.1, hg.2.2.2⟩, hty, fun j u hu => ?_⟩
  have hj : j < 7 := (List.getElem?_eq_some_iff.1 hu).1
  rw [h1.cellAt (k * 7 + j) (by omega), flatMap_at EH.vals 7 EH.len hs k x j hx hj, hg.1, EH.of_vals]
  exact hu
theorem DocOwn.ev_sets {w : World} {L k g n c : Nat} {A : Option Addr} {d : Doc} {h : DocH} {e e' : Ev} (o : DocOwn w L d h) (hea : h.ea = some ⟨g, 0, none⟩) (he : d.evs[k]? = some e) (hg : EGood w L (EH.of e' A n c) e') :
    DocOwn (w.setCells g (k * 7) (e'.cells A n c).toList) L (d.withEvs (d.evs.set k e')) h ∧ ∀ (b : Nat) (cs : Array Value), Blk w b 27 cs → Blk (w.setCells g (k * 7) (e'.cells A n c).toList) b 27 cs := by
  obtain ⟨g2, hg2, hLg⟩ := o.ev_at (k := k) (by have := o.evs.len; have := (List.getElem?_eq_some_iff.1 he).1; omega)
  obtain ⟨a1, a2, a3, a4, a5⟩ := o
  rw [hea] at a3 hg2
  cases hg2
  obtain ⟨hs, h1, -⟩ := id a3
  have hT : Typed w 66 g := own_typed h1 g rfl
  have hkb : ∀ {T : TypeId}, T ≠ 66 → KB T w (w.setCells g (k * 7) (e'.cells A n c).toList) := fun hne => KB.sets hne _ _ _ hT
  have hk : k < h.en := by have := a3.len; have := (List.getElem?_eq_some_iff.1 he).1; omega
  refine ⟨⟨own_kb a1 (hkb (by decide)), a2, ?_, own_kb a4 (hkb (by decide)), a5⟩, fun b cs hb => hkb (by decide) _ _ hb⟩
  rw [hea]
  exact a3.set hk hLg hg
def ShLoopR (d : Doc) (fr sh : Int) (w w0 : World) (h : DocH) (G9 : Nat) (cs : Array Value) (v : Value) (wr : World) : Prop :=
  ∃ i : Nat, i ≤ h.en ∧ v = .int .i64 i ∧ (d.evs.take i).any (Ev.mvBad fr sh) = false ∧ Ext w0 wr ∧ Blk wr G9 27 cs ∧ Blk wr (w.heap.size + 1) 27 docZero ∧ DocOwn wr w0.heap.size (d.withEvs ((d.evs.take i).map (Ev.mv fr sh) ++ d.evs.drop i)) h
set_option maxRecDepth 100000 in
set_option maxHeartbeats 4000000 in
theorem R12Shift_any (d : Doc) (h : DocH) (fr sh : Int) (w : World) (hE : Env w) (hat : DocAt w d h) (hf : DocFit d) (hrn : h.rn ≤ 9223372036854775807) (hr : h.rn * 56 ≤ 140737488355328) (hn : h.en ≤ 1000000) (hcn : h.cn ≤ 1000000) :
    Calls Tryz.prog 33 #[.agg (d.cells h), .int .i64 fr, .int .i64 sh] w (DEPost (d.shX fr sh) w) := by
  have HX : Hid (Ext w ((w.alloc (.cells (d.cells h) 27)).alloc (.cells docZero 27))) := ((Ext.refl w).alloc _).alloc _
  have HB : Hid (Blk ((w.alloc (.cells (d.cells h) 27)).alloc (.cells docZero 27)) w.heap.size 27 (d.cells h)) := (Blk.new w _ _).alloc _
  have HZ : Hid (Blk ((w.alloc (.cells (d.cells h) 27)).alloc (.cells docZero 27)) (w.heap.size + 1) 27 docZero) := Blk.new' (by simp)
  have HCk := Lib.hid (fun w' (hx : Ext w w') => R12Check_any d h w' (hE.ext hx) (hat.ext hx) hf hrn hn (by omega))
  have HCl := Lib.hid (fun w' (hx : Ext w w') => R12Clone_any d h w' (hat.ext hx) hr (by omega) (by omega))
  have HEln := Lib.hid hat.evs.len
  have HAt := Lib.hid hat.coms
  have HCln := Lib.hid hat.coms.len
  have END : ∀ (w9 : World) (e : Int), Ext w w9 → Blk w9 (w.heap.size + 1) 27 docZero → d.shX fr sh = (Doc.zero, e) → ∀ (tmps : Array Value), tmps.getD 6 undef = .pointer (some ⟨w.heap.size + 1, 0, none⟩) → tmps.getD 7 undef = .int .i64 e →
      (results Tryz.f33 tmps).run Tryz.prog (putB w9 (w.heap.size + 1) 27 docZero) = .ok (.tuple #[.agg docZero, .int .i64 e]) (putB w9 (w.heap.size + 1) 27 docZero) ∧
        DEPost (d.shX fr sh) w (.returned (.tuple #[.agg docZero, .int .i64 e])) (putB w9 (w.heap.size + 1) 27 docZero) := fun w9 e hx hz he tmps h8 h9 => by
    refine ⟨?_, dePost_err he (hx.put (by omega) _ _)⟩
    have := results_B_tmp (P := Tryz.prog) Tryz.results33 (tmps := tmps) (w := putB w9 (w.heap.size + 1) 27 docZero) (g := w.heap.size + 1) h8 (hz.put _) Tryz.underlying27 rfl size_docI
    rw [this, h9]
  have HEnd := Lib.hid END
  clear END hat hE hf hrn hr
  obtain ⟨hra, nr, hrc, hea, hen, hec, hca, nc, hcc⟩ := h
  unfold DClPost at HCl
  unfold Doc.cells docZero at *
  dsimp only at *
  go_enter Tryz.func33, Tryz.ntmps33
  go_wp2_with (refine wpList_loadB rfl 27 (.tmp 3) rfl (w.heap.size) 27 _ _ (by exact rfl) (by exact HB.out) Tryz.underlying27 rfl (by exact size_docI) ?_)
  refine (HCk.out _ HX.out).mono ?_
  rintro en w0 ⟨rfl, hx0⟩
  have HX1 := Lib.hid (HX.out.trans hx0)
  have HB1 := Lib.hid (HB.out.ext hx0)
  have HZ1 := Lib.hid (HZ.out.ext hx0)
  clear hx0 HX HB HZ HCk
  by_cases h0 : d.err = 0
  case neg =>
    have hne2 : (d.err != 0) = true := by simpa using h0
    have HR1 : Hid (d.shX fr sh = (Doc.zero, d.err)) := sh_1 h0
    clear h0
    go_wp2_with (refine wpList_storeB rfl 27 (.tmp 6) _ rfl (w.heap.size + 1) 27 _ _ (by exact rfl) (by exact rfl) (by exact HZ1.out) (by exact rfl) (by exact size_docI) (by simp [Value.oneCell']) ?_)
    exact (fun q => bodyPost_ret q.1 rfl q.2) (HEnd.out _ _ HX1.out HZ1.out (HR1.out) _ (by exact rfl) (by exact rfl))
  have HC := Lib.hid h0
  rw [h0]
  clear h0
  by_cases hlo : sh < -5184000
  · have HR1 : Hid (d.shX fr sh = (Doc.zero, 2)) := sh_2 HC.out (.inl hlo)
    go_wp2_with (refine wpList_storeB rfl 27 (.tmp 6) _ rfl (w.heap.size + 1) 27 _ _ (by exact rfl) (by exact rfl) (by exact HZ1.out) (by exact rfl) (by exact size_docI) (by simp [Value.oneCell']) ?_)
    exact (fun q => bodyPost_ret q.1 rfl q.2) (HEnd.out _ _ HX1.out HZ1.out (HR1.out) _ (by exact rfl) (by exact rfl))
  by_cases hhi : 5184000 < sh
  · have HR1 : Hid (d.shX fr sh = (Doc.zero, 2)) := sh_2 HC.out (.inr hhi)
    have hlo2 : -5184000 ≤ sh := by omega
    go_wp2_with (refine wpList_storeB rfl 27 (.tmp 6) _ rfl (w.heap.size + 1) 27 _ _ (by exact rfl) (by exact rfl) (by exact HZ1.out) (by exact rfl) (by exact size_docI) (by simp [Value.oneCell']) ?_)
    exact (fun q => bodyPost_ret q.1 rfl q.2) (HEnd.out _ _ HX1.out HZ1.out (HR1.out) _ (by exact rfl) (by exact rfl))
  have HRg : Hid (¬ (sh < -5184000 ∨ 5184000 < sh)) := by show ¬ _; omega
  go_wp2_with (refine wpList_loadB rfl 27 (.tmp 3) rfl (w.heap.size) 27 _ _ (by exact rfl) (by exact HB1.out) Tryz.underlying27 rfl (by exact size_docI) ?_)
  refine (HCl.out _ HX1.out).mono ?_
  rintro en w5 ⟨⟨ra, rn, rc, ea, en5, ec, ca, cn, cc⟩, rfl, ho5, hx5⟩
  dsimp only
  have hsz := HX1.out.size
  have hszz := HZ1.out.lt
  have hen6 : en5 ≤ 1000000 := by have := ho5.evs.len; have := HEln.out; dsimp only at *; omega
  have hel5 : d.evs.length = en5 := ho5.evs.len
  have hxa := (Ext.refl w5).alloc (.cells #[.string d.title, .string d.lang, .int .u8 d.rate, .bool d.drop, .int .i64 d.last, .slice ra rn rc, .slice ea en5 ec, .slice ca cn cc] 27)
  have HX0 := Lib.hid (hx5.trans hxa)
  have HZ5 := Lib.hid ((HZ1.out.ext hx5).ext hxa)
  have HO5 := Lib.hid (ho5.ext hxa)
  have HP5 := Lib.hid (Blk.new w5 27 #[.string d.title, .string d.lang, .int .u8 d.rate, .bool d.drop, .int .i64 d.last, .slice ra rn rc, .slice ea en5 ec, .slice ca cn cc])
  have hszz5 := hx5.size
  clear ho5 hx5 hxa
  go_upto_region 7 with fail
  obtain ⟨G9, hG9⟩ : ∃ G9, G9 = w5.heap.size := ⟨_, rfl⟩
  obtain ⟨W, hW⟩ : ∃ W, W = w5.alloc (.cells #[.string d.title, .string d.lang, .int .u8 d.rate, .bool d.drop, .int .i64 d.last, .slice ra rn rc, .slice ea en5 ec, .slice ca cn cc] 27) := ⟨_, rfl⟩
  rw [← hW] at HO5 HP5 HZ5 HX0 ⊢
  rw [← hG9] at HP5 hszz5 ⊢
  clear hW hG9
  have hcp := fun o => HP5.out.cell o
  go_wp2_with fail
  clear hcp
  go_loopw [30] (fun i wr => ShLoopR d fr sh w w0 ⟨ra, rn, rc, ea, en5, ec, ca, cn, cc⟩ G9 #[.string d.title, .string d.lang, .int .u8 d.rate, .bool d.drop, .int .i64 d.last, .slice ra rn rc, .slice ea en5 ec, .slice ca cn cc] i wr) (fun i _ => en5 - (intOf i).toNat)
  case atStart => exact ⟨0, Nat.zero_le _, rfl, rfl, HX0.out, HP5.out, HZ5.out, HO5.out⟩
  case round =>
    obtain ⟨ki, hi, rfl, hany, hx8, hp8, hz8, ho8⟩ := hrel
    dsimp only at hi
    have HAny := Lib.hid hany
    have HX8 := Lib.hid hx8
    have HP8 := Lib.hid hp8
    have HZ8 := Lib.hid hz8
    have HO8 := Lib.hid ho8
    clear hx8 hp8 hz8 ho8 hany HX0 HP5 HZ5 HO5
    by_cases hlt : ki < en5
    · obtain ⟨g, hea5, hLg⟩ := HO8.out.ev_at hlt
      dsimp only at hea5
      have heas := hea5
      subst hea5
      obtain ⟨x, hx0⟩ : ∃ x, d.evs[ki]? = some x := ⟨_, List.getElem?_eq_getElem (by omega)⟩
      have hus := upd_step (Ev.mv fr sh) d.evs ki x hx0
      have HNx := Lib.hid (upd_next (Ev.mv fr sh) d.evs ki x hx0)
      have HUs := Lib.hid hus.2
      have HU1 := Lib.hid hus.1
      have HXx := Lib.hid hx0
      obtain ⟨hb0, hb1, hb2⟩ := evs_in HC.out hx0
      obtain ⟨A, n, c, hgd, hty, hcell⟩ := HO8.out.ev_row heas hus.1
      have HGd := Lib.hid hgd
      have HTy := Lib.hid hty
      have HCell := Lib.hid hcell
      have e0 : wr.cell? ⟨g, ki * 7, none⟩ = some (.int .i64 x.id) := hcell 0 _ rfl
      have e1 : wr.cell? ⟨g, ki * 7 + 1, none⟩ = some (.int .i64 x.inn) := hcell 1 _ rfl
      have e2 : wr.cell? ⟨g, ki * 7 + 2, none⟩ = some (.int .i64 x.out) := hcell 2 _ rfl
      have e3 : wr.cell? ⟨g, ki * 7 + 3, none⟩ = some (.string x.region) := hcell 3 _ rfl
      have e4 : wr.cell? ⟨g, ki * 7 + 4, none⟩ = some (.int .u8 x.kind) := hcell 4 _ rfl
      have e5 : wr.cell? ⟨g, ki * 7 + 5, none⟩ = some (.string x.speaker) := hcell 5 _ rfl
      have e6 : wr.cell? ⟨g, ki * 7 + 6, none⟩ = some (.slice A n c) := hcell 6 _ rfl
      have HHe := Lib.hid heas
      have HB := Lib.hid (Blk.new wr 66 #[.int .i64 x.id, .int .i64 x.inn, .int .i64 x.out, .string x.region, .int .u8 x.kind, .string x.speaker, .slice A n c])
      have hxa := (Ext.refl wr).alloc (.cells #[.int .i64 x.id, .int .i64 x.inn, .int .i64 x.out, .string x.region, .int .u8 x.kind, .string x.speaker, .slice A n c] 66)
      have HXa := Lib.hid hxa
      clear hus hx0 heas hgd hty hcell hxa
      by_cases hfr : x.inn < fr
      · have HMv : Hid (Ev.mv fr sh x = x) := by show _ = _; unfold Ev.mv; rw [if_pos hfr]
        have HNb : Hid (Ev.mvBad fr sh x = false) := by show _ = _; unfold Ev.mvBad; exact decide_eq_false (by omega)
        go_wp2_with fail
        refine ⟨⟨ki + 1, by dsimp only; omega, by go_num, any_next HXx.out HAny.out HNb.out, HX8.out.trans HXa.out, HP8.out.ext HXa.out, HZ8.out.ext HXa.out, ?_⟩, by simp [intOf]; omega⟩
        rw [HNx.out, HMv.out, ← drop_at d.evs ki x HXx.out]
        exact HO8.out.ext HXa.out
      have HMv : Hid (Ev.mv fr sh x = ⟨x.id, x.inn + sh, x.out + sh, x.region, x.kind, x.speaker, x.rows⟩) := by show _ = _; unfold Ev.mv; rw [if_neg hfr]
      have hw1 : IntKind.i64.wrap (x.inn + sh) = x.inn + sh := by rw [IntKind.wrap_i64]; omega
      have hw2 : IntKind.i64.wrap (x.out + sh) = x.out + sh := by rw [IntKind.wrap_i64]; omega
      have hs1 := setCell_put HB.out 1 (.int .i64 (x.inn + sh))
      have hs2 := setCell_put (HB.out.put #[.int .i64 x.id, .int .i64 (x.inn + sh), .int .i64 x.out, .string x.region, .int .u8 x.kind, .string x.speaker, .slice A n c]) 2 (.int .i64 (x.out + sh))
      have g1 := HB.out.cell 1
      have f1 := HB.out.frozen 1
      have g2 := (HB.out.put #[.int .i64 x.id, .int .i64 (x.inn + sh), .int .i64 x.out, .string x.region, .int .u8 x.kind, .string x.speaker, .slice A n c]).cell 2
      have f2 := (HB.out.put #[.int .i64 x.id, .int .i64 (x.inn + sh), .int .i64 x.out, .string x.region, .int .u8 x.kind, .string x.speaker, .slice A n c]).frozen 2
      have g3 := fun o => ((HB.out.put #[.int .i64 x.id, .int .i64 (x.inn + sh), .int .i64 x.out, .string x.region, .int .u8 x.kind, .string x.speaker, .slice A n c]).put #[.int .i64 x.id, .int .i64 (x.inn + sh), .int .i64 (x.out + sh), .string x.region, .int .u8 x.kind, .string x.speaker, .slice A n c]).cell o
      simp at hs1 hs2 g1 g2
      by_cases hk1 : x.inn + sh < 0
      · have HR1 : Hid (d.shX fr sh = (Doc.zero, 2)) := sh_3 HC.out (mv_bad HXx.out (by unfold Ev.mvBad; exact decide_eq_true ⟨hfr, .inl hk1⟩))
        go_upto_region 13 with fail
        obtain ⟨Wz, hWz⟩ : ∃ Wz, Wz = putB (putB (wr.alloc (.cells #[.int .i64 x.id, .int .i64 x.inn, .int .i64 x.out, .string x.region, .int .u8 x.kind, .string x.speaker, .slice A n c] 66)) wr.heap.size 66 #[.int .i64 x.id, .int .i64 (x.inn + sh), .int .i64 x.out, .string x.region, .int .u8 x.kind, .string x.speaker, .slice A n c]) wr.heap.size 66 #[.int .i64 x.id, .int .i64 (x.inn + sh), .int .i64 (x.out + sh), .string x.region, .int .u8 x.kind, .string x.speaker, .slice A n c] := ⟨_, rfl⟩
        rw [← hWz]
        have HBz : Hid (Blk Wz wr.heap.size 66 #[.int .i64 x.id, .int .i64 (x.inn + sh), .int .i64 (x.out + sh), .string x.region, .int .u8 x.kind, .string x.speaker, .slice A n c]) := by show Blk _ _ _ _; rw [hWz]; exact (HB.out.put _).put _
        have HXz : Hid (Ext wr Wz) := by show Ext _ _; rw [hWz]; exact (HXa.out.put (Nat.le_refl _) _ _).put (Nat.le_refl _) _ _
        clear hWz hs1 hs2 g1 g2 g3 f1 f2 e0 e1 e2 e3 e4 e5 e6 hw1 hw2
        have HX9w := Lib.hid (HX8.out.trans HXz.out)
        have HX9 := Lib.hid (HX1.out.trans (HX8.out.trans HXz.out))
        have HP9 := Lib.hid (HP8.out.ext HXz.out)
        have HZ9 := Lib.hid (HZ8.out.ext HXz.out)
        have HO9 := Lib.hid (HO8.out.ext HXz.out)
        have hcz := fun o => HBz.out.cell o
        go_wp2_with (refine wpList_storeB rfl 27 (.tmp 6) _ rfl (w.heap.size + 1) 27 _ _ (by exact rfl) (by exact rfl) (by exact HZ9.out) (by exact rfl) (by exact size_docI) (by simp [Value.oneCell']) ?_)
        exact (fun q => bodyPost_ret q.1 rfl q.2) (HEnd.out _ _ HX9.out HZ9.out (HR1.out) _ (by exact rfl) (by exact rfl))
      by_cases hk2 : 5184000 < x.out + sh
      · have HR1 : Hid (d.shX fr sh = (Doc.zero, 2)) := sh_3 HC.out (mv_bad HXx.out (by unfold Ev.mvBad; exact decide_eq_true ⟨hfr, .inr hk2⟩))
        go_upto_region 13 with fail
        obtain ⟨Wz, hWz⟩ : ∃ Wz, Wz = putB (putB (wr.alloc (.cells #[.int .i64 x.id, .int .i64 x.inn, .int .i64 x.out, .string x.region, .int .u8 x.kind, .string x.speaker, .slice A n c] 66)) wr.heap.size 66 #[.int .i64 x.id, .int .i64 (x.inn + sh), .int .i64 x.out, .string x.region, .int .u8 x.kind, .string x.speaker, .slice A n c]) wr.heap.size 66 #[.int .i64 x.id, .int .i64 (x.inn + sh), .int .i64 (x.out + sh), .string x.region, .int .u8 x.kind, .string x.speaker, .slice A n c] := ⟨_, rfl⟩
        rw [← hWz]
        have HBz : Hid (Blk Wz wr.heap.size 66 #[.int .i64 x.id, .int .i64 (x.inn + sh), .int .i64 (x.out + sh), .string x.region, .int .u8 x.kind, .string x.speaker, .slice A n c]) := by show Blk _ _ _ _; rw [hWz]; exact (HB.out.put _).put _
        have HXz : Hid (Ext wr Wz) := by show Ext _ _; rw [hWz]; exact (HXa.out.put (Nat.le_refl _) _ _).put (Nat.le_refl _) _ _
        clear hWz hs1 hs2 g1 g2 g3 f1 f2 e0 e1 e2 e3 e4 e5 e6 hw1 hw2
        have HX9w := Lib.hid (HX8.out.trans HXz.out)
        have HX9 := Lib.hid (HX1.out.trans (HX8.out.trans HXz.out))
        have HP9 := Lib.hid (HP8.out.ext HXz.out)
        have HZ9 := Lib.hid (HZ8.out.ext HXz.out)
        have HO9 := Lib.hid (HO8.out.ext HXz.out)
        have hcz := fun o => HBz.out.cell o
        go_wp2_with (refine wpList_storeB rfl 27 (.tmp 6) _ rfl (w.heap.size + 1) 27 _ _ (by exact rfl) (by exact rfl) (by exact HZ9.out) (by exact rfl) (by exact size_docI) (by simp [Value.oneCell']) ?_)
        exact (fun q => bodyPost_ret q.1 rfl q.2) (HEnd.out _ _ HX9.out HZ9.out (HR1.out) _ (by exact rfl) (by exact rfl))
      have HNb : Hid (Ev.mvBad fr sh x = false) := by show _ = _; unfold Ev.mvBad; exact decide_eq_false (by omega)
      go_upto_region 13 with fail
      obtain ⟨Wz, hWz⟩ : ∃ Wz, Wz = putB (putB (wr.alloc (.cells #[.int .i64 x.id, .int .i64 x.inn, .int .i64 x.out, .string x.region, .int .u8 x.kind, .string x.speaker, .slice A n c] 66)) wr.heap.size 66 #[.int .i64 x.id, .int .i64 (x.inn + sh), .int .i64 x.out, .string x.region, .int .u8 x.kind, .string x.speaker, .slice A n c]) wr.heap.size 66 #[.int .i64 x.id, .int .i64 (x.inn + sh), .int .i64 (x.out + sh), .string x.region, .int .u8 x.kind, .string x.speaker, .slice A n c] := ⟨_, rfl⟩
      rw [← hWz]
      have HBz : Hid (Blk Wz wr.heap.size 66 #[.int .i64 x.id, .int .i64 (x.inn + sh), .int .i64 (x.out + sh), .string x.region, .int .u8 x.kind, .string x.speaker, .slice A n c]) := by show Blk _ _ _ _; rw [hWz]; exact (HB.out.put _).put _
      have HXz : Hid (Ext wr Wz) := by show Ext _ _; rw [hWz]; exact (HXa.out.put (Nat.le_refl _) _ _).put (Nat.le_refl _) _ _
      clear hWz hs1 hs2 g1 g2 g3 f1 f2 e0 e1 e2 e3 e4 e5 e6 hw1 hw2
      have HX9w := Lib.hid (HX8.out.trans HXz.out)
      have HX9 := Lib.hid (HX1.out.trans (HX8.out.trans HXz.out))
      have HP9 := Lib.hid (HP8.out.ext HXz.out)
      have HZ9 := Lib.hid (HZ8.out.ext HXz.out)
      have HO9 := Lib.hid (HO8.out.ext HXz.out)
      have hcz := fun o => HBz.out.cell o
      have hcp := fun o => HP9.out.cell o
      have hcz := fun o => HBz.out.cell o
      have HGz : Hid (EGood Wz w0.heap.size (EH.of ⟨x.id, x.inn + sh, x.out + sh, x.region, x.kind, x.speaker, x.rows⟩ A n c) ⟨x.id, x.inn + sh, x.out + sh, x.region, x.kind, x.speaker, x.rows⟩) := by
        have h := HGd.out.ext HXz.out
        exact ⟨rfl, h.2.1, h.2.2.1, h.2.2.2⟩
      have HFz : Hid (Wz.there g (ki * 7) 7) := fun j hj => by
        have hj7 : j < 7 := hj
        have h8 : j < (x.cells A n c).toList.length := hj7
        exact ⟨by rw [HXz.out.cell (HCell.out j _ (List.getElem?_eq_getElem h8))]; rfl, (HTy.out.ext HXz.out).frozen _⟩
      go_wp2_with (first | (refine wpList_loadB rfl 66 (.tmp 11) rfl wr.heap.size 66 _ _ (by exact rfl) (by exact HBz.out) Tryz.underlying66 rfl (by exact size_event) ?_) | (refine wpList_store_mid rfl 66 (.tmp 69) (.tmp 68) rfl g (ki * 7) (#[.int .i64 x.id, .int .i64 (x.inn + sh), .int .i64 (x.out + sh), .string x.region, .int .u8 x.kind, .string x.speaker, .slice A n c]) (by exact rfl) (by exact rfl) (by exact HFz.out) (by exact size_event) (by simp [Value.oneCell']) ?_; generalize hW8 : World.setCells _ _ _ _ = W8; have HW8 := Lib.hid hW8; clear hW8))
      clear hcp hcz HFz
      rw [← HW8.out]
      have hq := HO9.out.ev_sets (e' := ⟨x.id, x.inn + sh, x.out + sh, x.region, x.kind, x.speaker, x.rows⟩) rfl HU1.out HGz.out
      refine ⟨⟨ki + 1, by dsimp only; omega, by go_num, any_next HXx.out HAny.out HNb.out, ext_sets hLg _ _ _ HX9w.out, hq.2 _ _ HP9.out, hq.2 _ _ HZ9.out, ?_⟩, by simp [intOf]; omega⟩
      rw [HNx.out, HMv.out, ← HUs.out]
      exact hq.1
    · have hin : ki = en5 := by omega
      subst hin
      have HR1 : Hid (d.shX fr sh = (d.withEvs (srtE (d.evs.map (Ev.mv fr sh))), 0)) := sh_4 HC.out HRg.out (by have h := HAny.out; rw [List.take_of_length_le (by omega)] at h; exact h)
      have HO9 : Hid (DocOwn wr w0.heap.size (d.withEvs (d.evs.map (Ev.mv fr sh))) ⟨ra, rn, rc, ea, ki, ec, ca, cn, cc⟩) := by
        have h9 := HO8.out
        rw [List.take_of_length_le (by omega), List.drop_eq_nil_of_le (by omega), List.append_nil] at h9
        exact h9
      clear HO8
      have hcp := fun o => HP8.out.cell o
      have hfp := fun o => HP8.out.frozen o
      go_upto_region 17 with fail
      go_wp2_with fail
      refine (R12Sort_any _ _ _ _ _ HO9.out.at_.evs (show ki * 88 ≤ _ by omega)).mono ?_
      rintro en w7 ⟨v7, rfl, hev7, hx7⟩
      obtain ⟨A7, c7, hv7, -, -, -⟩ := hev7.at_
      subst hv7
      have hle := HX8.out.size
      have hO7 := HO9.out.ext hx7
      have HX7 := Lib.hid ((HX1.out.trans HX8.out).trans hx7)
      have HP7 := Lib.hid (HP8.out.ext hx7)
      have HZ7 := Lib.hid (HZ8.out.ext hx7)
      have HO7 : Hid (DocOwn w7 w0.heap.size (d.withEvs (srtE (d.evs.map (Ev.mv fr sh)))) ⟨ra, rn, rc, A7, ki, c7, ca, cn, cc⟩) := ⟨hO7.regs, hO7.rlen, hev7.le hle, hO7.coms, hO7.clen⟩
      clear hcp hfp hO7 hev7 hx7 HX8 HP8 HZ8 HO9
      have hs7 := setCell_put HP7.out 6 (.slice A7 ki c7)
      have hc7 := HP7.out.cell 6
      have hf7 := HP7.out.frozen 6
      simp at hs7 hc7
      have HP9 := Lib.hid (HP7.out.put #[.string d.title, .string d.lang, .int .u8 d.rate, .bool d.drop, .int .i64 d.last, .slice ra rn rc, .slice A7 ki c7, .slice ca cn cc])
      have HZ9 := Lib.hid (HZ7.out.put_other (g' := G9) (t' := 27) (by omega) #[.string d.title, .string d.lang, .int .u8 d.rate, .bool d.drop, .int .i64 d.last, .slice ra rn rc, .slice A7 ki c7, .slice ca cn cc])
      have HX9 := Lib.hid (HX7.out.put (g := G9) (by omega) 27 #[.string d.title, .string d.lang, .int .u8 d.rate, .bool d.drop, .int .i64 d.last, .slice ra rn rc, .slice A7 ki c7, .slice ca cn cc])
      have HO9 := Lib.hid (HO7.out.put HP7.out #[.string d.title, .string d.lang, .int .u8 d.rate, .bool d.drop, .int .i64 d.last, .slice ra rn rc, .slice A7 ki c7, .slice ca cn cc])
      go_wp2_with (first | (refine wpList_loadB rfl 27 (.tmp 9) rfl (G9) 27 _ _ (by exact rfl) (by exact HP9.out) Tryz.underlying27 rfl (by exact size_docI) ?_) | (refine wpList_storeB rfl 27 (.tmp 6) _ rfl (w.heap.size + 1) 27 _ _ (by exact rfl) (by exact rfl) (by exact HZ9.out) (by exact rfl) (by exact size_docI) (by simp [Value.oneCell']) ?_))
      refine bodyPost_ret (v := .tuple #[.agg ((d.shX fr sh).1.cells ⟨ra, rn, rc, A7, ki, c7, ca, cn, cc⟩), .int .i64 (d.shX fr sh).2]) ?_ rfl ⟨⟨ra, rn, rc, A7, ki, c7, ca, cn, cc⟩, rfl, ?_, ?_⟩
      · rw [HR1.out]
        exact results_B_tmp (P := Tryz.prog) Tryz.results33 (g := w.heap.size + 1) rfl (by exact HZ9.out.put _) Tryz.underlying27 rfl size_docI
      · rw [HR1.out]
        exact (HO9.out.le hsz).put HZ9.out _
      · exact HX9.out.put (by omega) _ _
end Go.Proofs.YtagfedbdakmlgaaGreatDoor

/-! HeadD -/
namespace Go.Proofs.YtagfedbdakmlgaaGreatDoor
set_option linter.unusedVariables false
set_option linter.unusedSimpArgs false
open Go.RowKit
def Doc.head (d : Doc) : Value := .agg #[.string d.title, .string d.lang, .int .u8 d.rate, .bool d.drop, .int .i64 d.last]
end Go.Proofs.YtagfedbdakmlgaaGreatDoor

/-! Same -/
namespace Go.Proofs.YtagfedbdakmlgaaGreatDoor
set_option linter.unusedVariables false
set_option linter.unusedSimpArgs false
open Go.RowKit
theorem neq_run (a b : Run) (w : World) : (binOp .neq 84 a.val b.val).run Tryz.prog w = .ok (.bool (!decide (a = b))) w := by
  obtain ⟨t1, c1, i1, u1, r1⟩ := a
  obtain ⟨t2, c2, i2, u2, r2⟩ := b
  unfold Run.val
  dsimp only
  go_simp
  simp only [toList_inj]
  repeat' split
  all_goals simp_all
theorem neq_run_yes (a b : Run) (h : ¬ a = b) (w : World) : (binOp .neq 84 a.val b.val).run Tryz.prog w = .ok (.bool true) w := by rw [neq_run, decide_eq_false h]; rfl
theorem neq_run_no (a : Run) (w : World) : (binOp .neq 84 a.val a.val).run Tryz.prog w = .ok (.bool false) w := by rw [neq_run, decide_eq_true rfl]; rfl
def EqRel {α : Type} (w : World) (n : Nat) (l1 l2 : List α) (i : Value) (wr : World) : Prop := ∃ k : Nat, k ≤ n ∧ i = .int .i64 k ∧ Ext w wr ∧ l1.take k = l2.take k
theorem eq_of_take {α : Type} {l1 l2 : List α} {n : Nat} (h1 : l1.length = n) (h2 : l2.length = n) (h : l1.take n = l2.take n) : l1 = l2 := by
  rw [List.take_of_length_le (by omega), List.take_of_length_le (by omega)] at h
  exact h
theorem take_eq_succ {α : Type} {l1 l2 : List α} {k : Nat} {x : α} (h : l1.take k = l2.take k) (h1 : l1[k]? = some x) (h2 : l2[k]? = some x) : l1.take (k + 1) = l2.take (k + 1) := by
  rw [List.take_add_one, List.take_add_one, h, h1, h2]
theorem ne_at {α : Type} {l1 l2 : List α} {k : Nat} {x y : α} (h1 : l1[k]? = some x) (h2 : l2[k]? = some y) (h : ¬ x = y) : ¬ l1 = l2 := by
  rintro rfl
  rw [h1] at h2
  exact h (Option.some.inj h2)
set_option maxRecDepth 100000 in
set_option maxHeartbeats 2000000 in
theorem RSame_any (A : Option Addr) (n c : Nat) (B : Option Addr) (m d : Nat) (l1 l2 : Row) (w : World) (h1 : RunsAt w A n l1) (h2 : RunsAt w B m l2) (hn : n ≤ 4611686018427387904) :
    Calls Tryz.prog 154 #[.agg #[.slice A n c], .agg #[.slice B m d]] w fun e w' => e = .returned (.bool (decide (l1 = l2))) ∧ Ext w w' := by
  have L1 := Lib.hid h1.len
  have L2 := Lib.hid h2.len
  have H1 := Lib.hid h1
  have H2 := Lib.hid h2
  clear h1 h2
  have hx0 := ((Ext.refl w).alloc (.cells #[.slice A n c] 87)).alloc (.cells #[.slice B m d] 87)
  have HX0 := Lib.hid hx0
  clear hx0
  by_cases hnm : n = m
  · subst hnm
    go_enter Tryz.func154, Tryz.ntmps154
    go_wp2_with fail
    go_loopw [16] (fun i wr => EqRel ((w.alloc (.cells #[.slice A n c] 87)).alloc (.cells #[.slice B n d] 87)) n l1 l2 i wr) (fun i _ => n - (intOf i).toNat)
    case atStart => exact ⟨0, Nat.zero_le _, rfl, Ext.refl _, rfl⟩
    case round =>
      obtain ⟨k, hk, rfl, hx, hp⟩ := hrel
      have HP := Lib.hid hp
      clear hp
      have hxw : Ext w wr := HX0.out.trans hx
      have hca := (((Blk.new w _ _).alloc _).ext hx).cell 0
      have hcb := ((Blk.new' (g := w.heap.size + 1) (w := w.alloc _) (by simp)).ext hx).cell 0
      simp at hca hcb
      by_cases hlt : k < n
      · obtain ⟨b1, o1, r, rfl, hr, c0, c1, c2, c3, c4⟩ := (H1.out.ext hxw).at_ hlt
        obtain ⟨b2, o2, s, rfl, hs, d0, d1, d2, d3, d4⟩ := (H2.out.ext hxw).at_ hlt
        have HR := Lib.hid hr
        have HS := Lib.hid hs
        clear hr hs
        have hk0 : (0 : Int) ≤ (k : Int) := by omega
        have hk1 : (k : Int) < (n : Int) := by omega
        by_cases hq : r = s
        · subst hq
          have HT := Lib.hid (take_eq_succ HP.out HR.out HS.out)
          have hne := fun w => neq_run_no r w
          unfold Run.val at hne
          go_wp2_with fail
          go_quiet (fail)
          go_wp2_with fail
          exact ⟨⟨k + 1, by omega, by go_num, hx.drewN _, HT.out⟩, by simp [intOf]; omega⟩
        · have hne := fun w => neq_run_yes r s hq w
          have HN := Lib.hid (ne_at HR.out HS.out hq)
          unfold Run.val at hne
          clear hq
          go_wp2_with fail
          go_quiet (fail)
          go_wp2_with fail
          go_ret
          exact ⟨ret_bool (decide_eq_false HN.out).symm, hxw.drewN _⟩
      · have hkn : k = n := by omega
        subst hkn
        have HQ := Lib.hid (eq_of_take L1.out L2.out HP.out)
        go_wp2_with fail
        go_ret
        exact ⟨ret_bool (decide_eq_true HQ.out).symm, hxw⟩
  · have hb : ((n : Int) != (m : Int)) = true := by simp; omega
    have HN : Hid (¬ l1 = l2) := by
      show ¬ _
      intro h
      apply hnm
      rw [← L1.out, ← L2.out, h]
    go_enter Tryz.func154, Tryz.ntmps154
    go_wp2_with fail
    go_ret
    exact ⟨ret_bool (decide_eq_false HN.out).symm, HX0.out⟩
set_option maxRecDepth 100000 in
set_option maxHeartbeats 2000000 in
theorem RSameRows_any (A : Option Addr) (n c : Nat) (B : Option Addr) (m d : Nat) (l1 l2 : List Row) (w : World) (h1 : RowsAt w A n l1) (h2 : RowsAt w B m l2) (hn : n ≤ 4611686018427387904) :
    Calls Tryz.prog 110 #[.slice A n c, .slice B m d] w fun e w' => e = .returned (.bool (decide (l1 = l2))) ∧ Ext w w' := by
  have L1 := Lib.hid h1.len
  have L2 := Lib.hid h2.len
  have H1 := Lib.hid h1
  have H2 := Lib.hid h2
  clear h1 h2
  by_cases hnm : n = m
  · subst hnm
    go_enter Tryz.func110, Tryz.ntmps110
    go_wp2_with fail
    go_loopw [13] (fun i wr => EqRel w n l1 l2 i wr) (fun i _ => n - (intOf i).toNat)
    case atStart => exact ⟨0, Nat.zero_le _, rfl, Ext.refl _, rfl⟩
    case round =>
      obtain ⟨k, hk, rfl, hx, hp⟩ := hrel
      have HP := Lib.hid hp
      clear hp
      by_cases hlt : k < n
      · obtain ⟨b1, o1, r, rfl, hr, A1, n1, c1, e1, f1, g1, u1⟩ := (H1.out.ext hx).at_ hlt
        obtain ⟨b2, o2, s, rfl, hs, A2, n2, c2, e2, f2, g2, u2⟩ := (H2.out.ext hx).at_ hlt
        simp only [Nat.mul_one] at e1 e2
        have U1 := Lib.hid u1
        have U2 := Lib.hid u2
        have HR := Lib.hid hr
        have HS := Lib.hid hs
        clear hr hs u1 u2
        have hk0 : (0 : Int) ≤ (k : Int) := by omega
        have hk1 : (k : Int) < (n : Int) := by omega
        go_wp2_with fail
        go_region_held3 (fun w' => w'.cell? ⟨b1, o1 + k, none⟩ = some (.slice A1 n1 c1) ∧ w'.cell? ⟨b2, o2 + k, none⟩ = some (.slice A2 n2 c2)) (first | go_keep | (go_split_ands; refine ⟨?_, ?_⟩ <;> (apply hx1.cell; assumption))) (first | (go_at_call 154; refine (RSame_any A1 n1 c1 A2 n2 c2 r s _ (U1.out.ext (by exact (Ext.refl wr).drew)) (U2.out.ext (by exact (Ext.refl wr).drew)) (by omega)).mono ?_; rintro e w1 ⟨rfl, hx1⟩))
        have hxw1 : Ext w w1 := hx.drew.trans hx1
        by_cases hq : r = s
        · subst hq
          have HT := Lib.hid (take_eq_succ HP.out HR.out HS.out)
          rw [decide_eq_true rfl]
          go_wp2_with fail
          exact ⟨⟨k + 1, by omega, by go_num, hxw1, HT.out⟩, by simp [intOf]; omega⟩
        · have HN := Lib.hid (ne_at HR.out HS.out hq)
          rw [decide_eq_false hq]
          clear hq
          go_wp2_with fail
          go_ret
          exact ⟨ret_bool (decide_eq_false HN.out).symm, hxw1⟩
      · have hkn : k = n := by omega
        subst hkn
        have HQ := Lib.hid (eq_of_take L1.out L2.out HP.out)
        go_wp2_with fail
        go_ret
        exact ⟨ret_bool (decide_eq_true HQ.out).symm, hx⟩
  · have hb : ((n : Int) != (m : Int)) = true := by simp; omega
    have HN : Hid (¬ l1 = l2) := by
      show ¬ _
      intro h
      apply hnm
      rw [← L1.out, ← L2.out, h]
    go_enter Tryz.func110, Tryz.ntmps110
    go_wp2_with fail
    go_ret
    exact ⟨ret_bool (decide_eq_false HN.out).symm, Ext.refl _⟩
end Go.Proofs.YtagfedbdakmlgaaGreatDoor

/-! EqualD -/
namespace Go.Proofs.YtagfedbdakmlgaaGreatDoor
set_option linter.unusedVariables false
set_option linter.unusedSimpArgs false
open Go.RowKit
theorem neq_reg (a b : Reg) (w : World) : (binOp .neq 94 a.val b.val).run Tryz.prog w = .ok (.bool (!decide (a = b))) w := by
  obtain ⟨nm, top, hgt, lft, wid, al, bot⟩ := a
  obtain ⟨nm', top', hgt', lft', wid', al', bot'⟩ := b
  unfold Reg.val
  dsimp only
  go_simp
  simp only [toList_inj]
  repeat' split
  all_goals simp_all
theorem neq_reg_yes (a b : Reg) (h : ¬ a = b) (w : World) : (binOp .neq 94 a.val b.val).run Tryz.prog w = .ok (.bool true) w := by rw [neq_reg, decide_eq_false h]; rfl
theorem neq_reg_no (a : Reg) (w : World) : (binOp .neq 94 a.val a.val).run Tryz.prog w = .ok (.bool false) w := by rw [neq_reg, decide_eq_true rfl]; rfl
end Go.Proofs.YtagfedbdakmlgaaGreatDoor

/-! EqualC -/
namespace Go.Proofs.YtagfedbdakmlgaaGreatDoor
set_option linter.unusedVariables false
set_option linter.unusedSimpArgs false
open Go.RowKit
def Com.aggV (c : Com) : Value := .agg #[.int .i64 c.id, .int .i64 c.ev, .int .i64 c.fr, .int .i64 c.til, .string c.author, .string c.text, .bool c.done, .bool c.lost]
theorem neq_com (a b : Com) (w : World) : (binOp .neq 78 a.aggV b.aggV).run Tryz.prog w = .ok (.bool (!decide (a = b))) w := by
  obtain ⟨id, ev, fr, tl, au, tx, dn, lo⟩ := a
  obtain ⟨id', ev', fr', tl', au', tx', dn', lo'⟩ := b
  unfold Com.aggV
  dsimp only
  go_simp
  simp only [toList_inj]
  repeat' split
  all_goals simp_all
theorem neq_com_yes (a b : Com) (h : ¬ a = b) (w : World) : (binOp .neq 78 a.aggV b.aggV).run Tryz.prog w = .ok (.bool true) w := by rw [neq_com, decide_eq_false h]; rfl
theorem neq_com_no (a : Com) (w : World) : (binOp .neq 78 a.aggV a.aggV).run Tryz.prog w = .ok (.bool false) w := by rw [neq_com, decide_eq_true rfl]; rfl
end Go.Proofs.YtagfedbdakmlgaaGreatDoor

/-! SameE -/
namespace Go.Proofs.YtagfedbdakmlgaaGreatDoor
set_option linter.unusedVariables false
set_option linter.unusedSimpArgs false
open Go.RowKit
theorem eql_span (a b a' b' : Int) (w : World) : (binOp .eql 57 (.agg #[.int .i64 a, .int .i64 b]) (.agg #[.int .i64 a', .int .i64 b'])).run Tryz.prog w = .ok (.bool (decide (a = a' ∧ b = b'))) w := by
  go_simp
  repeat' split
  all_goals simp_all
theorem ev_ne {x y : Ev} (h : ¬ (x.id = y.id ∧ (x.inn = y.inn ∧ x.out = y.out) ∧ x.region.toList = y.region.toList ∧ x.kind = y.kind ∧ x.speaker.toList = y.speaker.toList ∧ x.rows = y.rows)) : decide (x = y) = false :=
  decide_eq_false (by rintro rfl; exact h ⟨rfl, ⟨rfl, rfl⟩, rfl, rfl, rfl, rfl⟩)
theorem ev_eq {x y : Ev} (h1 : x.id = y.id) (h2 : x.inn = y.inn ∧ x.out = y.out) (h3 : x.region.toList = y.region.toList) (h4 : x.kind = y.kind) (h5 : x.speaker.toList = y.speaker.toList) : decide (x = y) = decide (x.rows = y.rows) := by
  obtain ⟨a1, a2, a3, a4, a5, a6, a7⟩ := x
  obtain ⟨b1, b2, b3, b4, b5, b6, b7⟩ := y
  rw [toList_inj] at h3 h5
  simp_all
set_option maxRecDepth 100000 in
set_option maxHeartbeats 4000000 in
theorem RESame_any (x y : Ev) (A : Option Addr) (n c : Nat) (B : Option Addr) (m d : Nat) (w : World) (h1 : EvAt w x A n c) (h2 : EvAt w y B m d) :
    Calls Tryz.prog 46 #[.agg (x.cells A n c), .agg (y.cells B m d)] w fun e w' => e = .returned (.bool (decide (x = y))) ∧ Ext w w' := by
  have hn24 : n * 24 ≤ 140737488355328 := h1.2.2
  have H1 := Lib.hid h1
  have H2 := Lib.hid h2
  clear h1 h2
  have hx := ((Ext.refl w).alloc (.cells (x.cells A n c) 66)).alloc (.cells (y.cells B m d) 66)
  have HX := Lib.hid hx
  clear hx
  unfold Ev.cells at HX ⊢
  by_cases h0 : x.id = y.id
  · have b0 : (x.id == y.id) = true := by simpa using h0
    have E0 := Lib.hid h0
    clear h0
    by_cases h1 : x.inn = y.inn ∧ x.out = y.out
    · have b1 := fun w => (eql_span x.inn x.out y.inn y.out w).trans (by rw [decide_eq_true h1])
      have E1 := Lib.hid h1
      clear h1
      by_cases h2 : x.region.toList = y.region.toList
      · have b2 : (x.region.toList == y.region.toList) = true := by simpa using h2
        have E2 := Lib.hid h2
        clear h2
        by_cases h3 : x.kind = y.kind
        · have b3 : (x.kind == y.kind) = true := by simpa using h3
          have E3 := Lib.hid h3
          clear h3
          by_cases h4 : x.speaker.toList = y.speaker.toList
          · have b4 : (x.speaker.toList == y.speaker.toList) = true := by simpa using h4
            have E4 := Lib.hid h4
            clear h4
            have HF : Hid (decide (x = y) = decide (x.rows = y.rows)) := ev_eq E0.out E1.out E2.out E3.out E4.out
            go_enter Tryz.func46, Tryz.ntmps46
            go_wp2_with fail
            refine (RSameRows_any A n c B m d x.rows y.rows _ (H1.out.1.ext HX.out) (H2.out.1.ext HX.out) (by omega)).mono ?_
            rintro en w1 ⟨rfl, hx1⟩
            go_wp2_with fail
            go_ret
            exact ⟨ret_bool HF.out.symm, HX.out.trans hx1⟩
          · have b4 : (x.speaker.toList == y.speaker.toList) = false := by simpa using h4
            have HF : Hid (decide (x = y) = false) := ev_ne (fun h => h4 h.2.2.2.2.1)
            clear h4
            go_enter Tryz.func46, Tryz.ntmps46
            go_wp2_with fail
            go_ret
            exact ⟨ret_bool HF.out.symm, HX.out⟩
        · have b3 : (x.kind == y.kind) = false := by simpa using h3
          have HF : Hid (decide (x = y) = false) := ev_ne (fun h => h3 h.2.2.2.1)
          clear h3
          go_enter Tryz.func46, Tryz.ntmps46
          go_wp2_with fail
          go_ret
          exact ⟨ret_bool HF.out.symm, HX.out⟩
      · have b2 : (x.region.toList == y.region.toList) = false := by simpa using h2
        have HF : Hid (decide (x = y) = false) := ev_ne (fun h => h2 h.2.2.1)
        clear h2
        go_enter Tryz.func46, Tryz.ntmps46
        go_wp2_with fail
        go_ret
        exact ⟨ret_bool HF.out.symm, HX.out⟩
    · have b1 := fun w => (eql_span x.inn x.out y.inn y.out w).trans (by rw [decide_eq_false h1])
      have HF : Hid (decide (x = y) = false) := ev_ne (fun h => h1 h.2.1)
      clear h1
      go_enter Tryz.func46, Tryz.ntmps46
      go_wp2_with fail
      go_ret
      exact ⟨ret_bool HF.out.symm, HX.out⟩
  · have b0 : (x.id == y.id) = false := by simpa using h0
    have HF : Hid (decide (x = y) = false) := ev_ne (fun h => h0 h.1)
    clear h0
    go_enter Tryz.func46, Tryz.ntmps46
    go_wp2_with fail
    go_ret
    exact ⟨ret_bool HF.out.symm, HX.out⟩
end Go.Proofs.YtagfedbdakmlgaaGreatDoor

/-! EqualF -/
namespace Go.Proofs.YtagfedbdakmlgaaGreatDoor
set_option linter.unusedVariables false
set_option linter.unusedSimpArgs false
open Go.RowKit
end Go.Proofs.YtagfedbdakmlgaaGreatDoor

/-! DSame -/
namespace Go.Proofs.YtagfedbdakmlgaaGreatDoor
set_option linter.unusedVariables false
set_option linter.unusedSimpArgs false
open Go.RowKit
def Doc.hd (d : Doc) : ByteArray × ByteArray × Int × Bool × Int := (d.title, d.lang, d.rate, d.drop, d.last)
def sameDoc (a b : Doc) : Bool := decide (a.hd = b.hd) && (decide (a.regs = b.regs) && (decide (a.evs = b.evs) && decide (a.coms = b.coms)))
theorem sameDoc_self (a : Doc) : sameDoc a a = true := by simp [sameDoc]
end Go.Proofs.YtagfedbdakmlgaaGreatDoor
