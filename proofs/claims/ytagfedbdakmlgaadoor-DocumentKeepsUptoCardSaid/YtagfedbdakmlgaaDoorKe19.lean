/- Laid together: The walk of document.Shift. The walk of event.Join. The walk of the reference's Join. Equality of runs and rows: slices.Equal, style.Same, slices.EqualFunc, style.SameRows; the reference's Same, SameRows. The walks of event.Same and of the reference's Same. Rows whose texts may be written: what stays of them whatever text is put into a run. -/
import Derived.Test.YtagfedbdakmlgaaDoorKe17
import Derived.Test.YtagfedbdakmlgaaDoorKe14
import Derived.Test.YtagfedbdakmlgaaDoorKe16
import Derived.Test.YtagfedbdakmlgaaDoorKe05
import Derived.Test.YtagfedbdakmlgaaDoorKe01
import Derived.Test.YtagfedbdakmlgaaDoorKe02
import Derived.Test.YtagfedbdakmlgaaDoorKe03
import Derived.Test.YtagfedbdakmlgaaDoorKe12

/-! ShiftD -/
namespace Go.Proofs.YtagfedbdakmlgaaDoor
set_option linter.unusedVariables false
set_option linter.unusedSimpArgs false
open Go.RowKit
/-- two stores of cells, one after the other, in a drawn region -/
structure ShJ (p1 : Addr) (v1 : Value) (p2 : Addr) (v2 : Value) (W : World) (us : List Value) (w' : World) : Prop where
  nil : us = [] → Ext W w'
  one : ∀ u, us = [u] → ∃ w5, Ext W w5 ∧ w' = w5.setCell p1 v1
  two : ∀ u u1, us = [u, u1] → ∃ w5, Ext W w5 ∧ w' = (w5.setCell p1 v1).setCell p2 v2
section
variable {p1 p2 : Addr} {v1 v2 : Value} {W w' : World}
theorem ShJ.start (W : World) : ShJ p1 v1 p2 v2 W [] W.drew := ⟨fun _ => (Ext.refl W).drew, fun u h => by simp at h, fun u u1 h => by simp at h⟩
theorem ShJ.sto1 {u : Value} (h : ShJ p1 v1 p2 v2 W [] w') : ShJ p1 v1 p2 v2 W ([] ++ [u]) (w'.setCell p1 v1) := ⟨fun h => by simp at h, fun u hu => ⟨w', h.nil rfl, rfl⟩, fun u u1 h => by simp at h⟩
theorem ShJ.sto2 {w5 : World} {u u1 : Value} (_ : ShJ p1 v1 p2 v2 W [u] (w5.setCell p1 v1)) (hx : Ext W w5) : ShJ p1 v1 p2 v2 W ([u] ++ [u1]) ((w5.setCell p1 v1).setCell p2 v2) := ⟨fun h => by simp at h, fun u hu => by simp at hu, fun u u1 hu => ⟨w5, hx, rfl⟩⟩
end
def ShLoop (d : Doc) (fr sh : Int) (w : World) (h : DocH) (L : Nat) (cs : Array Value) (v : Value) (wr : World) : Prop :=
  ∃ i : Nat, i ≤ h.en ∧ v = .int .i64 i ∧ (d.evs.take i).any (Ev.mvBad fr sh) = false ∧ Ext w wr ∧ Blk wr w.heap.size 39 cs ∧ Blk wr (w.heap.size + 1) 39 docZero ∧ DocOwn wr L (d.withEvs ((d.evs.take i).map (Ev.mv fr sh) ++ d.evs.drop i)) h ∧ L ≤ wr.heap.size
set_option maxRecDepth 100000 in
set_option maxHeartbeats 4000000 in
theorem DShift_any (d : Doc) (h : DocH) (fr sh : Int) (w : World) (hE : Env w) (hat : DocAt w d h) (hf : DocFit d) (hrn : h.rn ≤ 9223372036854775807) (hr : h.rn * 56 ≤ 140737488355328) (hn : h.en ≤ 1000000) (hcn : h.cn ≤ 1000000) :
    Calls Tryd.prog 18 #[.agg (d.cells h), .int .i64 fr, .int .i64 sh] w (DEPost (d.shX fr sh) w) := by
  have HX : Hid (Ext w ((w.alloc (.cells (d.cells h) 39)).alloc (.cells docZero 39))) := ((Ext.refl w).alloc _).alloc _
  have HB : Hid (Blk ((w.alloc (.cells (d.cells h) 39)).alloc (.cells docZero 39)) w.heap.size 39 (d.cells h)) := (Blk.new w _ _).alloc _
  have HZ : Hid (Blk ((w.alloc (.cells (d.cells h) 39)).alloc (.cells docZero 39)) (w.heap.size + 1) 39 docZero) := Blk.new' (by simp)
  have HCk := Lib.hid (fun w' (hx : Ext w w') => DCheck_any d h w' (hE.ext hx) (hat.ext hx) hf hrn hn (by omega))
  have HCl := Lib.hid (fun w' (hx : Ext w w') => DClone_any d h w' (hat.ext hx) hr (by omega) (by omega))
  have HEln := Lib.hid hat.evs.len
  have HAt := Lib.hid hat.coms
  have HCln := Lib.hid hat.coms.len
  have END : ∀ (w9 : World) (e : Int), Ext w w9 → Blk w9 (w.heap.size + 1) 39 docZero → d.shX fr sh = (Doc.zero, e) → ∀ (tmps : Array Value), tmps.getD 6 undef = .pointer (some ⟨w.heap.size + 1, 0, none⟩) → tmps.getD 7 undef = .int .i64 e →
      (results Tryd.f18 tmps).run Tryd.prog (putB w9 (w.heap.size + 1) 39 docZero) = .ok (.tuple #[.agg docZero, .int .i64 e]) (putB w9 (w.heap.size + 1) 39 docZero) ∧
        DEPost (d.shX fr sh) w (.returned (.tuple #[.agg docZero, .int .i64 e])) (putB w9 (w.heap.size + 1) 39 docZero) := fun w9 e hx hz he tmps h8 h9 => by
    refine ⟨?_, dePost_err he (hx.put (by omega) _ _)⟩
    have := results_B_tmp (P := Tryd.prog) Tryd.results18 (tmps := tmps) (w := putB w9 (w.heap.size + 1) 39 docZero) (g := w.heap.size + 1) h8 (hz.put _) Tryd.underlying39 rfl size_docI
    rw [this, h9]
  have HEnd := Lib.hid END
  clear END hat hE hf hrn hr
  obtain ⟨hra, nr, hrc, hea, hen, hec, hca, nc, hcc⟩ := h
  unfold DClPost at HCl
  unfold Doc.cells docZero at *
  dsimp only at *
  go_enter Tryd.func18, Tryd.ntmps18
  go_wp2_with (refine wpList_loadB rfl 39 (.tmp 3) rfl (w.heap.size) 39 _ _ (by exact rfl) (by exact HB.out) Tryd.underlying39 rfl (by exact size_docI) ?_)
  refine (HCk.out _ HX.out).mono ?_
  rintro en w0 ⟨rfl, hx0⟩
  have HX1 := Lib.hid (HX.out.trans hx0)
  have HB1 := Lib.hid (HB.out.ext hx0)
  have HZ1 := Lib.hid (HZ.out.ext hx0)
  clear hx0 HX HB HZ HCk
  by_cases h0 : d.err = 0
  case neg =>
    have hne2 : (d.err != 0) = true := by simpa using h0
    have HR1 : Hid (d.shX fr sh = (Doc.zero, d.err)) := sh_1 h0
    clear h0
    go_wp2_with (refine wpList_storeB rfl 39 (.tmp 6) _ rfl (w.heap.size + 1) 39 _ _ (by exact rfl) (by exact rfl) (by exact HZ1.out) (by exact rfl) (by exact size_docI) (by simp [Value.oneCell']) ?_)
    exact (fun q => bodyPost_ret q.1 rfl q.2) (HEnd.out _ _ HX1.out HZ1.out (HR1.out) _ (by exact rfl) (by exact rfl))
  have HC := Lib.hid h0
  rw [h0]
  clear h0
  by_cases hlo : sh < -5184000
  · have HR1 : Hid (d.shX fr sh = (Doc.zero, 2)) := sh_2 HC.out (.inl hlo)
    go_wp2_with (refine wpList_storeB rfl 39 (.tmp 6) _ rfl (w.heap.size + 1) 39 _ _ (by exact rfl) (by exact rfl) (by exact HZ1.out) (by exact rfl) (by exact size_docI) (by simp [Value.oneCell']) ?_)
    exact (fun q => bodyPost_ret q.1 rfl q.2) (HEnd.out _ _ HX1.out HZ1.out (HR1.out) _ (by exact rfl) (by exact rfl))
  by_cases hhi : 5184000 < sh
  · have HR1 : Hid (d.shX fr sh = (Doc.zero, 2)) := sh_2 HC.out (.inr hhi)
    have hlo2 : -5184000 ≤ sh := by omega
    go_wp2_with (refine wpList_storeB rfl 39 (.tmp 6) _ rfl (w.heap.size + 1) 39 _ _ (by exact rfl) (by exact rfl) (by exact HZ1.out) (by exact rfl) (by exact size_docI) (by simp [Value.oneCell']) ?_)
    exact (fun q => bodyPost_ret q.1 rfl q.2) (HEnd.out _ _ HX1.out HZ1.out (HR1.out) _ (by exact rfl) (by exact rfl))
  have HRg : Hid (¬ (sh < -5184000 ∨ 5184000 < sh)) := by show ¬ _; omega
  go_wp2_with (refine wpList_loadB rfl 39 (.tmp 3) rfl (w.heap.size) 39 _ _ (by exact rfl) (by exact HB1.out) Tryd.underlying39 rfl (by exact size_docI) ?_)
  refine (HCl.out _ HX1.out).mono ?_
  rintro en w5 ⟨⟨ra, rn, rc, ea, en5, ec, ca, cn, cc⟩, rfl, ho5, hx5⟩
  dsimp only
  have hsz := HX1.out.size
  have hszz := HZ1.out.lt
  have hen6 : en5 ≤ 1000000 := by have := ho5.evs.len; have := HEln.out; dsimp only at *; omega
  have hel5 : d.evs.length = en5 := ho5.evs.len
  have HX5 := Lib.hid (HX1.out.trans hx5)
  have HB5 := Lib.hid (HB1.out.ext hx5)
  have HZ5 := Lib.hid (HZ1.out.ext hx5)
  have HO5 := Lib.hid (DocOwn.put ho5 HB5.out #[.string d.title, .string d.lang, .int .u8 d.rate, .bool d.drop, .int .i64 d.last, .slice ra rn rc, .slice ea en5 ec, .slice ca cn cc])
  have HP5 := Lib.hid (HB5.out.put #[.string d.title, .string d.lang, .int .u8 d.rate, .bool d.drop, .int .i64 d.last, .slice ra rn rc, .slice ea en5 ec, .slice ca cn cc])
  have HZ5' := Lib.hid (HZ5.out.put_other (g' := w.heap.size) (t' := 39) (by omega) #[.string d.title, .string d.lang, .int .u8 d.rate, .bool d.drop, .int .i64 d.last, .slice ra rn rc, .slice ea en5 ec, .slice ca cn cc])
  have HX5' := Lib.hid (HX5.out.put (g := w.heap.size) (Nat.le_refl _) 39 #[.string d.title, .string d.lang, .int .u8 d.rate, .bool d.drop, .int .i64 d.last, .slice ra rn rc, .slice ea en5 ec, .slice ca cn cc])
  have hcp := fun o => HP5.out.cell o
  have hx5s := hx5.size
  clear ho5 hx5 HX5 HZ5
  go_upto_region 7 with (refine wpList_storeB rfl 39 (.tmp 3) _ rfl (w.heap.size) 39 _ _ (by exact rfl) (by exact rfl) (by exact HB5.out) (by exact rfl) (by exact size_docI) (by simp [Value.oneCell']) ?_)
  obtain ⟨W, hW⟩ : ∃ W, W = putB w5 w.heap.size 39 #[.string d.title, .string d.lang, .int .u8 d.rate, .bool d.drop, .int .i64 d.last, .slice ra rn rc, .slice ea en5 ec, .slice ca cn cc] := ⟨_, rfl⟩
  rw [← hW] at HO5 HP5 HZ5' HX5' hcp ⊢
  have HWs : Hid (w0.heap.size ≤ W.heap.size) := by show _ ≤ _; rw [hW]; rw [putB_size]; exact hx5s
  clear hW HB5 hx5s
  go_wp2_with fail
  clear hcp
  go_loopw [29] (fun ki wr => ShLoop d fr sh w ⟨ra, rn, rc, ea, en5, ec, ca, cn, cc⟩ w0.heap.size #[.string d.title, .string d.lang, .int .u8 d.rate, .bool d.drop, .int .i64 d.last, .slice ra rn rc, .slice ea en5 ec, .slice ca cn cc] ki wr) (fun ki _ => en5 - (intOf ki).toNat)
  case atStart => exact ⟨0, Nat.zero_le _, rfl, rfl, HX5'.out, HP5.out, HZ5'.out, HO5.out, HWs.out⟩
  case round =>
    obtain ⟨ki, hi, rfl, hany, hx8, hp8, hz8, ho8, hls⟩ := hrel
    dsimp only at hi
    have HAny := Lib.hid hany
    have HX8 := Lib.hid hx8
    have HP8 := Lib.hid hp8
    have HZ8 := Lib.hid hz8
    have HO8 := Lib.hid ho8
    clear hx8 hp8 hz8 ho8 hany HX5' HP5 HZ5' HO5
    have hcp := fun o => HP8.out.cell o
    by_cases hlt : ki < en5
    · obtain ⟨g, hea5, hLg⟩ := HO8.out.ev_at hlt
      dsimp only at hea5
      have heas := hea5
      subst hea5
      obtain ⟨x, hx0⟩ : ∃ x, d.evs[ki]? = some x := ⟨_, List.getElem?_eq_getElem (by omega)⟩
      have hus := upd_step (Ev.mv fr sh) d.evs ki x hx0
      have HNx := Lib.hid (upd_next (Ev.mv fr sh) d.evs ki x hx0)
      have HUs := Lib.hid hus.2
      have HU1 := Lib.hid hus.1
      have HX0 := Lib.hid hx0
      obtain ⟨hb0, hb1, hb2⟩ := evs_in HC.out hx0
      have c1 := (HO8.out.ev_cell (j := 1) (u := .int .i64 x.inn) heas hus.1 (fun _ _ _ => rfl)).1
      have c2 := (HO8.out.ev_cell (j := 2) (u := .int .i64 x.out) heas hus.1 (fun _ _ _ => rfl)).1
      have HHe := Lib.hid heas
      clear hus hx0 heas
      by_cases hfr : x.inn < fr
      · have HMv : Hid (Ev.mv fr sh x = x) := by show _ = _; unfold Ev.mv; rw [if_pos hfr]
        have HNb : Hid (Ev.mvBad fr sh x = false) := by show _ = _; unfold Ev.mvBad; exact decide_eq_false (by omega)
        go_wp2_with fail
        clear hcp
        refine ⟨⟨ki + 1, by dsimp only; omega, by go_num, any_next HX0.out HAny.out HNb.out, HX8.out, HP8.out, HZ8.out, ?_, hls⟩, by simp [intOf]; omega⟩
        rw [HNx.out, HMv.out, ← drop_at d.evs ki x HX0.out]
        exact HO8.out
      have HMv : Hid (Ev.mv fr sh x = ⟨x.id, x.inn + sh, x.out + sh, x.region, x.kind, x.speaker, x.rows⟩) := by show _ = _; unfold Ev.mv; rw [if_neg hfr]
      have HT : Hid (Typed wr 45 g) := by
        obtain ⟨hs, h1, -⟩ := HO8.out.evs
        exact own_typed h1 g rfl
      have hw1 : IntKind.i64.wrap (x.inn + sh) = x.inn + sh := by rw [IntKind.wrap_i64]; omega
      have hw2 : IntKind.i64.wrap (x.out + sh) = x.out + sh := by rw [IntKind.wrap_i64]; omega
      have hil : ki < ((d.evs.take ki).map (Ev.mv fr sh) ++ d.evs.drop ki).length := (List.getElem?_eq_some_iff.1 HU1.out).1
      have q1 := List.getElem?_set_self (a := (⟨x.id, x.inn + sh, x.out, x.region, x.kind, x.speaker, x.rows⟩ : Ev)) hil
      have HS1 := Lib.hid (fun w5 (hx : Ext wr w5) => (HO8.out.ext hx).ev_set (e' := ⟨x.id, x.inn + sh, x.out, x.region, x.kind, x.speaker, x.rows⟩) (j := 1) (u := .int .i64 (x.inn + sh)) HHe.out HU1.out (fun _ _ _ => rfl) rfl (by decide))
      have HF2 : Hid (∀ w5, Ext wr w5 → (w5.setCell ⟨g, ki * 7 + 1, none⟩ (.int .i64 (x.inn + sh))).cell? ⟨g, ki * 7 + 2, none⟩ = some (.int .i64 x.out) ∧ (w5.setCell ⟨g, ki * 7 + 1, none⟩ (.int .i64 (x.inn + sh))).frozen? ⟨g, ki * 7 + 2, none⟩ = false) := fun w5 hx => (HS1.out w5 hx).1.ev_cell (j := 2) HHe.out q1 (fun _ _ _ => rfl)
      have HS2 := Lib.hid (fun w5 (hx : Ext wr w5) => (HS1.out w5 hx).1.ev_set (e' := ⟨x.id, x.inn + sh, x.out + sh, x.region, x.kind, x.speaker, x.rows⟩) (j := 2) (u := .int .i64 (x.out + sh)) HHe.out q1 (fun _ _ _ => rfl) rfl (by decide))
      clear q1 hil
      go_upto_region 12 with fail
      clear hcp
      refine wp_region_links [some 43, some 44, some 45, some 46, some 47, some 48, some 49, some 50, some 51, some 52, some 53, some 54, some 55, some 56, some 57, some 58, none, some 59, some 60, none] [[], [], [], [2], [3], [4], [], [5, 6], [], [8], [9], [10], [], [11, 12], [0, 0, 2, 3, 4, 5, 6, 7, 11], [14, 0, 2, 3, 4, 5, 6, 7, 11], [15, 7, 0, 2, 3, 4, 5, 6, 7, 11], [1, 0, 1, 2, 3, 4, 5, 6, 7, 8, 9, 10, 11, 12, 13, 14, 15, 16], [17, 0, 1, 2, 3, 4, 5, 6, 7, 8, 9, 10, 11, 12, 13, 14, 15, 16], [18, 13, 16, 0, 1, 2, 3, 4, 5, 6, 7, 8, 9, 10, 11, 12, 13, 14, 15, 16]] [16, 19] [.pointer (some ⟨g, ki * 7 + 1, none⟩), .pointer (some ⟨g, ki * 7 + 1, none⟩), .pointer (some ⟨g, ki * 7 + 1, none⟩), .pointer (some ⟨g, ki * 7 + 1, none⟩), .pointer (some ⟨g, ki * 7 + 1, none⟩), .int .i64 x.inn, .int .i64 sh, .int .i64 (x.inn + sh), .pointer (some ⟨g, ki * 7 + 1, none⟩), .pointer (some ⟨g, ki * 7 + 1, none⟩), .pointer (some ⟨g, ki * 7 + 2, none⟩), .int .i64 x.out, .int .i64 sh, .int .i64 (x.out + sh), .pointer (some ⟨g, ki * 7 + 1, none⟩), .pointer (some ⟨g, ki * 7 + 1, none⟩), undef, .pointer (some ⟨g, ki * 7 + 1, none⟩), .pointer (some ⟨g, ki * 7 + 2, none⟩), undef] (ShJ ⟨g, ki * 7 + 1, none⟩ (.int .i64 (x.inn + sh)) ⟨g, ki * 7 + 2, none⟩ (.int .i64 (x.out + sh)) wr) (by kernel_rfl) (by kernel_rfl) (by kernel_rfl) (by kernel_rfl) (by kernel_rfl) (by kernel_rfl) (by kernel_rfl) (by decide) ?_ ?_ ?_ ?_
      · exact ShJ.start wr
      · intro i o ho hc a w' us K' hJ hF hlim hk
        match i, ho with
        | 0, ho =>
          simp only [List.getElem?_toArray, List.getElem?_cons_zero, List.getElem?_cons_succ, Option.some.injEq] at ho
          subst ho
          have e10 := hF.old 10 (.pointer (some ⟨g, ki * 7 + 1, none⟩)) rfl rfl
          simp only [Act.eval] at e10
          clear hF hlim hJ
          go_simp
          exact hk
        | 1, ho =>
          simp only [List.getElem?_toArray, List.getElem?_cons_zero, List.getElem?_cons_succ, Option.some.injEq] at ho
          subst ho
          have e10 := hF.old 10 (.pointer (some ⟨g, ki * 7 + 1, none⟩)) rfl rfl
          simp only [Act.eval] at e10
          clear hF hlim hJ
          go_simp
          exact hk
        | 2, ho =>
          simp only [List.getElem?_toArray, List.getElem?_cons_zero, List.getElem?_cons_succ, Option.some.injEq] at ho
          subst ho
          have e10 := hF.old 10 (.pointer (some ⟨g, ki * 7 + 1, none⟩)) rfl rfl
          simp only [Act.eval] at e10
          clear hF hlim hJ
          go_simp
          exact hk
        | 3, ho =>
          simp only [List.getElem?_toArray, List.getElem?_cons_zero, List.getElem?_cons_succ, Option.some.injEq] at ho
          subst ho
          have e45 := hF.pure 2 45 (.pointer (some ⟨g, ki * 7 + 1, none⟩)) rfl rfl rfl rfl
          simp only [Act.eval] at e45
          clear hF hlim hJ
          go_simp
          exact hk
        | 4, ho =>
          simp only [List.getElem?_toArray, List.getElem?_cons_zero, List.getElem?_cons_succ, Option.some.injEq] at ho
          subst ho
          have e46 := hF.pure 3 46 (.pointer (some ⟨g, ki * 7 + 1, none⟩)) rfl rfl rfl rfl
          simp only [Act.eval] at e46
          clear hF hlim hJ
          go_simp
          exact hk
        | 5, ho =>
          simp only [List.getElem?_toArray, List.getElem?_cons_zero, List.getElem?_cons_succ, Option.some.injEq] at ho
          subst ho
          have e47 := hF.pure 4 47 (.pointer (some ⟨g, ki * 7 + 1, none⟩)) rfl rfl rfl rfl
          obtain rfl : us = [] := List.eq_nil_of_length_eq_zero (by have := hlim 0 16 rfl rfl; omega)
          have hcl := (hJ.nil rfl).cell c1
          simp only [Act.eval] at e47
          clear hF hlim hJ
          go_simp
          exact hk
        | 6, ho =>
          simp only [List.getElem?_toArray, List.getElem?_cons_zero, List.getElem?_cons_succ, Option.some.injEq] at ho
          subst ho
          have e2 := hF.old 2 (.int .i64 sh) rfl rfl
          simp only [Act.eval] at e2
          clear hF hlim hJ
          go_simp
          exact hk
        | 7, ho =>
          simp only [List.getElem?_toArray, List.getElem?_cons_zero, List.getElem?_cons_succ, Option.some.injEq] at ho
          subst ho
          have e48 := hF.pure 5 48 (.int .i64 x.inn) rfl rfl rfl rfl
          have e49 := hF.pure 6 49 (.int .i64 sh) rfl rfl rfl rfl
          simp only [Act.eval] at e48 e49
          clear hF hlim hJ
          go_simp
          exact hk
        | 8, ho =>
          simp only [List.getElem?_toArray, List.getElem?_cons_zero, List.getElem?_cons_succ, Option.some.injEq] at ho
          subst ho
          have e10 := hF.old 10 (.pointer (some ⟨g, ki * 7 + 1, none⟩)) rfl rfl
          simp only [Act.eval] at e10
          clear hF hlim hJ
          go_simp
          exact hk
        | 9, ho =>
          simp only [List.getElem?_toArray, List.getElem?_cons_zero, List.getElem?_cons_succ, Option.some.injEq] at ho
          subst ho
          have e51 := hF.pure 8 51 (.pointer (some ⟨g, ki * 7 + 1, none⟩)) rfl rfl rfl rfl
          simp only [Act.eval] at e51
          clear hF hlim hJ
          go_simp
          exact hk
        | 10, ho =>
          simp only [List.getElem?_toArray, List.getElem?_cons_zero, List.getElem?_cons_succ, Option.some.injEq] at ho
          subst ho
          have e52 := hF.pure 9 52 (.pointer (some ⟨g, ki * 7 + 1, none⟩)) rfl rfl rfl rfl
          simp only [Act.eval] at e52
          clear hF hlim hJ
          go_simp
          exact hk
        | 11, ho =>
          simp only [List.getElem?_toArray, List.getElem?_cons_zero, List.getElem?_cons_succ, Option.some.injEq] at ho
          subst ho
          have e53 := hF.pure 10 53 (.pointer (some ⟨g, ki * 7 + 2, none⟩)) rfl rfl rfl rfl
          obtain rfl : us = [] := List.eq_nil_of_length_eq_zero (by have := hlim 0 16 rfl rfl; omega)
          have hcl := (hJ.nil rfl).cell c2
          simp only [Act.eval] at e53
          clear hF hlim hJ
          go_simp
          exact hk
        | 12, ho =>
          simp only [List.getElem?_toArray, List.getElem?_cons_zero, List.getElem?_cons_succ, Option.some.injEq] at ho
          subst ho
          have e2 := hF.old 2 (.int .i64 sh) rfl rfl
          simp only [Act.eval] at e2
          clear hF hlim hJ
          go_simp
          exact hk
        | 13, ho =>
          simp only [List.getElem?_toArray, List.getElem?_cons_zero, List.getElem?_cons_succ, Option.some.injEq] at ho
          subst ho
          have e54 := hF.pure 11 54 (.int .i64 x.out) rfl rfl rfl rfl
          have e55 := hF.pure 12 55 (.int .i64 sh) rfl rfl rfl rfl
          simp only [Act.eval] at e54 e55
          clear hF hlim hJ
          go_simp
          exact hk
        | 14, ho =>
          simp only [List.getElem?_toArray, List.getElem?_cons_zero, List.getElem?_cons_succ, Option.some.injEq] at ho
          subst ho
          have e43 := hF.pure 0 43 (.pointer (some ⟨g, ki * 7 + 1, none⟩)) rfl rfl rfl rfl
          simp only [Act.eval] at e43
          clear hF hlim hJ
          go_simp
          exact hk
        | 15, ho =>
          simp only [List.getElem?_toArray, List.getElem?_cons_zero, List.getElem?_cons_succ, Option.some.injEq] at ho
          subst ho
          have e57 := hF.pure 14 57 (.pointer (some ⟨g, ki * 7 + 1, none⟩)) rfl rfl rfl rfl
          simp only [Act.eval] at e57
          clear hF hlim hJ
          go_simp
          exact hk
        | 16, ho => simp at hc
        | 17, ho =>
          simp only [List.getElem?_toArray, List.getElem?_cons_zero, List.getElem?_cons_succ, Option.some.injEq] at ho
          subst ho
          have e44 := hF.pure 1 44 (.pointer (some ⟨g, ki * 7 + 1, none⟩)) rfl rfl rfl rfl
          simp only [Act.eval] at e44
          clear hF hlim hJ
          go_simp
          exact hk
        | 18, ho =>
          simp only [List.getElem?_toArray, List.getElem?_cons_zero, List.getElem?_cons_succ, Option.some.injEq] at ho
          subst ho
          have e59 := hF.pure 17 59 (.pointer (some ⟨g, ki * 7 + 1, none⟩)) rfl rfl rfl rfl
          simp only [Act.eval] at e59
          clear hF hlim hJ
          go_simp
          exact hk
        | 19, ho => simp at hc
        | i + 20, ho => simp at ho
      · intro p c' o hp ho a w' us K' hl hJ hF hk
        match p, hp with
        | 0, hp =>
          obtain rfl : 16 = c' := by simpa using hp
          simp only [List.getElem?_toArray, List.getElem?_cons_zero, List.getElem?_cons_succ, Option.some.injEq] at ho
          subst ho
          obtain rfl : us = [] := List.eq_nil_of_length_eq_zero hl
          have e58 := hF.pure 15 58 (.pointer (some ⟨g, ki * 7 + 1, none⟩)) rfl rfl rfl rfl
          have e50 := hF.pure 7 50 (.int .i64 (x.inn + sh)) rfl rfl rfl rfl
          have hc := (hJ.nil rfl).cell c1
          have hf := (HT.out.ext (hJ.nil rfl)).frozen (ki * 7 + 1)
          simp only [Act.eval] at e50 e58
          have HK := Lib.hid (hk (.tuple #[]) _ hJ.sto1)
          clear hk hF hJ
          go_simp
          exact HK.out
        | 1, hp =>
          obtain rfl : 19 = c' := by simpa using hp
          simp only [List.getElem?_toArray, List.getElem?_cons_zero, List.getElem?_cons_succ, Option.some.injEq] at ho
          subst ho
          obtain ⟨u0, rfl⟩ := list_1 hl
          obtain ⟨w5, hx5, rfl⟩ := hJ.one u0 rfl
          have e60 := hF.pure 18 60 (.pointer (some ⟨g, ki * 7 + 2, none⟩)) rfl rfl rfl rfl
          have e56 := hF.pure 13 56 (.int .i64 (x.out + sh)) rfl rfl rfl rfl
          obtain ⟨hc, hf⟩ := HF2.out w5 hx5
          simp only [Act.eval] at e56 e60
          have HK := Lib.hid (hk (.tuple #[]) _ (hJ.sto2 hx5))
          clear hk hF hJ
          go_simp
          exact HK.out
        | p + 2, hp => simp at hp
      intro us w9 hl hJ
      obtain ⟨u0, u1, rfl⟩ := list_2 hl
      first | (rename_i hK; refine hK _ _ ?_; clear hK) | (rename_i hK hK_1; refine hK _ _ ?_; clear hK) | (rename_i hK hK_1 hK_2; refine hK _ _ ?_; clear hK) | (rename_i hK hK_1 hK_2 hK_3; refine hK _ _ ?_; clear hK)
      generalize hL : frameL _ _ _ _ = L
      obtain rfl : L = [(43, .pointer (some ⟨g, ki * 7 + 1, none⟩)), (44, .pointer (some ⟨g, ki * 7 + 1, none⟩)), (45, .pointer (some ⟨g, ki * 7 + 1, none⟩)), (46, .pointer (some ⟨g, ki * 7 + 1, none⟩)), (47, .pointer (some ⟨g, ki * 7 + 1, none⟩)), (48, .int .i64 x.inn), (49, .int .i64 sh), (50, .int .i64 (x.inn + sh)), (51, .pointer (some ⟨g, ki * 7 + 1, none⟩)), (52, .pointer (some ⟨g, ki * 7 + 1, none⟩)), (53, .pointer (some ⟨g, ki * 7 + 2, none⟩)), (54, .int .i64 x.out), (55, .int .i64 sh), (56, .int .i64 (x.out + sh)), (57, .pointer (some ⟨g, ki * 7 + 1, none⟩)), (58, .pointer (some ⟨g, ki * 7 + 1, none⟩)), (59, .pointer (some ⟨g, ki * 7 + 1, none⟩)), (60, .pointer (some ⟨g, ki * 7 + 2, none⟩))] := hL.symm.trans (by kernel_rfl)
      clear hL hl
      simp only [Act.put, List.foldl_cons, List.foldl_nil, List.setIfInBounds_toArray, List.set_cons_zero, List.set_cons_succ]
      obtain ⟨w5', hx5, rfl⟩ := hJ.two u0 u1 rfl
      clear hJ
      have n1 : some w.heap.size ≠ some g := by intro h; injection h; omega
      have n2 : some (w.heap.size + 1) ≠ some g := by intro h; injection h; omega
      have g1 := (HS1.out w5' hx5).2
      have g2 := (HS2.out w5' hx5).2
      have HX9 := Lib.hid (((HX8.out.trans hx5).setCell (p := ⟨g, ki * 7 + 1, none⟩) (show w.heap.size ≤ g by omega) (.int .i64 (x.inn + sh))).setCell (p := ⟨g, ki * 7 + 2, none⟩) (show w.heap.size ≤ g by omega) (.int .i64 (x.out + sh)))
      have HP9 := Lib.hid (blk_away (blk_away (HP8.out.ext hx5) g1 n1) g2 n1)
      have HZ9 := Lib.hid (blk_away (blk_away (HZ8.out.ext hx5) g1 n2) g2 n2)
      have HO9 : Hid (DocOwn ((w5'.setCell ⟨g, ki * 7 + 1, none⟩ (.int .i64 (x.inn + sh))).setCell ⟨g, ki * 7 + 2, none⟩ (.int .i64 (x.out + sh))) w0.heap.size (d.withEvs ((d.evs.take (ki + 1)).map (Ev.mv fr sh) ++ d.evs.drop (ki + 1))) ⟨ra, rn, rc, some ⟨g, 0, none⟩, en5, ec, ca, cn, cc⟩) := by
        rw [HNx.out, HMv.out, ← HUs.out]
        have h9 : DocOwn _ _ (d.withEvs ((((d.evs.take ki).map (Ev.mv fr sh) ++ d.evs.drop ki).set ki ⟨x.id, x.inn + sh, x.out, x.region, x.kind, x.speaker, x.rows⟩).set ki ⟨x.id, x.inn + sh, x.out + sh, x.region, x.kind, x.speaker, x.rows⟩)) _ := (HS2.out w5' hx5).1
        rw [List.set_set] at h9
        exact h9
      have hu9 : (d.withEvs ((d.evs.take (ki + 1)).map (Ev.mv fr sh) ++ d.evs.drop (ki + 1))).evs[ki]? = some ⟨x.id, x.inn + sh, x.out + sh, x.region, x.kind, x.speaker, x.rows⟩ := by
        show ((d.evs.take (ki + 1)).map (Ev.mv fr sh) ++ d.evs.drop (ki + 1))[ki]? = _
        rw [HNx.out, HMv.out, ← HUs.out]
        exact List.getElem?_set_self (List.getElem?_eq_some_iff.1 HU1.out).1
      have d1 := (HO9.out.ev_cell (j := 1) (u := .int .i64 (x.inn + sh)) HHe.out hu9 (fun _ _ _ => rfl)).1
      have d2 := (HO9.out.ev_cell (j := 2) (u := .int .i64 (x.out + sh)) HHe.out hu9 (fun _ _ _ => rfl)).1
      have hls9 : w0.heap.size ≤ ((w5'.setCell ⟨g, ki * 7 + 1, none⟩ (.int .i64 (x.inn + sh))).setCell ⟨g, ki * 7 + 2, none⟩ (.int .i64 (x.out + sh))).heap.size := Nat.le_trans (Nat.le_trans hls hx5.size) (Nat.le_trans g1.size g2.size)
      obtain ⟨W9, hW9⟩ : ∃ W9, W9 = ((w5'.setCell ⟨g, ki * 7 + 1, none⟩ (.int .i64 (x.inn + sh))).setCell ⟨g, ki * 7 + 2, none⟩ (.int .i64 (x.out + sh))) := ⟨_, rfl⟩
      rw [← hW9] at HX9 HP9 HZ9 HO9 d1 d2 hls9 ⊢
      clear hW9 g1 g2 n1 n2 HS1 HS2 HF2 HX8 HP8 HZ8 HO8 hx5 hu9 c1 c2 hw1 hw2
      by_cases hk1 : x.inn + sh < 0
      · have HR1 : Hid (d.shX fr sh = (Doc.zero, 2)) := sh_3 HC.out (mv_bad HX0.out (by unfold Ev.mvBad; exact decide_eq_true ⟨hfr, .inl hk1⟩))
        go_wp2_with (refine wpList_storeB rfl 39 (.tmp 6) _ rfl (w.heap.size + 1) 39 _ _ (by exact rfl) (by exact rfl) (by exact HZ9.out) (by exact rfl) (by exact size_docI) (by simp [Value.oneCell']) ?_)
        exact (fun q => bodyPost_ret q.1 rfl q.2) (HEnd.out _ _ HX9.out HZ9.out (HR1.out) _ (by exact rfl) (by exact rfl))
      by_cases hk2 : 5184000 < x.out + sh
      · have HR1 : Hid (d.shX fr sh = (Doc.zero, 2)) := sh_3 HC.out (mv_bad HX0.out (by unfold Ev.mvBad; exact decide_eq_true ⟨hfr, .inr hk2⟩))
        go_wp2_with (refine wpList_storeB rfl 39 (.tmp 6) _ rfl (w.heap.size + 1) 39 _ _ (by exact rfl) (by exact rfl) (by exact HZ9.out) (by exact rfl) (by exact size_docI) (by simp [Value.oneCell']) ?_)
        exact (fun q => bodyPost_ret q.1 rfl q.2) (HEnd.out _ _ HX9.out HZ9.out (HR1.out) _ (by exact rfl) (by exact rfl))
      have HNb : Hid (Ev.mvBad fr sh x = false) := by show _ = _; unfold Ev.mvBad; exact decide_eq_false (by omega)
      go_wp2_with fail
      refine ⟨⟨ki + 1, by dsimp only; omega, by go_num, any_next HX0.out HAny.out HNb.out, HX9.out, HP9.out, HZ9.out, HO9.out, hls9⟩, by simp [intOf]; omega⟩
    · have hin : ki = en5 := by omega
      subst hin
      have HR1 : Hid (d.shX fr sh = (d.withEvs (srtE (d.evs.map (Ev.mv fr sh))), 0)) := sh_4 HC.out HRg.out (by have h := HAny.out; rw [List.take_of_length_le (by omega)] at h; exact h)
      have HO9 : Hid (DocOwn wr w0.heap.size (d.withEvs (d.evs.map (Ev.mv fr sh))) ⟨ra, rn, rc, ea, ki, ec, ca, cn, cc⟩) := by
        have h9 := HO8.out
        rw [List.take_of_length_le (by omega), List.drop_eq_nil_of_le (by omega), List.append_nil] at h9
        exact h9
      clear HO8
      have hfp := fun o => HP8.out.frozen o
      go_upto_region 16 with fail
      go_wp2_with fail
      refine (DSort_any _ _ _ _ _ HO9.out.at_.evs (show ki * 88 ≤ _ by omega)).mono ?_
      rintro en w7 ⟨v7, rfl, hev7, hx7⟩
      obtain ⟨A7, c7, hv7, -, -, -⟩ := hev7.at_
      subst hv7
      have hle := HX8.out.size
      have hsw : w0.heap.size ≤ wr.heap.size := hls
      have hO7 := HO9.out.ext hx7
      have HX7 := Lib.hid (HX8.out.trans hx7)
      have HP7 := Lib.hid (HP8.out.ext hx7)
      have HZ7 := Lib.hid (HZ8.out.ext hx7)
      have HO7 : Hid (DocOwn w7 w0.heap.size (d.withEvs (srtE (d.evs.map (Ev.mv fr sh)))) ⟨ra, rn, rc, A7, ki, c7, ca, cn, cc⟩) := ⟨hO7.regs, hO7.rlen, hev7.le hsw, hO7.coms, hO7.clen⟩
      clear hcp hfp hO7 hev7 hx7 HX8 HP8 HZ8 HO9
      have hs7 := setCell_put HP7.out 6 (.slice A7 ki c7)
      have hc7 := HP7.out.cell 6
      have hf7 := HP7.out.frozen 6
      simp at hs7 hc7
      have HP9 := Lib.hid (HP7.out.put #[.string d.title, .string d.lang, .int .u8 d.rate, .bool d.drop, .int .i64 d.last, .slice ra rn rc, .slice A7 ki c7, .slice ca cn cc])
      have HZ9 := Lib.hid (HZ7.out.put_other (g' := w.heap.size) (t' := 39) (by omega) #[.string d.title, .string d.lang, .int .u8 d.rate, .bool d.drop, .int .i64 d.last, .slice ra rn rc, .slice A7 ki c7, .slice ca cn cc])
      have HX9 := Lib.hid (HX7.out.put (g := w.heap.size) (Nat.le_refl _) 39 #[.string d.title, .string d.lang, .int .u8 d.rate, .bool d.drop, .int .i64 d.last, .slice ra rn rc, .slice A7 ki c7, .slice ca cn cc])
      have HO9 := Lib.hid (HO7.out.put HP7.out #[.string d.title, .string d.lang, .int .u8 d.rate, .bool d.drop, .int .i64 d.last, .slice ra rn rc, .slice A7 ki c7, .slice ca cn cc])
      go_wp2_with (first | (refine wpList_loadB rfl 39 (.tmp 3) rfl (w.heap.size) 39 _ _ (by exact rfl) (by exact HP9.out) Tryd.underlying39 rfl (by exact size_docI) ?_) | (refine wpList_storeB rfl 39 (.tmp 6) _ rfl (w.heap.size + 1) 39 _ _ (by exact rfl) (by exact rfl) (by exact HZ9.out) (by exact rfl) (by exact size_docI) (by simp [Value.oneCell']) ?_))
      refine bodyPost_ret (v := .tuple #[.agg ((d.shX fr sh).1.cells ⟨ra, rn, rc, A7, ki, c7, ca, cn, cc⟩), .int .i64 (d.shX fr sh).2]) ?_ rfl ⟨⟨ra, rn, rc, A7, ki, c7, ca, cn, cc⟩, rfl, ?_, ?_⟩
      · rw [HR1.out]
        exact results_B_tmp (P := Tryd.prog) Tryd.results18 (g := w.heap.size + 1) rfl (by exact HZ9.out.put _) Tryd.underlying39 rfl size_docI
      · rw [HR1.out]
        exact (HO9.out.le hsz).put HZ9.out _
      · exact HX9.out.put (by omega) _ _
end Go.Proofs.YtagfedbdakmlgaaDoor

/-! Join -/
namespace Go.Proofs.YtagfedbdakmlgaaDoor
set_option linter.unusedVariables false
set_option linter.unusedSimpArgs false
open Go.RowKit
/-- what the region 'out.Rows = append(out.Rows, Clone(b.Rows)...)' has come to behind each of its links -/
def JoinSt (x y : Ev) (A1 : Option Addr) (n c1 m g6 : Nat) (w w3 : World) : List Value → World → Prop
  | [], w' => Ext w3 w'
  | [v], w' => ∃ A4 c4 hs2, v = .slice A4 m c4 ∧ Ext w3 w' ∧ Sl w' 1 (Cells fun h => [Hd.val h]) A4 m hs2 ∧ hs2.length = m ∧ Goods w' hs2 y.rows ∧ y.rows.length = m ∧ ∀ h ∈ hs2, Fresh w' 66 w.heap.size h.1
  | [_, v], w' => ∃ A5 c5, v = .slice A5 (n + m) c5 ∧ n + m ≤ c5 ∧ RowsOwn w' w.heap.size A5 (n + m) c5 (x.rows ++ y.rows) ∧ Below w.heap.size w w' ∧ w3.heap.size ≤ w'.heap.size ∧ (∀ g t cs, Blk w3 g t cs → t ≠ 61 → Blk w' g t cs)
  | [_, _, _], w' => ∃ A5 c5, n + m ≤ c5 ∧ RowsOwn w' w.heap.size A5 (n + m) c5 (x.rows ++ y.rows) ∧ Ext w w' ∧ w3.heap.size ≤ w'.heap.size ∧ (∀ g t cs, Blk w3 g t cs → t ≠ 61 → g ≠ g6 → Blk w' g t cs) ∧ Blk w' g6 45 (x.cells A5 (n + m) c5)
  | _, _ => False
end Go.Proofs.YtagfedbdakmlgaaDoor

/-! RJoin -/
namespace Go.Proofs.YtagfedbdakmlgaaDoor
set_option linter.unusedVariables false
set_option linter.unusedSimpArgs false
open Go.RowKit
def RJoinSt (x y : Ev) (A1 : Option Addr) (n c1 m g6 : Nat) (w w3 : World) : List Value → World → Prop
  | [], w' => Ext w3 w'
  | [v], w' => ∃ A4 c4 hs2, v = .agg (y.cells A4 m c4) ∧ Ext w3 w' ∧ Sl w' 1 (Cells fun h => [Hd.val h]) A4 m hs2 ∧ hs2.length = m ∧ Goods w' hs2 y.rows ∧ y.rows.length = m ∧ ∀ h ∈ hs2, Fresh w' 66 w.heap.size h.1
  | [_, v], w' => ∃ A4 c4 hs2, v = .slice A4 m c4 ∧ Ext w3 w' ∧ Sl w' 1 (Cells fun h => [Hd.val h]) A4 m hs2 ∧ hs2.length = m ∧ Goods w' hs2 y.rows ∧ y.rows.length = m ∧ ∀ h ∈ hs2, Fresh w' 66 w.heap.size h.1
  | [_, _, v], w' => ∃ A5 c5, v = .slice A5 (n + m) c5 ∧ n + m ≤ c5 ∧ RowsOwn w' w.heap.size A5 (n + m) c5 (x.rows ++ y.rows) ∧ Below w.heap.size w w' ∧ w3.heap.size ≤ w'.heap.size ∧ (∀ g t cs, Blk w3 g t cs → t ≠ 61 → Blk w' g t cs)
  | [_, _, _, _], w' => ∃ A5 c5, n + m ≤ c5 ∧ RowsOwn w' w.heap.size A5 (n + m) c5 (x.rows ++ y.rows) ∧ Ext w w' ∧ w3.heap.size ≤ w'.heap.size ∧ (∀ g t cs, Blk w3 g t cs → t ≠ 61 → g ≠ g6 → Blk w' g t cs) ∧ Blk w' g6 45 (x.cells A5 (n + m) c5)
  | _, _ => False
/-- the region that sets the span of the joined event -/
def RJ7 (x y : Ev) (A5 : Option Addr) (k c5 g6 : Nat) (w6 : World) : List Value → World → Prop
  | [], w' => w' = w6.drew
  | [_], w' => w' = putB w6.drew g6 45 ((x.cells A5 k c5).setIfInBounds 1 (.int .i64 (min x.inn y.inn)))
  | [_, _], w' => w' = putB w6.drew g6 45 ((x.joined y).cells A5 k c5)
  | _, _ => False
end Go.Proofs.YtagfedbdakmlgaaDoor

/-! Same -/
namespace Go.Proofs.YtagfedbdakmlgaaDoor
set_option linter.unusedVariables false
set_option linter.unusedSimpArgs false
open Go.RowKit
theorem neq_run (a b : Run) (w : World) : (binOp .neq 66 a.val b.val).run Tryd.prog w = .ok (.bool (!decide (a = b))) w := by
  obtain ⟨t1, c1, i1, u1, r1⟩ := a
  obtain ⟨t2, c2, i2, u2, r2⟩ := b
  unfold Run.val
  dsimp only
  go_simp
  simp only [toList_inj]
  repeat' split
  all_goals simp_all
theorem neq_run_yes (a b : Run) (h : ¬ a = b) (w : World) : (binOp .neq 66 a.val b.val).run Tryd.prog w = .ok (.bool true) w := by rw [neq_run, decide_eq_false h]; rfl
theorem neq_run_no (a : Run) (w : World) : (binOp .neq 66 a.val a.val).run Tryd.prog w = .ok (.bool false) w := by rw [neq_run, decide_eq_true rfl]; rfl
def EqRel {α : Type} (w : World) (n : Nat) (l1 l2 : List α) (i : Value) (wr : World) : Prop := ∃ k : Nat, k ≤ n ∧ i = .int .i64 k ∧ Ext w wr ∧ l1.take k = l2.take k
theorem eq_of_take {α : Type} {l1 l2 : List α} {n : Nat} (h1 : l1.length = n) (h2 : l2.length = n) (h : l1.take n = l2.take n) : l1 = l2 := by
  rw [List.take_of_length_le (by omega), List.take_of_length_le (by omega)] at h
  exact h
theorem take_eq_succ {α : Type} {l1 l2 : List α} {k : Nat} {x : α} (h : l1.take k = l2.take k) (h1 : l1[k]? = some x) (h2 : l2[k]? = some x) : l1.take (k + 1) = l2.take (k + 1) := by
  rw [List.take_add_one, List.take_add_one, h, h1, h2]
theorem ne_at {α : Type} {l1 l2 : List α} {k : Nat} {x y : α} (h1 : l1[k]? = some x) (h2 : l2[k]? = some y) (h : ¬ x = y) : ¬ l1 = l2 := by
  rintro rfl
  rw [h1] at h2
  exact h (Option.some.inj h2)
set_option maxRecDepth 100000 in
set_option maxHeartbeats 2000000 in
theorem RSame_any (A : Option Addr) (n c : Nat) (B : Option Addr) (m d : Nat) (l1 l2 : Row) (w : World) (h1 : RunsAt w A n l1) (h2 : RunsAt w B m l2) (hn : n ≤ 4611686018427387904) :
    Calls Tryd.prog 74 #[.agg #[.slice A n c], .agg #[.slice B m d]] w fun e w' => e = .returned (.bool (decide (l1 = l2))) ∧ Ext w w' := by
  have L1 := Lib.hid h1.len
  have L2 := Lib.hid h2.len
  have H1 := Lib.hid h1
  have H2 := Lib.hid h2
  clear h1 h2
  have hx0 := ((Ext.refl w).alloc (.cells #[.slice A n c] 61)).alloc (.cells #[.slice B m d] 61)
  have HX0 := Lib.hid hx0
  clear hx0
  by_cases hnm : n = m
  · subst hnm
    go_enter Tryd.func74, Tryd.ntmps74
    go_wp2_with fail
    go_loopw [16] (fun i wr => EqRel ((w.alloc (.cells #[.slice A n c] 61)).alloc (.cells #[.slice B n d] 61)) n l1 l2 i wr) (fun i _ => n - (intOf i).toNat)
    case atStart => exact ⟨0, Nat.zero_le _, rfl, Ext.refl _, rfl⟩
    case round =>
      obtain ⟨k, hk, rfl, hx, hp⟩ := hrel
      have HP := Lib.hid hp
      clear hp
      have hxw : Ext w wr := HX0.out.trans hx
      have hca := (((Blk.new w _ _).alloc _).ext hx).cell 0
      have hcb := ((Blk.new' (g := w.heap.size + 1) (w := w.alloc _) (by simp)).ext hx).cell 0
      simp at hca hcb
      by_cases hlt : k < n
      · obtain ⟨b1, o1, r, rfl, hr, c0, c1, c2, c3, c4⟩ := (H1.out.ext hxw).at_ hlt
        obtain ⟨b2, o2, s, rfl, hs, d0, d1, d2, d3, d4⟩ := (H2.out.ext hxw).at_ hlt
        have HR := Lib.hid hr
        have HS := Lib.hid hs
        clear hr hs
        have hk0 : (0 : Int) ≤ (k : Int) := by omega
        have hk1 : (k : Int) < (n : Int) := by omega
        by_cases hq : r = s
        · subst hq
          have HT := Lib.hid (take_eq_succ HP.out HR.out HS.out)
          have hne := fun w => neq_run_no r w
          unfold Run.val at hne
          go_wp2_with fail
          go_quiet (fail)
          go_wp2_with fail
          exact ⟨⟨k + 1, by omega, by go_num, hx.drewN _, HT.out⟩, by simp [intOf]; omega⟩
        · have hne := fun w => neq_run_yes r s hq w
          have HN := Lib.hid (ne_at HR.out HS.out hq)
          unfold Run.val at hne
          clear hq
          go_wp2_with fail
          go_quiet (fail)
          go_wp2_with fail
          go_ret
          exact ⟨ret_bool (decide_eq_false HN.out).symm, hxw.drewN _⟩
      · have hkn : k = n := by omega
        subst hkn
        have HQ := Lib.hid (eq_of_take L1.out L2.out HP.out)
        go_wp2_with fail
        go_ret
        exact ⟨ret_bool (decide_eq_true HQ.out).symm, hxw⟩
  · have hb : ((n : Int) != (m : Int)) = true := by simp; omega
    have HN : Hid (¬ l1 = l2) := by
      show ¬ _
      intro h
      apply hnm
      rw [← L1.out, ← L2.out, h]
    go_enter Tryd.func74, Tryd.ntmps74
    go_wp2_with fail
    go_ret
    exact ⟨ret_bool (decide_eq_false HN.out).symm, HX0.out⟩
set_option maxRecDepth 100000 in
set_option maxHeartbeats 2000000 in
theorem RSameRows_any (A : Option Addr) (n c : Nat) (B : Option Addr) (m d : Nat) (l1 l2 : List Row) (w : World) (h1 : RowsAt w A n l1) (h2 : RowsAt w B m l2) (hn : n ≤ 4611686018427387904) :
    Calls Tryd.prog 45 #[.slice A n c, .slice B m d] w fun e w' => e = .returned (.bool (decide (l1 = l2))) ∧ Ext w w' := by
  have L1 := Lib.hid h1.len
  have L2 := Lib.hid h2.len
  have H1 := Lib.hid h1
  have H2 := Lib.hid h2
  clear h1 h2
  by_cases hnm : n = m
  · subst hnm
    go_enter Tryd.func45, Tryd.ntmps45
    go_wp2_with fail
    go_loopw [13] (fun i wr => EqRel w n l1 l2 i wr) (fun i _ => n - (intOf i).toNat)
    case atStart => exact ⟨0, Nat.zero_le _, rfl, Ext.refl _, rfl⟩
    case round =>
      obtain ⟨k, hk, rfl, hx, hp⟩ := hrel
      have HP := Lib.hid hp
      clear hp
      by_cases hlt : k < n
      · obtain ⟨b1, o1, r, rfl, hr, A1, n1, c1, e1, f1, g1, u1⟩ := (H1.out.ext hx).at_ hlt
        obtain ⟨b2, o2, s, rfl, hs, A2, n2, c2, e2, f2, g2, u2⟩ := (H2.out.ext hx).at_ hlt
        simp only [Nat.mul_one] at e1 e2
        have U1 := Lib.hid u1
        have U2 := Lib.hid u2
        have HR := Lib.hid hr
        have HS := Lib.hid hs
        clear hr hs u1 u2
        have hk0 : (0 : Int) ≤ (k : Int) := by omega
        have hk1 : (k : Int) < (n : Int) := by omega
        go_wp2_with fail
        go_region_held3 (fun w' => w'.cell? ⟨b1, o1 + k, none⟩ = some (.slice A1 n1 c1) ∧ w'.cell? ⟨b2, o2 + k, none⟩ = some (.slice A2 n2 c2)) (first | go_keep | (go_split_ands; refine ⟨?_, ?_⟩ <;> (apply hx1.cell; assumption))) (first | (go_at_call 74; refine (RSame_any A1 n1 c1 A2 n2 c2 r s _ (U1.out.ext (by exact (Ext.refl wr).drew)) (U2.out.ext (by exact (Ext.refl wr).drew)) (by omega)).mono ?_; rintro e w1 ⟨rfl, hx1⟩))
        have hxw1 : Ext w w1 := hx.drew.trans hx1
        by_cases hq : r = s
        · subst hq
          have HT := Lib.hid (take_eq_succ HP.out HR.out HS.out)
          rw [decide_eq_true rfl]
          go_wp2_with fail
          exact ⟨⟨k + 1, by omega, by go_num, hxw1, HT.out⟩, by simp [intOf]; omega⟩
        · have HN := Lib.hid (ne_at HR.out HS.out hq)
          rw [decide_eq_false hq]
          clear hq
          go_wp2_with fail
          go_ret
          exact ⟨ret_bool (decide_eq_false HN.out).symm, hxw1⟩
      · have hkn : k = n := by omega
        subst hkn
        have HQ := Lib.hid (eq_of_take L1.out L2.out HP.out)
        go_wp2_with fail
        go_ret
        exact ⟨ret_bool (decide_eq_true HQ.out).symm, hx⟩
  · have hb : ((n : Int) != (m : Int)) = true := by simp; omega
    have HN : Hid (¬ l1 = l2) := by
      show ¬ _
      intro h
      apply hnm
      rw [← L1.out, ← L2.out, h]
    go_enter Tryd.func45, Tryd.ntmps45
    go_wp2_with fail
    go_ret
    exact ⟨ret_bool (decide_eq_false HN.out).symm, Ext.refl _⟩
end Go.Proofs.YtagfedbdakmlgaaDoor

/-! SameE -/
namespace Go.Proofs.YtagfedbdakmlgaaDoor
set_option linter.unusedVariables false
set_option linter.unusedSimpArgs false
open Go.RowKit
theorem eql_span (a b a' b' : Int) (w : World) : (binOp .eql 41 (.agg #[.int .i64 a, .int .i64 b]) (.agg #[.int .i64 a', .int .i64 b'])).run Tryd.prog w = .ok (.bool (decide (a = a' ∧ b = b'))) w := by
  go_simp
  repeat' split
  all_goals simp_all
theorem ev_ne {x y : Ev} (h : ¬ (x.id = y.id ∧ (x.inn = y.inn ∧ x.out = y.out) ∧ x.region.toList = y.region.toList ∧ x.kind = y.kind ∧ x.speaker.toList = y.speaker.toList ∧ x.rows = y.rows)) : decide (x = y) = false :=
  decide_eq_false (by rintro rfl; exact h ⟨rfl, ⟨rfl, rfl⟩, rfl, rfl, rfl, rfl⟩)
theorem ev_eq {x y : Ev} (h1 : x.id = y.id) (h2 : x.inn = y.inn ∧ x.out = y.out) (h3 : x.region.toList = y.region.toList) (h4 : x.kind = y.kind) (h5 : x.speaker.toList = y.speaker.toList) : decide (x = y) = decide (x.rows = y.rows) := by
  obtain ⟨a1, a2, a3, a4, a5, a6, a7⟩ := x
  obtain ⟨b1, b2, b3, b4, b5, b6, b7⟩ := y
  rw [toList_inj] at h3 h5
  simp_all
set_option maxRecDepth 100000 in
set_option maxHeartbeats 4000000 in
theorem RESame_any (x y : Ev) (A : Option Addr) (n c : Nat) (B : Option Addr) (m d : Nat) (w : World) (h1 : EvAt w x A n c) (h2 : EvAt w y B m d) :
    Calls Tryd.prog 21 #[.agg (x.cells A n c), .agg (y.cells B m d)] w fun e w' => e = .returned (.bool (decide (x = y))) ∧ Ext w w' := by
  have hn24 : n * 24 ≤ 140737488355328 := h1.2.2
  have H1 := Lib.hid h1
  have H2 := Lib.hid h2
  clear h1 h2
  have hx := ((Ext.refl w).alloc (.cells (x.cells A n c) 45)).alloc (.cells (y.cells B m d) 45)
  have HX := Lib.hid hx
  clear hx
  unfold Ev.cells at HX ⊢
  by_cases h0 : x.id = y.id
  · have b0 : (x.id == y.id) = true := by simpa using h0
    have E0 := Lib.hid h0
    clear h0
    by_cases h1 : x.inn = y.inn ∧ x.out = y.out
    · have b1 := fun w => (eql_span x.inn x.out y.inn y.out w).trans (by rw [decide_eq_true h1])
      have E1 := Lib.hid h1
      clear h1
      by_cases h2 : x.region.toList = y.region.toList
      · have b2 : (x.region.toList == y.region.toList) = true := by simpa using h2
        have E2 := Lib.hid h2
        clear h2
        by_cases h3 : x.kind = y.kind
        · have b3 : (x.kind == y.kind) = true := by simpa using h3
          have E3 := Lib.hid h3
          clear h3
          by_cases h4 : x.speaker.toList = y.speaker.toList
          · have b4 : (x.speaker.toList == y.speaker.toList) = true := by simpa using h4
            have E4 := Lib.hid h4
            clear h4
            have HF : Hid (decide (x = y) = decide (x.rows = y.rows)) := ev_eq E0.out E1.out E2.out E3.out E4.out
            go_enter Tryd.func21, Tryd.ntmps21
            go_wp2_with fail
            refine (RSameRows_any A n c B m d x.rows y.rows _ (H1.out.1.ext HX.out) (H2.out.1.ext HX.out) (by omega)).mono ?_
            rintro en w1 ⟨rfl, hx1⟩
            go_wp2_with fail
            go_ret
            exact ⟨ret_bool HF.out.symm, HX.out.trans hx1⟩
          · have b4 : (x.speaker.toList == y.speaker.toList) = false := by simpa using h4
            have HF : Hid (decide (x = y) = false) := ev_ne (fun h => h4 h.2.2.2.2.1)
            clear h4
            go_enter Tryd.func21, Tryd.ntmps21
            go_wp2_with fail
            go_ret
            exact ⟨ret_bool HF.out.symm, HX.out⟩
        · have b3 : (x.kind == y.kind) = false := by simpa using h3
          have HF : Hid (decide (x = y) = false) := ev_ne (fun h => h3 h.2.2.2.1)
          clear h3
          go_enter Tryd.func21, Tryd.ntmps21
          go_wp2_with fail
          go_ret
          exact ⟨ret_bool HF.out.symm, HX.out⟩
      · have b2 : (x.region.toList == y.region.toList) = false := by simpa using h2
        have HF : Hid (decide (x = y) = false) := ev_ne (fun h => h2 h.2.2.1)
        clear h2
        go_enter Tryd.func21, Tryd.ntmps21
        go_wp2_with fail
        go_ret
        exact ⟨ret_bool HF.out.symm, HX.out⟩
    · have b1 := fun w => (eql_span x.inn x.out y.inn y.out w).trans (by rw [decide_eq_false h1])
      have HF : Hid (decide (x = y) = false) := ev_ne (fun h => h1 h.2.1)
      clear h1
      go_enter Tryd.func21, Tryd.ntmps21
      go_wp2_with fail
      go_ret
      exact ⟨ret_bool HF.out.symm, HX.out⟩
  · have b0 : (x.id == y.id) = false := by simpa using h0
    have HF : Hid (decide (x = y) = false) := ev_ne (fun h => h0 h.1)
    clear h0
    go_enter Tryd.func21, Tryd.ntmps21
    go_wp2_with fail
    go_ret
    exact ⟨ret_bool HF.out.symm, HX.out⟩
end Go.Proofs.YtagfedbdakmlgaaDoor

/-! KeepA -/
namespace Go.Proofs.YtagfedbdakmlgaaDoor
set_option linter.unusedVariables false
set_option linter.unusedSimpArgs false
open Go.RowKit
/-- rows in memory from block L on: their headers, and a text in each of their runs -/
def Shape (w : World) (L : Nat) (A : Option Addr) (n : Nat) (hs : List Hd) : Prop :=
  HdsAt w A n hs ∧ Fresh w 61 L A ∧ ∀ h ∈ hs, h.2.1 ≤ h.2.2 ∧ h.2.1 ≤ 140737488355328 ∧ Fresh w 66 L h.1 ∧ ∀ k, k < h.2.1 → ∃ b off s, h.1 = some ⟨b, off, none⟩ ∧ w.cell? ⟨b, off + k * 5, none⟩ = some (.string s)
theorem RowsFresh.shape {w : World} {L : Nat} {A : Option Addr} {n : Nat} {l : List Row} (h : RowsFresh w L A n l) : ∃ hs, Shape w L A n hs := by
  obtain ⟨hs, h1, h2, h3, h4, h5⟩ := h
  refine ⟨hs, h1, h4, fun hd hm => ?_⟩
  obtain ⟨i, hi⟩ := List.getElem?_of_mem hm
  have hil : i < l.length := by rw [h3, ← h1.len]; exact (List.getElem?_eq_some_iff.1 hi).1
  have g := h2 i hd _ hi (List.getElem?_eq_getElem hil)
  refine ⟨g.1, by have := g.2.1; omega, h5 hd hm, fun k hk => ?_⟩
  obtain ⟨b, off, x, hA, hx, hC⟩ := g.2.2.at_ hk
  exact ⟨b, off, x.text, hA, hC.1⟩
theorem Shape.ext {w w1 : World} {L : Nat} {A : Option Addr} {n : Nat} {hs : List Hd} (h : Shape w L A n hs) (k : Ext w w1) : Shape w1 L A n hs :=
  ⟨Sl.ext (Cells.stays _) h.1 k, h.2.1.ext k, fun hd hm => ⟨(h.2.2 hd hm).1, (h.2.2 hd hm).2.1, (h.2.2 hd hm).2.2.1.ext k, fun q hq => by
    obtain ⟨b, off, s, h1, h2⟩ := (h.2.2 hd hm).2.2.2 q hq
    exact ⟨b, off, s, h1, k.cell h2⟩⟩⟩
theorem Shape.le {w : World} {L L' : Nat} {A : Option Addr} {n : Nat} {hs : List Hd} (h : Shape w L A n hs) (hl : L' ≤ L) : Shape w L' A n hs :=
  ⟨h.1, h.2.1.le hl, fun hd hm => ⟨(h.2.2 hd hm).1, (h.2.2 hd hm).2.1, (h.2.2 hd hm).2.2.1.le hl, (h.2.2 hd hm).2.2.2⟩⟩
theorem cell_set_self {w : World} {p : Addr} {v : Value} (hs : p.spot = none) (h : w.cell? p = some v) (u : Value) : (w.setCell p u).cell? p = some u := by
  unfold World.cell? at h
  unfold World.cell? World.setCell
  simp only [Array.getElem?_modify, if_true]
  cases hb : w.heap[p.block]? with
  | none => rw [hb] at h; simp at h
  | some o =>
    rw [hb] at h
    cases o with
    | cells c t fz =>
      simp [hs] at h ⊢
      have := (Array.getElem?_eq_some_iff.1 h).1
      simp [this]
    | _ => simp at h
/-- a text is put into a run -/
theorem Shape.set {w : World} {L : Nat} {A : Option Addr} {n : Nat} {hs : List Hd} (h : Shape w L A n hs) {b o : Nat} (hT : Typed w 66 b) {s0 : ByteArray} (hc : w.cell? ⟨b, o, none⟩ = some (.string s0)) (s : ByteArray) : Shape (w.setCell ⟨b, o, none⟩ (.string s)) L A n hs := by
  refine ⟨Sl.keep h.1 fun _ b' off hA o' x hx j u hu => ?_, h.2.1.setCell _ _, fun hd hm => ⟨(h.2.2 hd hm).1, (h.2.2 hd hm).2.1, (h.2.2 hd hm).2.2.1.setCell _ _, fun q hq => ?_⟩⟩
  · have hne : b' ≠ b := Typed.ne (h.2.1 _ hA).2 hT (by decide)
    rw [World.cell?_setCell_other w ⟨b, o, none⟩ ⟨b', o' + j, none⟩ _ (fun e => hne (by injection e with e1; exact e1.symm))]
    exact hx j u hu
  · obtain ⟨b', off, s', h1, h2⟩ := (h.2.2 hd hm).2.2.2 q hq
    by_cases he : (⟨b', off + q * 5, none⟩ : Addr) = ⟨b, o, none⟩
    · exact ⟨b', off, s, h1, by rw [he]; exact cell_set_self rfl hc _⟩
    · exact ⟨b', off, s', h1, by rw [World.cell?_setCell_other w ⟨b, o, none⟩ _ _ (Ne.symm he)]; exact h2⟩
/-- what 'was, then := Clone(e), Clone(d)' has come to: two copies, two variables -/
structure KeepJ (x y : Ev) (n m : Nat) (w2 : World) (us : List Value) (gs : Nat → Option Nat) (w : World) : Prop where
  ext : Ext w2 w
  one : ∀ v, us[0]? = some v → ∃ A1 c1, v = .agg (x.cells A1 n c1) ∧ n ≤ c1 ∧ RowsFresh w w2.heap.size A1 n x.rows
  two : ∀ v, us[1]? = some v → ∃ A2 c2, v = .agg (y.cells A2 m c2) ∧ m ≤ c2 ∧ RowsFresh w w2.heap.size A2 m y.rows
  va : ∀ g, gs 4 = some g → w2.heap.size ≤ g ∧ ∃ cs, cs.size = 7 ∧ Blk w g 45 cs ∧ (2 < us.length → us[0]? = some (.agg cs))
  vb : ∀ g, gs 5 = some g → w2.heap.size ≤ g ∧ ∃ cs, cs.size = 7 ∧ Blk w g 45 cs ∧ (3 < us.length → us[1]? = some (.agg cs))
  ne : ∀ g g', gs 4 = some g → gs 5 = some g' → g ≠ g'
section
variable {x y : Ev} {n m : Nat} {w2 w : World} {us : List Value} {gs : Nat → Option Nat}
end
def evs4 (p q r s : Ev) (A1 : Option Addr) (n1 c1 : Nat) (A2 : Option Addr) (n2 c2 : Nat) (A3 : Option Addr) (n3 c3 : Nat) (A4 : Option Addr) (n4 c4 : Nat) : Array Value :=
  #[.int .i64 p.id, .int .i64 p.inn, .int .i64 p.out, .string p.region, .int .u8 p.kind, .string p.speaker, .slice A1 n1 c1, .int .i64 q.id, .int .i64 q.inn, .int .i64 q.out, .string q.region, .int .u8 q.kind, .string q.speaker, .slice A2 n2 c2, .int .i64 r.id, .int .i64 r.inn, .int .i64 r.out, .string r.region, .int .u8 r.kind, .string r.speaker, .slice A3 n3 c3, .int .i64 s.id, .int .i64 s.inn, .int .i64 s.out, .string s.region, .int .u8 s.kind, .string s.speaker, .slice A4 n4 c4]
/-- what '[]Event{a, b, j, Clone(e)}' has come to -/
def Keep6 (x : Ev) (n : Nat) (w7 : World) (cs : Option Addr → Nat → Array Value) : List Value → World → Prop
  | [], w' => Ext w7 w'
  | [v], w' => ∃ A8 c8, v = .agg (x.cells A8 n c8) ∧ n ≤ c8 ∧ RowsFresh w' w7.heap.size A8 n x.rows ∧ Ext w7 w'
  | [_, s], w' => ∃ A8 c8 g, s = .slice (some ⟨g, 0, none⟩) 4 4 ∧ n ≤ c8 ∧ RowsFresh w' w7.heap.size A8 n x.rows ∧ Ext w7 w' ∧ w7.heap.size ≤ g ∧ Blk w' g 45 (cs A8 c8)
  | [_, s, l], w' => ∃ A8 c8 g, s = .slice (some ⟨g, 0, none⟩) 4 4 ∧ l = .int .i64 4 ∧ n ≤ c8 ∧ RowsFresh w' w7.heap.size A8 n x.rows ∧ Ext w7 w' ∧ w7.heap.size ≤ g ∧ Blk w' g 45 (cs A8 c8)
  | _, _ => False
/-- four events in a row -/
structure Four where
  ev : Nat → Ev
  at_ : Nat → Option Addr
  len : Nat → Nat
  cap : Nat → Nat
  hds : Nat → List Hd
def Four.of (p q r s : Ev) (A1 : Option Addr) (n1 c1 : Nat) (A2 : Option Addr) (n2 c2 : Nat) (A3 : Option Addr) (n3 c3 : Nat) (A4 : Option Addr) (n4 c4 : Nat) (h1 h2 h3 h4 : List Hd) : Four :=
  ⟨fun | 0 => p | 1 => q | 2 => r | _ => s, fun | 0 => A1 | 1 => A2 | 2 => A3 | _ => A4, fun | 0 => n1 | 1 => n2 | 2 => n3 | _ => n4, fun | 0 => c1 | 1 => c2 | 2 => c3 | _ => c4, fun | 0 => h1 | 1 => h2 | 2 => h3 | _ => h4⟩
def Four.cells (F : Four) (k : Nat) : Array Value := (F.ev k).cells (F.at_ k) (F.len k) (F.cap k)
/-- their memory may be written, from block L on -/
def Four.Ok (F : Four) (w : World) (L g : Nat) : Prop := (∀ k, k < 4 → Shape w L (F.at_ k) (F.len k) (F.hds k)) ∧ (∀ k, k < 4 → ∀ j v, (F.cells k)[j]? = some v → w.cell? ⟨g, k * 7 + j, none⟩ = some v) ∧ Typed w 45 g
theorem Four.Ok.ext {F : Four} {w w1 : World} {L g : Nat} (h : F.Ok w L g) (k : Ext w w1) : F.Ok w1 L g := ⟨fun i hi => (h.1 i hi).ext k, fun i hi j v hv => k.cell (h.2.1 i hi j v hv), h.2.2.ext k⟩
theorem Four.Ok.put {F : Four} {w : World} {L g : Nat} (h : F.Ok w L g) {g' : Nat} {cs : Array Value} (hB : Blk w g' 45 cs) (hne : g' ≠ g) (cs' : Array Value) : F.Ok (putB w g' 45 cs') L g := by
  refine ⟨fun i hi => ?_, fun i hi j v hv => ?_, ?_⟩
  · obtain ⟨a1, a2, a3⟩ := h.1 i hi
    refine ⟨Sl.keep a1 fun _ b off hA o x hx j u hu => ?_, a2.put hB cs' (by decide), fun hd hm => ⟨(a3 hd hm).1, (a3 hd hm).2.1, (a3 hd hm).2.2.1.put hB cs' (by decide), fun q hq => ?_⟩⟩
    · have hb : b ≠ g' := Typed.ne (a2 _ hA).2 hB.typed (by decide)
      rw [putB_cell_other (p := ⟨b, o + j, none⟩) hb]; exact hx j u hu
    · obtain ⟨b, off, s, e1, e2⟩ := (a3 hd hm).2.2.2 q hq
      have hb : b ≠ g' := Typed.ne ((a3 hd hm).2.2.1 _ e1).2 hB.typed (by decide)
      exact ⟨b, off, s, e1, by rw [putB_cell_other (p := ⟨b, off + q * 5, none⟩) hb]; exact e2⟩
  · rw [putB_cell_other (p := ⟨g, i * 7 + j, none⟩) (Ne.symm hne)]; exact h.2.1 i hi j v hv
  · obtain ⟨cur, hb⟩ := h.2.2
    refine ⟨cur, ?_⟩
    unfold putB
    simp only
    rw [Array.getElem?_setIfInBounds_ne hne]
    exact hb
theorem Four.Ok.set {F : Four} {w : World} {L g : Nat} (h : F.Ok w L g) {b o : Nat} (hT : Typed w 66 b) {s0 : ByteArray} (hc : w.cell? ⟨b, o, none⟩ = some (.string s0)) (s : ByteArray) : F.Ok (w.setCell ⟨b, o, none⟩ (.string s)) L g := by
  refine ⟨fun i hi => (h.1 i hi).set hT hc s, fun i hi j v hv => ?_, h.2.2.setCell _ _⟩
  have hne : b ≠ g := Typed.ne hT h.2.2 (by decide)
  rw [World.cell?_setCell_other w ⟨b, o, none⟩ ⟨g, i * 7 + j, none⟩ _ (fun e => hne (by injection e))]
  exact h.2.1 i hi j v hv
/-- the loops over the four events, over the rows of one, over the runs of one -/
def Keep0 (F : Four) (w3 : World) (g8 : Nat) (i : Value) (wr : World) : Prop := ∃ k : Nat, k ≤ 4 ∧ i = .int .i64 k ∧ Ext w3 wr ∧ F.Ok wr w3.heap.size g8
def Keep1 (F : Four) (w3 : World) (g8 gx : Nat) (cx : Array Value) (N : Nat) (i : Value) (wr : World) : Prop := ∃ q : Nat, q ≤ N ∧ i = .int .i64 q ∧ Ext w3 wr ∧ F.Ok wr w3.heap.size g8 ∧ Blk wr gx 45 cx
end Go.Proofs.YtagfedbdakmlgaaDoor
