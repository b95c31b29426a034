/- Laid together: The walk of document.Shift. What the law on Follow asks, plainly. What Insert, Put, Remove and Shift lead to is accepted again, with the other events as they were: plainly. -/
import Derived.Test.YtagfedbdakmlgaaDoorVa16
import Derived.Test.YtagfedbdakmlgaaDoorVa13
import Derived.Test.YtagfedbdakmlgaaDoorVa15

/-! ShiftD -/
namespace Go.Proofs.YtagfedbdakmlgaaDoor
set_option linter.unusedVariables false
set_option linter.unusedSimpArgs false
open Go.RowKit
/-- two stores of cells, one after the other, in a drawn region -/
structure ShJ (p1 : Addr) (v1 : Value) (p2 : Addr) (v2 : Value) (W : World) (us : List Value) (w' : World) : Prop where
  nil : us = [] → Ext W w'
  one : ∀ u, us = [u] → ∃ w5, Ext W w5 ∧ w' = w5.setCell p1 v1
  two : ∀ u u1, us = [u, u1] → ∃ w5, Ext W w5 ∧ w' = (w5.setCell p1 v1).setCell p2 v2
section
variable {p1 p2 : Addr} {v1 v2 : Value} {W w' : World}
theorem ShJ.start (W : World) : ShJ p1 v1 p2 v2 W [] W.drew := ⟨fun _ => (Ext.refl W).drew, fun u h => by simp at h, fun u u1 h => by simp at h⟩
theorem ShJ.sto1 {u : Value} (h : ShJ p1 v1 p2 v2 W [] w') : ShJ p1 v1 p2 v2 W ([] ++ [u]) (w'.setCell p1 v1) := ⟨fun h => by simp at h, fun u hu => ⟨w', h.nil rfl, rfl⟩, fun u u1 h => by simp at h⟩
theorem ShJ.sto2 {w5 : World} {u u1 : Value} (_ : ShJ p1 v1 p2 v2 W [u] (w5.setCell p1 v1)) (hx : Ext W w5) : ShJ p1 v1 p2 v2 W ([u] ++ [u1]) ((w5.setCell p1 v1).setCell p2 v2) := ⟨fun h => by simp at h, fun u hu => by simp at hu, fun u u1 hu => ⟨w5, hx, rfl⟩⟩
end
def ShLoop (d : Doc) (fr sh : Int) (w : World) (h : DocH) (L : Nat) (cs : Array Value) (v : Value) (wr : World) : Prop :=
  ∃ i : Nat, i ≤ h.en ∧ v = .int .i64 i ∧ (d.evs.take i).any (Ev.mvBad fr sh) = false ∧ Ext w wr ∧ Blk wr w.heap.size 39 cs ∧ Blk wr (w.heap.size + 1) 39 docZero ∧ DocOwn wr L (d.withEvs ((d.evs.take i).map (Ev.mv fr sh) ++ d.evs.drop i)) h ∧ L ≤ wr.heap.size
set_option maxRecDepth 100000 in
set_option maxHeartbeats 4000000 in
theorem DShift_any (d : Doc) (h : DocH) (fr sh : Int) (w : World) (hE : Env w) (hat : DocAt w d h) (hf : DocFit d) (hrn : h.rn ≤ 9223372036854775807) (hr : h.rn * 56 ≤ 140737488355328) (hn : h.en ≤ 1000000) (hcn : h.cn ≤ 1000000) :
    Calls Tryd.prog 18 #[.agg (d.cells h), .int .i64 fr, .int .i64 sh] w (DEPost (d.shX fr sh) w) := by
  have HX : Hid (Ext w ((w.alloc (.cells (d.cells h) 39)).alloc (.cells docZero 39))) := ((Ext.refl w).alloc _).alloc _
  have HB : Hid (Blk ((w.alloc (.cells (d.cells h) 39)).alloc (.cells docZero 39)) w.heap.size 39 (d.cells h)) := (Blk.new w _ _).alloc _
  have HZ : Hid (Blk ((w.alloc (.cells (d.cells h) 39)).alloc (.cells docZero 39)) (w.heap.size + 1) 39 docZero) := Blk.new' (by simp)
  have HCk := Lib.hid (fun w' (hx : Ext w w') => DCheck_any d h w' (hE.ext hx) (hat.ext hx) hf hrn hn (by omega))
  have HCl := Lib.hid (fun w' (hx : Ext w w') => DClone_any d h w' (hat.ext hx) hr (by omega) (by omega))
  have HEln := Lib.hid hat.evs.len
  have HAt := Lib.hid hat.coms
  have HCln := Lib.hid hat.coms.len
  have END : ∀ (w9 : World) (e : Int), Ext w w9 → Blk w9 (w.heap.size + 1) 39 docZero → d.shX fr sh = (Doc.zero, e) → ∀ (tmps : Array Value), tmps.getD 6 undef = .pointer (some ⟨w.heap.size + 1, 0, none⟩) → tmps.getD 7 undef = .int .i64 e →
      (results Tryd.f18 tmps).run Tryd.prog (putB w9 (w.heap.size + 1) 39 docZero) = .ok (.tuple #[.agg docZero, .int .i64 e]) (putB w9 (w.heap.size + 1) 39 docZero) ∧
        DEPost (d.shX fr sh) w (.returned (.tuple #[.agg docZero, .int .i64 e])) (putB w9 (w.heap.size + 1) 39 docZero) := fun w9 e hx hz he tmps h8 h9 => by
    refine ⟨?_, dePost_err he (hx.put (by omega) _ _)⟩
    have := results_B_tmp (P := Tryd.prog) Tryd.results18 (tmps := tmps) (w := putB w9 (w.heap.size + 1) 39 docZero) (g := w.heap.size + 1) h8 (hz.put _) Tryd.underlying39 rfl size_docI
    rw [this, h9]
  have HEnd := Lib.hid END
  clear END hat hE hf hrn hr
  obtain ⟨hra, nr, hrc, hea, hen, hec, hca, nc, hcc⟩ := h
  unfold DClPost at HCl
  unfold Doc.cells docZero at *
  dsimp only at *
  go_enter Tryd.func18, Tryd.ntmps18
  go_wp2_with (refine wpList_loadB rfl 39 (.tmp 3) rfl (w.heap.size) 39 _ _ (by exact rfl) (by exact HB.out) Tryd.underlying39 rfl (by exact size_docI) ?_)
  refine (HCk.out _ HX.out).mono ?_
  rintro en w0 ⟨rfl, hx0⟩
  have HX1 := Lib.hid (HX.out.trans hx0)
  have HB1 := Lib.hid (HB.out.ext hx0)
  have HZ1 := Lib.hid (HZ.out.ext hx0)
  clear hx0 HX HB HZ HCk
  by_cases h0 : d.err = 0
  case neg =>
    have hne2 : (d.err != 0) = true := by simpa using h0
    have HR1 : Hid (d.shX fr sh = (Doc.zero, d.err)) := sh_1 h0
    clear h0
    go_wp2_with (refine wpList_storeB rfl 39 (.tmp 6) _ rfl (w.heap.size + 1) 39 _ _ (by exact rfl) (by exact rfl) (by exact HZ1.out) (by exact rfl) (by exact size_docI) (by simp [Value.oneCell']) ?_)
    exact (fun q => bodyPost_ret q.1 rfl q.2) (HEnd.out _ _ HX1.out HZ1.out (HR1.out) _ (by exact rfl) (by exact rfl))
  have HC := Lib.hid h0
  rw [h0]
  clear h0
  by_cases hlo : sh < -5184000
  · have HR1 : Hid (d.shX fr sh = (Doc.zero, 2)) := sh_2 HC.out (.inl hlo)
    go_wp2_with (refine wpList_storeB rfl 39 (.tmp 6) _ rfl (w.heap.size + 1) 39 _ _ (by exact rfl) (by exact rfl) (by exact HZ1.out) (by exact rfl) (by exact size_docI) (by simp [Value.oneCell']) ?_)
    exact (fun q => bodyPost_ret q.1 rfl q.2) (HEnd.out _ _ HX1.out HZ1.out (HR1.out) _ (by exact rfl) (by exact rfl))
  by_cases hhi : 5184000 < sh
  · have HR1 : Hid (d.shX fr sh = (Doc.zero, 2)) := sh_2 HC.out (.inr hhi)
    have hlo2 : -5184000 ≤ sh := by omega
    go_wp2_with (refine wpList_storeB rfl 39 (.tmp 6) _ rfl (w.heap.size + 1) 39 _ _ (by exact rfl) (by exact rfl) (by exact HZ1.out) (by exact rfl) (by exact size_docI) (by simp [Value.oneCell']) ?_)
    exact (fun q => bodyPost_ret q.1 rfl q.2) (HEnd.out _ _ HX1.out HZ1.out (HR1.out) _ (by exact rfl) (by exact rfl))
  have HRg : Hid (¬ (sh < -5184000 ∨ 5184000 < sh)) := by show ¬ _; omega
  go_wp2_with (refine wpList_loadB rfl 39 (.tmp 3) rfl (w.heap.size) 39 _ _ (by exact rfl) (by exact HB1.out) Tryd.underlying39 rfl (by exact size_docI) ?_)
  refine (HCl.out _ HX1.out).mono ?_
  rintro en w5 ⟨⟨ra, rn, rc, ea, en5, ec, ca, cn, cc⟩, rfl, ho5, hx5⟩
  dsimp only
  have hsz := HX1.out.size
  have hszz := HZ1.out.lt
  have hen6 : en5 ≤ 1000000 := by have := ho5.evs.len; have := HEln.out; dsimp only at *; omega
  have hel5 : d.evs.length = en5 := ho5.evs.len
  have HX5 := Lib.hid (HX1.out.trans hx5)
  have HB5 := Lib.hid (HB1.out.ext hx5)
  have HZ5 := Lib.hid (HZ1.out.ext hx5)
  have HO5 := Lib.hid (DocOwn.put ho5 HB5.out #[.string d.title, .string d.lang, .int .u8 d.rate, .bool d.drop, .int .i64 d.last, .slice ra rn rc, .slice ea en5 ec, .slice ca cn cc])
  have HP5 := Lib.hid (HB5.out.put #[.string d.title, .string d.lang, .int .u8 d.rate, .bool d.drop, .int .i64 d.last, .slice ra rn rc, .slice ea en5 ec, .slice ca cn cc])
  have HZ5' := Lib.hid (HZ5.out.put_other (g' := w.heap.size) (t' := 39) (by omega) #[.string d.title, .string d.lang, .int .u8 d.rate, .bool d.drop, .int .i64 d.last, .slice ra rn rc, .slice ea en5 ec, .slice ca cn cc])
  have HX5' := Lib.hid (HX5.out.put (g := w.heap.size) (Nat.le_refl _) 39 #[.string d.title, .string d.lang, .int .u8 d.rate, .bool d.drop, .int .i64 d.last, .slice ra rn rc, .slice ea en5 ec, .slice ca cn cc])
  have hcp := fun o => HP5.out.cell o
  have hx5s := hx5.size
  clear ho5 hx5 HX5 HZ5
  go_upto_region 7 with (refine wpList_storeB rfl 39 (.tmp 3) _ rfl (w.heap.size) 39 _ _ (by exact rfl) (by exact rfl) (by exact HB5.out) (by exact rfl) (by exact size_docI) (by simp [Value.oneCell']) ?_)
  obtain ⟨W, hW⟩ : ∃ W, W = putB w5 w.heap.size 39 #[.string d.title, .string d.lang, .int .u8 d.rate, .bool d.drop, .int .i64 d.last, .slice ra rn rc, .slice ea en5 ec, .slice ca cn cc] := ⟨_, rfl⟩
  rw [← hW] at HO5 HP5 HZ5' HX5' hcp ⊢
  have HWs : Hid (w0.heap.size ≤ W.heap.size) := by show _ ≤ _; rw [hW]; rw [putB_size]; exact hx5s
  clear hW HB5 hx5s
  go_wp2_with fail
  clear hcp
  go_loopw [29] (fun ki wr => ShLoop d fr sh w ⟨ra, rn, rc, ea, en5, ec, ca, cn, cc⟩ w0.heap.size #[.string d.title, .string d.lang, .int .u8 d.rate, .bool d.drop, .int .i64 d.last, .slice ra rn rc, .slice ea en5 ec, .slice ca cn cc] ki wr) (fun ki _ => en5 - (intOf ki).toNat)
  case atStart => exact ⟨0, Nat.zero_le _, rfl, rfl, HX5'.out, HP5.out, HZ5'.out, HO5.out, HWs.out⟩
  case round =>
    obtain ⟨ki, hi, rfl, hany, hx8, hp8, hz8, ho8, hls⟩ := hrel
    dsimp only at hi
    have HAny := Lib.hid hany
    have HX8 := Lib.hid hx8
    have HP8 := Lib.hid hp8
    have HZ8 := Lib.hid hz8
    have HO8 := Lib.hid ho8
    clear hx8 hp8 hz8 ho8 hany HX5' HP5 HZ5' HO5
    have hcp := fun o => HP8.out.cell o
    by_cases hlt : ki < en5
    · obtain ⟨g, hea5, hLg⟩ := HO8.out.ev_at hlt
      dsimp only at hea5
      have heas := hea5
      subst hea5
      obtain ⟨x, hx0⟩ : ∃ x, d.evs[ki]? = some x := ⟨_, List.getElem?_eq_getElem (by omega)⟩
      have hus := upd_step (Ev.mv fr sh) d.evs ki x hx0
      have HNx := Lib.hid (upd_next (Ev.mv fr sh) d.evs ki x hx0)
      have HUs := Lib.hid hus.2
      have HU1 := Lib.hid hus.1
      have HX0 := Lib.hid hx0
      obtain ⟨hb0, hb1, hb2⟩ := evs_in HC.out hx0
      have c1 := (HO8.out.ev_cell (j := 1) (u := .int .i64 x.inn) heas hus.1 (fun _ _ _ => rfl)).1
      have c2 := (HO8.out.ev_cell (j := 2) (u := .int .i64 x.out) heas hus.1 (fun _ _ _ => rfl)).1
      have HHe := Lib.hid heas
      clear hus hx0 heas
      by_cases hfr : x.inn < fr
      · have HMv : Hid (Ev.mv fr sh x = x) := by show _ = _; unfold Ev.mv; rw [if_pos hfr]
        have HNb : Hid (Ev.mvBad fr sh x = false) := by show _ = _; unfold Ev.mvBad; exact decide_eq_false (by omega)
        go_wp2_with fail
        clear hcp
        refine ⟨⟨ki + 1, by dsimp only; omega, by go_num, any_next HX0.out HAny.out HNb.out, HX8.out, HP8.out, HZ8.out, ?_, hls⟩, by simp [intOf]; omega⟩
        rw [HNx.out, HMv.out, ← drop_at d.evs ki x HX0.out]
        exact HO8.out
      have HMv : Hid (Ev.mv fr sh x = ⟨x.id, x.inn + sh, x.out + sh, x.region, x.kind, x.speaker, x.rows⟩) := by show _ = _; unfold Ev.mv; rw [if_neg hfr]
      have HT : Hid (Typed wr 45 g) := by
        obtain ⟨hs, h1, -⟩ := HO8.out.evs
        exact own_typed h1 g rfl
      have hw1 : IntKind.i64.wrap (x.inn + sh) = x.inn + sh := by rw [IntKind.wrap_i64]; omega
      have hw2 : IntKind.i64.wrap (x.out + sh) = x.out + sh := by rw [IntKind.wrap_i64]; omega
      have hil : ki < ((d.evs.take ki).map (Ev.mv fr sh) ++ d.evs.drop ki).length := (List.getElem?_eq_some_iff.1 HU1.out).1
      have q1 := List.getElem?_set_self (a := (⟨x.id, x.inn + sh, x.out, x.region, x.kind, x.speaker, x.rows⟩ : Ev)) hil
      have HS1 := Lib.hid (fun w5 (hx : Ext wr w5) => (HO8.out.ext hx).ev_set (e' := ⟨x.id, x.inn + sh, x.out, x.region, x.kind, x.speaker, x.rows⟩) (j := 1) (u := .int .i64 (x.inn + sh)) HHe.out HU1.out (fun _ _ _ => rfl) rfl (by decide))
      have HF2 : Hid (∀ w5, Ext wr w5 → (w5.setCell ⟨g, ki * 7 + 1, none⟩ (.int .i64 (x.inn + sh))).cell? ⟨g, ki * 7 + 2, none⟩ = some (.int .i64 x.out) ∧ (w5.setCell ⟨g, ki * 7 + 1, none⟩ (.int .i64 (x.inn + sh))).frozen? ⟨g, ki * 7 + 2, none⟩ = false) := fun w5 hx => (HS1.out w5 hx).1.ev_cell (j := 2) HHe.out q1 (fun _ _ _ => rfl)
      have HS2 := Lib.hid (fun w5 (hx : Ext wr w5) => (HS1.out w5 hx).1.ev_set (e' := ⟨x.id, x.inn + sh, x.out + sh, x.region, x.kind, x.speaker, x.rows⟩) (j := 2) (u := .int .i64 (x.out + sh)) HHe.out q1 (fun _ _ _ => rfl) rfl (by decide))
      clear q1 hil
      go_upto_region 12 with fail
      clear hcp
      refine wp_region_links [some 43, some 44, some 45, some 46, some 47, some 48, some 49, some 50, some 51, some 52, some 53, some 54, some 55, some 56, some 57, some 58, none, some 59, some 60, none] [[], [], [], [2], [3], [4], [], [5, 6], [], [8], [9], [10], [], [11, 12], [0, 0, 2, 3, 4, 5, 6, 7, 11], [14, 0, 2, 3, 4, 5, 6, 7, 11], [15, 7, 0, 2, 3, 4, 5, 6, 7, 11], [1, 0, 1, 2, 3, 4, 5, 6, 7, 8, 9, 10, 11, 12, 13, 14, 15, 16], [17, 0, 1, 2, 3, 4, 5, 6, 7, 8, 9, 10, 11, 12, 13, 14, 15, 16], [18, 13, 16, 0, 1, 2, 3, 4, 5, 6, 7, 8, 9, 10, 11, 12, 13, 14, 15, 16]] [16, 19] [.pointer (some ⟨g, ki * 7 + 1, none⟩), .pointer (some ⟨g, ki * 7 + 1, none⟩), .pointer (some ⟨g, ki * 7 + 1, none⟩), .pointer (some ⟨g, ki * 7 + 1, none⟩), .pointer (some ⟨g, ki * 7 + 1, none⟩), .int .i64 x.inn, .int .i64 sh, .int .i64 (x.inn + sh), .pointer (some ⟨g, ki * 7 + 1, none⟩), .pointer (some ⟨g, ki * 7 + 1, none⟩), .pointer (some ⟨g, ki * 7 + 2, none⟩), .int .i64 x.out, .int .i64 sh, .int .i64 (x.out + sh), .pointer (some ⟨g, ki * 7 + 1, none⟩), .pointer (some ⟨g, ki * 7 + 1, none⟩), undef, .pointer (some ⟨g, ki * 7 + 1, none⟩), .pointer (some ⟨g, ki * 7 + 2, none⟩), undef] (ShJ ⟨g, ki * 7 + 1, none⟩ (.int .i64 (x.inn + sh)) ⟨g, ki * 7 + 2, none⟩ (.int .i64 (x.out + sh)) wr) (by kernel_rfl) (by kernel_rfl) (by kernel_rfl) (by kernel_rfl) (by kernel_rfl) (by kernel_rfl) (by kernel_rfl) (by decide) ?_ ?_ ?_ ?_
      · exact ShJ.start wr
      · intro i o ho hc a w' us K' hJ hF hlim hk
        match i, ho with
        | 0, ho =>
          simp only [List.getElem?_toArray, List.getElem?_cons_zero, List.getElem?_cons_succ, Option.some.injEq] at ho
          subst ho
          have e10 := hF.old 10 (.pointer (some ⟨g, ki * 7 + 1, none⟩)) rfl rfl
          simp only [Act.eval] at e10
          clear hF hlim hJ
          go_simp
          exact hk
        | 1, ho =>
          simp only [List.getElem?_toArray, List.getElem?_cons_zero, List.getElem?_cons_succ, Option.some.injEq] at ho
          subst ho
          have e10 := hF.old 10 (.pointer (some ⟨g, ki * 7 + 1, none⟩)) rfl rfl
          simp only [Act.eval] at e10
          clear hF hlim hJ
          go_simp
          exact hk
        | 2, ho =>
          simp only [List.getElem?_toArray, List.getElem?_cons_zero, List.getElem?_cons_succ, Option.some.injEq] at ho
          subst ho
          have e10 := hF.old 10 (.pointer (some ⟨g, ki * 7 + 1, none⟩)) rfl rfl
          simp only [Act.eval] at e10
          clear hF hlim hJ
          go_simp
          exact hk
        | 3, ho =>
          simp only [List.getElem?_toArray, List.getElem?_cons_zero, List.getElem?_cons_succ, Option.some.injEq] at ho
          subst ho
          have e45 := hF.pure 2 45 (.pointer (some ⟨g, ki * 7 + 1, none⟩)) rfl rfl rfl rfl
          simp only [Act.eval] at e45
          clear hF hlim hJ
          go_simp
          exact hk
        | 4, ho =>
          simp only [List.getElem?_toArray, List.getElem?_cons_zero, List.getElem?_cons_succ, Option.some.injEq] at ho
          subst ho
          have e46 := hF.pure 3 46 (.pointer (some ⟨g, ki * 7 + 1, none⟩)) rfl rfl rfl rfl
          simp only [Act.eval] at e46
          clear hF hlim hJ
          go_simp
          exact hk
        | 5, ho =>
          simp only [List.getElem?_toArray, List.getElem?_cons_zero, List.getElem?_cons_succ, Option.some.injEq] at ho
          subst ho
          have e47 := hF.pure 4 47 (.pointer (some ⟨g, ki * 7 + 1, none⟩)) rfl rfl rfl rfl
          obtain rfl : us = [] := List.eq_nil_of_length_eq_zero (by have := hlim 0 16 rfl rfl; omega)
          have hcl := (hJ.nil rfl).cell c1
          simp only [Act.eval] at e47
          clear hF hlim hJ
          go_simp
          exact hk
        | 6, ho =>
          simp only [List.getElem?_toArray, List.getElem?_cons_zero, List.getElem?_cons_succ, Option.some.injEq] at ho
          subst ho
          have e2 := hF.old 2 (.int .i64 sh) rfl rfl
          simp only [Act.eval] at e2
          clear hF hlim hJ
          go_simp
          exact hk
        | 7, ho =>
          simp only [List.getElem?_toArray, List.getElem?_cons_zero, List.getElem?_cons_succ, Option.some.injEq] at ho
          subst ho
          have e48 := hF.pure 5 48 (.int .i64 x.inn) rfl rfl rfl rfl
          have e49 := hF.pure 6 49 (.int .i64 sh) rfl rfl rfl rfl
          simp only [Act.eval] at e48 e49
          clear hF hlim hJ
          go_simp
          exact hk
        | 8, ho =>
          simp only [List.getElem?_toArray, List.getElem?_cons_zero, List.getElem?_cons_succ, Option.some.injEq] at ho
          subst ho
          have e10 := hF.old 10 (.pointer (some ⟨g, ki * 7 + 1, none⟩)) rfl rfl
          simp only [Act.eval] at e10
          clear hF hlim hJ
          go_simp
          exact hk
        | 9, ho =>
          simp only [List.getElem?_toArray, List.getElem?_cons_zero, List.getElem?_cons_succ, Option.some.injEq] at ho
          subst ho
          have e51 := hF.pure 8 51 (.pointer (some ⟨g, ki * 7 + 1, none⟩)) rfl rfl rfl rfl
          simp only [Act.eval] at e51
          clear hF hlim hJ
          go_simp
          exact hk
        | 10, ho =>
          simp only [List.getElem?_toArray, List.getElem?_cons_zero, List.getElem?_cons_succ, Option.some.injEq] at ho
          subst ho
          have e52 := hF.pure 9 52 (.pointer (some ⟨g, ki * 7 + 1, none⟩)) rfl rfl rfl rfl
          simp only [Act.eval] at e52
          clear hF hlim hJ
          go_simp
          exact hk
        | 11, ho =>
          simp only [List.getElem?_toArray, List.getElem?_cons_zero, List.getElem?_cons_succ, Option.some.injEq] at ho
          subst ho
          have e53 := hF.pure 10 53 (.pointer (some ⟨g, ki * 7 + 2, none⟩)) rfl rfl rfl rfl
          obtain rfl : us = [] := List.eq_nil_of_length_eq_zero (by have := hlim 0 16 rfl rfl; omega)
          have hcl := (hJ.nil rfl).cell c2
          simp only [Act.eval] at e53
          clear hF hlim hJ
          go_simp
          exact hk
        | 12, ho =>
          simp only [List.getElem?_toArray, List.getElem?_cons_zero, List.getElem?_cons_succ, Option.some.injEq] at ho
          subst ho
          have e2 := hF.old 2 (.int .i64 sh) rfl rfl
          simp only [Act.eval] at e2
          clear hF hlim hJ
          go_simp
          exact hk
        | 13, ho =>
          simp only [List.getElem?_toArray, List.getElem?_cons_zero, List.getElem?_cons_succ, Option.some.injEq] at ho
          subst ho
          have e54 := hF.pure 11 54 (.int .i64 x.out) rfl rfl rfl rfl
          have e55 := hF.pure 12 55 (.int .i64 sh) rfl rfl rfl rfl
          simp only [Act.eval] at e54 e55
          clear hF hlim hJ
          go_simp
          exact hk
        | 14, ho =>
          simp only [List.getElem?_toArray, List.getElem?_cons_zero, List.getElem?_cons_succ, Option.some.injEq] at ho
          subst ho
          have e43 := hF.pure 0 43 (.pointer (some ⟨g, ki * 7 + 1, none⟩)) rfl rfl rfl rfl
          simp only [Act.eval] at e43
          clear hF hlim hJ
          go_simp
          exact hk
        | 15, ho =>
          simp only [List.getElem?_toArray, List.getElem?_cons_zero, List.getElem?_cons_succ, Option.some.injEq] at ho
          subst ho
          have e57 := hF.pure 14 57 (.pointer (some ⟨g, ki * 7 + 1, none⟩)) rfl rfl rfl rfl
          simp only [Act.eval] at e57
          clear hF hlim hJ
          go_simp
          exact hk
        | 16, ho => simp at hc
        | 17, ho =>
          simp only [List.getElem?_toArray, List.getElem?_cons_zero, List.getElem?_cons_succ, Option.some.injEq] at ho
          subst ho
          have e44 := hF.pure 1 44 (.pointer (some ⟨g, ki * 7 + 1, none⟩)) rfl rfl rfl rfl
          simp only [Act.eval] at e44
          clear hF hlim hJ
          go_simp
          exact hk
        | 18, ho =>
          simp only [List.getElem?_toArray, List.getElem?_cons_zero, List.getElem?_cons_succ, Option.some.injEq] at ho
          subst ho
          have e59 := hF.pure 17 59 (.pointer (some ⟨g, ki * 7 + 1, none⟩)) rfl rfl rfl rfl
          simp only [Act.eval] at e59
          clear hF hlim hJ
          go_simp
          exact hk
        | 19, ho => simp at hc
        | i + 20, ho => simp at ho
      · intro p c' o hp ho a w' us K' hl hJ hF hk
        match p, hp with
        | 0, hp =>
          obtain rfl : 16 = c' := by simpa using hp
          simp only [List.getElem?_toArray, List.getElem?_cons_zero, List.getElem?_cons_succ, Option.some.injEq] at ho
          subst ho
          obtain rfl : us = [] := List.eq_nil_of_length_eq_zero hl
          have e58 := hF.pure 15 58 (.pointer (some ⟨g, ki * 7 + 1, none⟩)) rfl rfl rfl rfl
          have e50 := hF.pure 7 50 (.int .i64 (x.inn + sh)) rfl rfl rfl rfl
          have hc := (hJ.nil rfl).cell c1
          have hf := (HT.out.ext (hJ.nil rfl)).frozen (ki * 7 + 1)
          simp only [Act.eval] at e50 e58
          have HK := Lib.hid (hk (.tuple #[]) _ hJ.sto1)
          clear hk hF hJ
          go_simp
          exact HK.out
        | 1, hp =>
          obtain rfl : 19 = c' := by simpa using hp
          simp only [List.getElem?_toArray, List.getElem?_cons_zero, List.getElem?_cons_succ, Option.some.injEq] at ho
          subst ho
          obtain ⟨u0, rfl⟩ := list_1 hl
          obtain ⟨w5, hx5, rfl⟩ := hJ.one u0 rfl
          have e60 := hF.pure 18 60 (.pointer (some ⟨g, ki * 7 + 2, none⟩)) rfl rfl rfl rfl
          have e56 := hF.pure 13 56 (.int .i64 (x.out + sh)) rfl rfl rfl rfl
          obtain ⟨hc, hf⟩ := HF2.out w5 hx5
          simp only [Act.eval] at e56 e60
          have HK := Lib.hid (hk (.tuple #[]) _ (hJ.sto2 hx5))
          clear hk hF hJ
          go_simp
          exact HK.out
        | p + 2, hp => simp at hp
      intro us w9 hl hJ
      obtain ⟨u0, u1, rfl⟩ := list_2 hl
      first | (rename_i hK; refine hK _ _ ?_; clear hK) | (rename_i hK hK_1; refine hK _ _ ?_; clear hK) | (rename_i hK hK_1 hK_2; refine hK _ _ ?_; clear hK) | (rename_i hK hK_1 hK_2 hK_3; refine hK _ _ ?_; clear hK)
      generalize hL : frameL _ _ _ _ = L
      obtain rfl : L = [(43, .pointer (some ⟨g, ki * 7 + 1, none⟩)), (44, .pointer (some ⟨g, ki * 7 + 1, none⟩)), (45, .pointer (some ⟨g, ki * 7 + 1, none⟩)), (46, .pointer (some ⟨g, ki * 7 + 1, none⟩)), (47, .pointer (some ⟨g, ki * 7 + 1, none⟩)), (48, .int .i64 x.inn), (49, .int .i64 sh), (50, .int .i64 (x.inn + sh)), (51, .pointer (some ⟨g, ki * 7 + 1, none⟩)), (52, .pointer (some ⟨g, ki * 7 + 1, none⟩)), (53, .pointer (some ⟨g, ki * 7 + 2, none⟩)), (54, .int .i64 x.out), (55, .int .i64 sh), (56, .int .i64 (x.out + sh)), (57, .pointer (some ⟨g, ki * 7 + 1, none⟩)), (58, .pointer (some ⟨g, ki * 7 + 1, none⟩)), (59, .pointer (some ⟨g, ki * 7 + 1, none⟩)), (60, .pointer (some ⟨g, ki * 7 + 2, none⟩))] := hL.symm.trans (by kernel_rfl)
      clear hL hl
      simp only [Act.put, List.foldl_cons, List.foldl_nil, List.setIfInBounds_toArray, List.set_cons_zero, List.set_cons_succ]
      obtain ⟨w5', hx5, rfl⟩ := hJ.two u0 u1 rfl
      clear hJ
      have n1 : some w.heap.size ≠ some g := by intro h; injection h; omega
      have n2 : some (w.heap.size + 1) ≠ some g := by intro h; injection h; omega
      have g1 := (HS1.out w5' hx5).2
      have g2 := (HS2.out w5' hx5).2
      have HX9 := Lib.hid (((HX8.out.trans hx5).setCell (p := ⟨g, ki * 7 + 1, none⟩) (show w.heap.size ≤ g by omega) (.int .i64 (x.inn + sh))).setCell (p := ⟨g, ki * 7 + 2, none⟩) (show w.heap.size ≤ g by omega) (.int .i64 (x.out + sh)))
      have HP9 := Lib.hid (blk_away (blk_away (HP8.out.ext hx5) g1 n1) g2 n1)
      have HZ9 := Lib.hid (blk_away (blk_away (HZ8.out.ext hx5) g1 n2) g2 n2)
      have HO9 : Hid (DocOwn ((w5'.setCell ⟨g, ki * 7 + 1, none⟩ (.int .i64 (x.inn + sh))).setCell ⟨g, ki * 7 + 2, none⟩ (.int .i64 (x.out + sh))) w0.heap.size (d.withEvs ((d.evs.take (ki + 1)).map (Ev.mv fr sh) ++ d.evs.drop (ki + 1))) ⟨ra, rn, rc, some ⟨g, 0, none⟩, en5, ec, ca, cn, cc⟩) := by
        rw [HNx.out, HMv.out, ← HUs.out]
        have h9 : DocOwn _ _ (d.withEvs ((((d.evs.take ki).map (Ev.mv fr sh) ++ d.evs.drop ki).set ki ⟨x.id, x.inn + sh, x.out, x.region, x.kind, x.speaker, x.rows⟩).set ki ⟨x.id, x.inn + sh, x.out + sh, x.region, x.kind, x.speaker, x.rows⟩)) _ := (HS2.out w5' hx5).1
        rw [List.set_set] at h9
        exact h9
      have hu9 : (d.withEvs ((d.evs.take (ki + 1)).map (Ev.mv fr sh) ++ d.evs.drop (ki + 1))).evs[ki]? = some ⟨x.id, x.inn + sh, x.out + sh, x.region, x.kind, x.speaker, x.rows⟩ := by
        show ((d.evs.take (ki + 1)).map (Ev.mv fr sh) ++ d.evs.drop (ki + 1))[ki]? = _
        rw [HNx.out, HMv.out, ← HUs.out]
        exact List.getElem?_set_self (List.getElem?_eq_some_iff.1 HU1.out).1
      have d1 := (HO9.out.ev_cell (j := 1) (u := .int .i64 (x.inn + sh)) HHe.out hu9 (fun _ _ _ => rfl)).1
      have d2 := (HO9.out.ev_cell (j := 2) (u := .int .i64 (x.out + sh)) HHe.out hu9 (fun _ _ _ => rfl)).1
      have hls9 : w0.heap.size ≤ ((w5'.setCell ⟨g, ki * 7 + 1, none⟩ (.int .i64 (x.inn + sh))).setCell ⟨g, ki * 7 + 2, none⟩ (.int .i64 (x.out + sh))).heap.size := Nat.le_trans (Nat.le_trans hls hx5.size) (Nat.le_trans g1.size g2.size)
      obtain ⟨W9, hW9⟩ : ∃ W9, W9 = ((w5'.setCell ⟨g, ki * 7 + 1, none⟩ (.int .i64 (x.inn + sh))).setCell ⟨g, ki * 7 + 2, none⟩ (.int .i64 (x.out + sh))) := ⟨_, rfl⟩
      rw [← hW9] at HX9 HP9 HZ9 HO9 d1 d2 hls9 ⊢
      clear hW9 g1 g2 n1 n2 HS1 HS2 HF2 HX8 HP8 HZ8 HO8 hx5 hu9 c1 c2 hw1 hw2
      by_cases hk1 : x.inn + sh < 0
      · have HR1 : Hid (d.shX fr sh = (Doc.zero, 2)) := sh_3 HC.out (mv_bad HX0.out (by unfold Ev.mvBad; exact decide_eq_true ⟨hfr, .inl hk1⟩))
        go_wp2_with (refine wpList_storeB rfl 39 (.tmp 6) _ rfl (w.heap.size + 1) 39 _ _ (by exact rfl) (by exact rfl) (by exact HZ9.out) (by exact rfl) (by exact size_docI) (by simp [Value.oneCell']) ?_)
        exact (fun q => bodyPost_ret q.1 rfl q.2) (HEnd.out _ _ HX9.out HZ9.out (HR1.out) _ (by exact rfl) (by exact rfl))
      by_cases hk2 : 5184000 < x.out + sh
      · have HR1 : Hid (d.shX fr sh = (Doc.zero, 2)) := sh_3 HC.out (mv_bad HX0.out (by unfold Ev.mvBad; exact decide_eq_true ⟨hfr, .inr hk2⟩))
        go_wp2_with (refine wpList_storeB rfl 39 (.tmp 6) _ rfl (w.heap.size + 1) 39 _ _ (by exact rfl) (by exact rfl) (by exact HZ9.out) (by exact rfl) (by exact size_docI) (by simp [Value.oneCell']) ?_)
        exact (fun q => bodyPost_ret q.1 rfl q.2) (HEnd.out _ _ HX9.out HZ9.out (HR1.out) _ (by exact rfl) (by exact rfl))
      have HNb : Hid (Ev.mvBad fr sh x = false) := by show _ = _; unfold Ev.mvBad; exact decide_eq_false (by omega)
      go_wp2_with fail
      refine ⟨⟨ki + 1, by dsimp only; omega, by go_num, any_next HX0.out HAny.out HNb.out, HX9.out, HP9.out, HZ9.out, HO9.out, hls9⟩, by simp [intOf]; omega⟩
    · have hin : ki = en5 := by omega
      subst hin
      have HR1 : Hid (d.shX fr sh = (d.withEvs (srtE (d.evs.map (Ev.mv fr sh))), 0)) := sh_4 HC.out HRg.out (by have h := HAny.out; rw [List.take_of_length_le (by omega)] at h; exact h)
      have HO9 : Hid (DocOwn wr w0.heap.size (d.withEvs (d.evs.map (Ev.mv fr sh))) ⟨ra, rn, rc, ea, ki, ec, ca, cn, cc⟩) := by
        have h9 := HO8.out
        rw [List.take_of_length_le (by omega), List.drop_eq_nil_of_le (by omega), List.append_nil] at h9
        exact h9
      clear HO8
      have hfp := fun o => HP8.out.frozen o
      go_upto_region 16 with fail
      go_wp2_with fail
      refine (DSort_any _ _ _ _ _ HO9.out.at_.evs (show ki * 88 ≤ _ by omega)).mono ?_
      rintro en w7 ⟨v7, rfl, hev7, hx7⟩
      obtain ⟨A7, c7, hv7, -, -, -⟩ := hev7.at_
      subst hv7
      have hle := HX8.out.size
      have hsw : w0.heap.size ≤ wr.heap.size := hls
      have hO7 := HO9.out.ext hx7
      have HX7 := Lib.hid (HX8.out.trans hx7)
      have HP7 := Lib.hid (HP8.out.ext hx7)
      have HZ7 := Lib.hid (HZ8.out.ext hx7)
      have HO7 : Hid (DocOwn w7 w0.heap.size (d.withEvs (srtE (d.evs.map (Ev.mv fr sh)))) ⟨ra, rn, rc, A7, ki, c7, ca, cn, cc⟩) := ⟨hO7.regs, hO7.rlen, hev7.le hsw, hO7.coms, hO7.clen⟩
      clear hcp hfp hO7 hev7 hx7 HX8 HP8 HZ8 HO9
      have hs7 := setCell_put HP7.out 6 (.slice A7 ki c7)
      have hc7 := HP7.out.cell 6
      have hf7 := HP7.out.frozen 6
      simp at hs7 hc7
      have HP9 := Lib.hid (HP7.out.put #[.string d.title, .string d.lang, .int .u8 d.rate, .bool d.drop, .int .i64 d.last, .slice ra rn rc, .slice A7 ki c7, .slice ca cn cc])
      have HZ9 := Lib.hid (HZ7.out.put_other (g' := w.heap.size) (t' := 39) (by omega) #[.string d.title, .string d.lang, .int .u8 d.rate, .bool d.drop, .int .i64 d.last, .slice ra rn rc, .slice A7 ki c7, .slice ca cn cc])
      have HX9 := Lib.hid (HX7.out.put (g := w.heap.size) (Nat.le_refl _) 39 #[.string d.title, .string d.lang, .int .u8 d.rate, .bool d.drop, .int .i64 d.last, .slice ra rn rc, .slice A7 ki c7, .slice ca cn cc])
      have HO9 := Lib.hid (HO7.out.put HP7.out #[.string d.title, .string d.lang, .int .u8 d.rate, .bool d.drop, .int .i64 d.last, .slice ra rn rc, .slice A7 ki c7, .slice ca cn cc])
      go_wp2_with (first | (refine wpList_loadB rfl 39 (.tmp 3) rfl (w.heap.size) 39 _ _ (by exact rfl) (by exact HP9.out) Tryd.underlying39 rfl (by exact size_docI) ?_) | (refine wpList_storeB rfl 39 (.tmp 6) _ rfl (w.heap.size + 1) 39 _ _ (by exact rfl) (by exact rfl) (by exact HZ9.out) (by exact rfl) (by exact size_docI) (by simp [Value.oneCell']) ?_))
      refine bodyPost_ret (v := .tuple #[.agg ((d.shX fr sh).1.cells ⟨ra, rn, rc, A7, ki, c7, ca, cn, cc⟩), .int .i64 (d.shX fr sh).2]) ?_ rfl ⟨⟨ra, rn, rc, A7, ki, c7, ca, cn, cc⟩, rfl, ?_, ?_⟩
      · rw [HR1.out]
        exact results_B_tmp (P := Tryd.prog) Tryd.results18 (g := w.heap.size + 1) rfl (by exact HZ9.out.put _) Tryd.underlying39 rfl size_docI
      · rw [HR1.out]
        exact (HO9.out.le hsz).put HZ9.out _
      · exact HX9.out.put (by omega) _ _
end Go.Proofs.YtagfedbdakmlgaaDoor

/-! FolLP -/
namespace Go.Proofs.YtagfedbdakmlgaaDoor
set_option linter.unusedVariables false
set_option linter.unusedSimpArgs false
open Go.RowKit
section
variable {n m p s : Nat} {F T i : Int}
/-- a character that stays -/
def kept (n p s : Nat) (i : Int) : Prop := i < p ∨ (n : Int) - s ≤ i
def atOf (n m p : Nat) (i : Int) : Int := if (p : Int) ≤ i then i + m - n else i
theorem wfrom_eq (h1 : n ≤ 35184372088831) (h2 : m ≤ 35184372088831) (hF : 0 ≤ F) (hF2 : F ≤ n) : wfrom n m p s F = if (n : Int) - s ≤ F then F + (m - n) else if F < p then F else (m : Int) - s := by
  unfold wfrom
  rw [IntKind.wrap_i64]
  split
  · omega
  · rfl
theorem wto_eq (h1 : n ≤ 35184372088831) (h2 : m ≤ 35184372088831) (hF : 0 ≤ T) (hF2 : T ≤ n) : wto n m p s T = if T ≤ p then T else if (n : Int) - s < T then T + (m - n) else p := by
  unfold wto
  rw [IntKind.wrap_i64]
  split
  · rfl
  · split
    · omega
    · rfl
theorem kept_bd (h1 : n ≤ 35184372088831) (h2 : m ≤ 35184372088831) (e1 : p + s ≤ n) (e2 : p + s ≤ m) (hF : 0 ≤ F) (hFT : F < T) (hT : T ≤ n) : 0 ≤ wfrom n m p s F ∧ wto n m p s T ≤ m := by
  rw [wfrom_eq h1 h2 hF (by omega), wto_eq h1 h2 (by omega) hT]
  repeat' split
  all_goals omega
end
end Go.Proofs.YtagfedbdakmlgaaDoor

/-! ValP -/
namespace Go.Proofs.YtagfedbdakmlgaaDoor
set_option linter.unusedVariables false
set_option linter.unusedSimpArgs false
open Go.RowKit
theorem insS_perm {α : Type} {lt : α → α → Bool} (x : α) : ∀ l : List α, (Stb.insS lt x l).Perm (x :: l)
  | [] => .refl _
  | y :: l => by
    unfold Stb.insS
    split
    · exact .refl _
    · exact ((insS_perm x l).cons y).trans (.swap x y l)
theorem foldS_perm {α : Type} {lt : α → α → Bool} : ∀ (l acc : List α), (l.foldl (fun acc x => Stb.insS lt x acc) acc).Perm (acc ++ l)
  | [], acc => by simp
  | x :: l, acc => by
    rw [List.foldl_cons]
    refine (foldS_perm l _).trans ?_
    refine ((insS_perm x acc).append_right l).trans ?_
    rw [List.cons_append]
    exact List.perm_middle.symm
theorem srtE_perm (l : List Ev) : (srtE l).Perm l := by
  have := foldS_perm (lt := lessB) l []
  simpa [srtE, Stb.sortS] using this
theorem less_or {x y : Ev} (h : lessB y x = false) (hne : x.id ≠ y.id) : lessB x y = true := by
  unfold lessB at *
  simp only [decide_eq_true_eq, decide_eq_false_iff_not] at *
  omega
theorem less_tr {x y z : Ev} (h : lessB x y = true) (k : lessB y z = true) : lessB x z = true := by
  unfold lessB at *
  simp only [decide_eq_true_eq] at *
  omega
structure EvsV (regs : List Reg) (last : Int) (l : List Ev) : Prop where
  each : ∀ x ∈ l, x.err regs = 0 ∧ x.id ≤ last
  srt : l.Pairwise fun x y => lessB x y = true
  ids : l.Pairwise fun x y => x.id ≠ y.id
theorem findE_none {l : List Ev} {id : Int} (h : findE l id = none) : ∀ e ∈ l, e.id ≠ id := fun e he => by
  have := List.findIdx?_eq_none_iff.1 h e he
  simpa using this
theorem none_findE {l : List Ev} {id : Int} (h : ∀ e ∈ l, e.id ≠ id) : findE l id = none :=
  List.findIdx?_eq_none_iff.2 fun e he => by simpa using h e he
theorem findE_mem {l : List Ev} {id : Int} {k : Nat} (h : findE l id = some k) : ∃ e, l[k]? = some e ∧ e ∈ l ∧ e.id = id := by
  obtain ⟨hk, h1, -⟩ := List.findIdx?_eq_some_iff_getElem.1 h
  exact ⟨l[k], List.getElem?_eq_getElem hk, List.getElem_mem hk, by simpa using h1⟩
theorem pair_ids {l : List Ev} (h : l.Pairwise fun x y => x.id ≠ y.id) {x y : Ev} (hx : x ∈ l) (hy : y ∈ l) (he : x.id = y.id) : x = y := by
  obtain ⟨i, hi, rfl⟩ := List.mem_iff_getElem.1 hx
  obtain ⟨j, hj, rfl⟩ := List.mem_iff_getElem.1 hy
  rw [List.pairwise_iff_getElem] at h
  rcases Nat.lt_trichotomy i j with c | c | c
  · exact absurd he (h i j hi hj c)
  · subst c; rfl
  · exact absurd he.symm (h j i hj hi c)
theorem mem_findE {l : List Ev} (h : l.Pairwise fun x y => x.id ≠ y.id) {x : Ev} (hx : x ∈ l) : ∃ k, findE l x.id = some k ∧ l[k]? = some x := by
  cases hf : findE l x.id with
  | none => exact absurd rfl (findE_none hf x hx)
  | some k =>
    obtain ⟨e, h1, h2, h3⟩ := findE_mem hf
    exact ⟨k, rfl, by rw [h1, pair_ids h h2 hx h3]⟩
theorem evs_v {regs : List Reg} {last : Int} {l : List Ev} (h : evsLoop regs last [] l = 0) : EvsV regs last l := by
  have hk := evs_ok h
  have hids : ∀ i j (hi : i < l.length) (hj : j < l.length), i < j → l[i].id ≠ l[j].id := fun i j hi hj hij => by
    have := (hk j l[j] (List.getElem?_eq_getElem hj)).2.2.2
    rw [List.nil_append] at this
    exact findE_none this l[i] (List.mem_of_getElem? (i := i) (by rw [List.getElem?_take, if_pos hij]; exact List.getElem?_eq_getElem hi))
  refine ⟨fun x hx => ?_, ?_, List.pairwise_iff_getElem.2 hids⟩
  · obtain ⟨i, hi⟩ := List.getElem?_of_mem hx
    exact ⟨(hk i x hi).1, (hk i x hi).2.1⟩
  · have hs : ∀ j (hj : j + 1 < l.length), lessB l[j] l[j + 1] = true := fun j hj => by
      have h1 := (hk (j + 1) l[j + 1] (List.getElem?_eq_getElem hj)).2.2.1
      rw [List.nil_append, List.getLast?_eq_getElem?, List.length_take, Nat.min_eq_left (by omega), List.getElem?_take, if_pos (by omega), Nat.add_sub_cancel, List.getElem?_eq_getElem (show j < l.length by omega)] at h1
      simpa using h1
    have hd : ∀ d i (hj : i + d + 1 < l.length), lessB (l[i]'(by omega)) l[i + d + 1] = true := by
      intro d
      induction d with
      | zero => intro i hj; exact hs i hj
      | succ d ih => intro i hj; exact less_tr (ih i (by omega)) (hs (i + d + 1) hj)
    refine List.pairwise_iff_getElem.2 fun i j hi hj hij => ?_
    have := hd (j - i - 1) i (by omega)
    have e : i + (j - i - 1) + 1 = j := by omega
    simp only [e] at this
    exact this
theorem v_evs {regs : List Reg} {last : Int} {l : List Ev} (h : EvsV regs last l) : evsLoop regs last [] l = 0 := by
  refine evs_all fun k x hx => ?_
  obtain ⟨hk, hxk⟩ := List.getElem?_eq_some_iff.1 hx
  have hm := h.each x (List.mem_of_getElem? hx)
  unfold evErr
  rw [List.nil_append, if_neg (by simpa using hm.1), if_neg (by omega), if_neg, if_neg]
  · rw [none_findE (fun e he => ?_)]
    · simp
    · obtain ⟨i, hi, he'⟩ := List.mem_take_iff_getElem.1 he
      have := List.pairwise_iff_getElem.1 h.ids i k (by omega) hk (by omega)
      rw [he', hxk] at this
      exact this
  · intro hc
    cases k with
    | zero => simp at hc
    | succ j =>
      rw [List.getLast?_eq_getElem?, List.length_take, Nat.min_eq_left (by omega), List.getElem?_take, if_pos (by omega), Nat.add_sub_cancel, List.getElem?_eq_getElem (show j < l.length by omega)] at hc
      have := List.pairwise_iff_getElem.1 h.srt j (j + 1) (by omega) hk (by omega)
      rw [hxk] at this
      simp [this] at hc
theorem EvsV.sorted {regs : List Reg} {last : Int} {l : List Ev} (h : ∀ x ∈ l, x.err regs = 0 ∧ x.id ≤ last) (hi : l.Pairwise fun x y => x.id ≠ y.id) : EvsV regs last (srtE l) := by
  have hp := srtE_perm l
  have hi' : (srtE l).Pairwise fun x y => x.id ≠ y.id := (hp.pairwise_iff (fun {x y} (h : x.id ≠ y.id) => Ne.symm h)).2 hi
  refine ⟨fun x hx => h x (hp.mem_iff.1 hx), ?_, hi'⟩
  have hs := (Stb.sortS_spec lessB_sw l).1
  exact (hs.and hi').imp fun {x y} ⟨h1, h2⟩ => less_or h1 h2
structure ComV (last : Int) (evs : List Ev) (c : Com) : Prop where
  id1 : 1 ≤ c.id
  id2 : c.id ≤ last
  free : ∀ e ∈ evs, e.id ≠ c.id
  ev1 : 1 ≤ c.ev
  ev2 : c.ev ≤ last
  lostV : c.lost = true → c.fr = 0 ∧ c.til = 0
  anch : c.lost = false → ∃ e ∈ evs, e.id = c.ev ∧ 0 ≤ c.fr ∧ c.fr < c.til ∧ c.til ≤ e.len
  rest : nameB c.author = true ∧ vld c.text = true ∧ c.text.toList.isEmpty = false ∧ c.text.size ≤ 400
structure ComsV (last : Int) (evs : List Ev) (l : List Com) : Prop where
  each : ∀ c ∈ l, ComV last evs c
  srt : l.Pairwise fun a b => a.id < b.id
theorem coms_v {last : Int} {evs : List Ev} {l : List Com} (h : comsLoop last evs none l = 0) : ComsV last evs l := by
  have hk := coms_ok h
  refine ⟨fun c hc => ?_, ?_⟩
  · obtain ⟨i, hi⟩ := List.getElem?_of_mem hc
    obtain ⟨h1, h2, -, h4, h5, h6, h7, h8, h9⟩ := com_ok (hk i c hi)
    obtain ⟨a1, a2, a3, a4⟩ := anchor_ok h5
    refine ⟨h1, h2, findE_none h4, a1, a2, a3, fun hl => ?_, h6, h7, h8, h9⟩
    obtain ⟨k, e, f1, f2, f3⟩ := a4 hl
    obtain ⟨e', g1, g2, g3⟩ := findE_mem f1
    rw [f2] at g1
    cases g1
    exact ⟨e, g2, g3, f3⟩
  · have hs : ∀ j (hj : j + 1 < l.length), l[j].id < l[j + 1].id := fun j hj => by
      have h1 := (com_ok (hk (j + 1) l[j + 1] (List.getElem?_eq_getElem hj))).2.2.1
      simp only [prevC, List.getElem?_eq_getElem (show j < l.length by omega), Option.map_some, Option.some.injEq, decide_eq_true_eq] at h1
      omega
    have hd : ∀ d i (hj : i + d + 1 < l.length), (l[i]'(by omega)).id < l[i + d + 1].id := by
      intro d
      induction d with
      | zero => intro i hj; exact hs i hj
      | succ d ih => intro i hj; exact Int.lt_trans (ih i (by omega)) (hs (i + d + 1) hj)
    refine List.pairwise_iff_getElem.2 fun i j hi hj hij => ?_
    have := hd (j - i - 1) i (by omega)
    have e : i + (j - i - 1) + 1 = j := by omega
    simp only [e] at this
    exact this
theorem ComV.err0 {last : Int} {evs : List Ev} {c : Com} (h : ComV last evs c) (ids : evs.Pairwise fun x y => x.id ≠ y.id) {p : Option Int} (hp : ∀ q, p = some q → q < c.id) : c.err last evs p = 0 := by
  have h1 := h.id1
  have h2 := h.id2
  have hA : c.anchorErr last evs = 0 := by
    have h3 := h.ev1
    have h4 := h.ev2
    unfold Com.anchorErr
    rw [if_neg (by omega)]
    cases hl : c.lost with
    | true => have := h.lostV hl; rw [if_pos rfl, if_neg (by omega)]
    | false =>
      obtain ⟨e, he, e1, e2, e3, e4⟩ := h.anch hl
      obtain ⟨k, f1, f2⟩ := mem_findE ids he
      rw [e1] at f1
      rw [if_neg (by simp), f1]
      simp only
      rw [if_neg]
      rw [f2]
      simp only [Option.map_some, Option.some.injEq, decide_eq_true_eq]
      omega
  unfold Com.err
  rw [if_neg (by omega), if_neg, none_findE h.free, if_neg (by simp), hA, if_neg (by simp), h.rest.1, if_neg (by simp), h.rest.2.1, if_neg (by simp), h.rest.2.2.1, if_neg (by simp), if_neg (by have := h.rest.2.2.2; omega)]
  cases p with
  | none => simp
  | some q => have := hp q rfl; simp; omega
theorem v_coms {last : Int} {evs : List Ev} (ids : evs.Pairwise fun x y => x.id ≠ y.id) : ∀ {l : List Com} {p : Option Int}, (∀ q, p = some q → ∀ c ∈ l, q < c.id) → ComsV last evs l → comsLoop last evs p l = 0
  | [], p, _, _ => by simp [comsLoop]
  | c :: l, p, hp, h => by
    have he := (h.each c (by simp)).err0 ids (p := p) (fun q hq => hp q hq c (by simp))
    rw [coms_cons, if_neg (by simpa using he)]
    have hs := List.pairwise_cons.1 h.srt
    exact v_coms ids (fun q hq c' hc' => by cases hq; exact hs.1 c' hc') ⟨fun c' hc' => h.each c' (by simp [hc']), hs.2⟩
structure DocV (d : Doc) : Prop where
  head : d.headErr = 0
  regs : regsErr d.regs = 0
  en : d.evs.length ≤ 400
  evs : EvsV d.regs d.last d.evs
  cn : d.coms.length ≤ 64
  coms : ComsV d.last d.evs d.coms
theorem doc_v {d : Doc} (h : d.err = 0) : DocV d := by
  obtain ⟨h1, h2, h3, h4, h5, h6⟩ := doc_ok h
  exact ⟨h1, h2, h3, evs_v h4, h5, coms_v h6⟩
theorem DocV.ok {d : Doc} (h : DocV d) : d.err = 0 := by
  unfold Doc.err
  have h3 := h.en
  have h5 := h.cn
  rw [if_neg (by simpa using h.head), if_neg (by simpa using h.regs), if_neg (by omega), if_neg (by simpa using v_evs h.evs), if_neg (by omega)]
  exact v_coms h.evs.ids (fun q hq => by cases hq) h.coms
theorem head_lastV {d : Doc} (h : d.headErr = 0) {d' : Doc} (h1 : d'.title = d.title) (h2 : d'.lang = d.lang) (h3 : d'.rate = d.rate) (h4 : d'.drop = d.drop) (h5 : 0 ≤ d'.last) (h6 : d'.last ≤ 1099511627776) : d'.headErr = 0 := by
  obtain ⟨a1, a2, a3, a4, a5, a6⟩ := head_ok' h
  unfold Doc.headErr
  rw [h1, h2, h3, h4, if_neg (by simp [a1]), if_neg (by omega), if_neg a3, if_neg (by simp [a4]), if_neg (by omega)]
theorem ComV.mono {last last' : Int} {evs evs' : List Ev} {c : Com} (h : ComV last evs c) (hl : last ≤ last') (hf : ∀ e ∈ evs', e.id ≠ c.id) (ha : ∀ e ∈ evs, e.id = c.ev → ∃ e' ∈ evs', e'.id = e.id ∧ e'.len = e.len) : ComV last' evs' c := by
  refine ⟨h.id1, Int.le_trans h.id2 hl, hf, h.ev1, Int.le_trans h.ev2 hl, h.lostV, fun hlo => ?_, h.rest⟩
  obtain ⟨e, he, e1, e2, e3, e4⟩ := h.anch hlo
  obtain ⟨e', f0, f1, f2⟩ := ha e he e1
  exact ⟨e', f0, by rw [f1, e1], e2, e3, by rw [f2]; exact e4⟩
theorem findI_none {l : List Ev} {id : Int} (h : findI l id < 0) : ∀ e ∈ l, e.id ≠ id := by
  unfold findI at h
  split at h
  · rename_i h1; exact findE_none h1
  · omega
theorem none_findI {l : List Ev} {id : Int} (h : ∀ e ∈ l, e.id ≠ id) : findI l id < 0 := by
  unfold findI
  rw [none_findE h]; decide
theorem findCI_none {l : List Com} {id : Int} (h : findCI l id < 0) : ∀ e ∈ l, e.id ≠ id := by
  unfold findCI at h
  split at h
  · rename_i h1
    exact fun e he => by have := List.findIdx?_eq_none_iff.1 h1 e he; simpa using this
  · omega
section
variable {d : Doc} {e : Ev}
theorem ins_facts (h : d.insErr e = 0) : d.err = 0 ∧ (e.setId (d.insId e)).err d.regs = 0 ∧ d.evs.length < 400 ∧ d.last ≤ d.insLast e ∧ d.insLast e ≤ 1099511627776 ∧ d.insId e ≤ d.insLast e ∧ (∀ x ∈ d.evs, x.id ≠ d.insId e) ∧ ∀ c ∈ d.coms, c.id ≠ d.insId e := by
  unfold Doc.insErr at h
  split at h
  · rename_i h1; exact absurd h h1
  rename_i h1
  split at h
  · rename_i h2; exact absurd h h2
  rename_i h2
  split at h
  · rename_i h3; exact absurd h h3
  rename_i h3
  split at h
  · simp at h
  rename_i h4
  have h1' : d.err = 0 := by simpa using h1
  have h2' : d.insE1 e = 0 := by simpa using h2
  have hv := doc_v h1'
  refine ⟨h1', by simpa using h3, by omega, ?_⟩
  have hlast := (head_ok' hv.head).2.2.2.2
  unfold Doc.insE1 at h2'
  unfold Doc.insId Doc.insLast
  split at h2'
  · rename_i h0
    rw [if_pos h0, if_pos h0]
    split at h2'
    · simp at h2'
    rename_i h5
    refine ⟨by omega, by omega, by omega, fun x hx => ?_, fun c hc => ?_⟩
    · have := (hv.evs.each x hx).2; omega
    · have := (hv.coms.each c hc).id2; omega
  · rename_i h0
    rw [if_neg h0, if_neg h0]
    split at h2'
    · simp at h2'
    rename_i h5
    split at h2'
    · simp at h2'
    rename_i h6
    unfold Doc.takenB at h6
    simp only [Bool.not_eq_true, Bool.or_eq_false_iff, decide_eq_false_iff_not] at h6
    exact ⟨by omega, by omega, by omega, findI_none (by omega), findCI_none (by omega)⟩
theorem pair_snoc {α : Type} {R : α → α → Prop} {l : List α} {x : α} (h : l.Pairwise R) (hx : ∀ y ∈ l, R y x) : (l ++ [x]).Pairwise R := by
  rw [List.pairwise_append]
  exact ⟨h, by simp, fun y hy z hz => by rw [List.mem_singleton] at hz; subst hz; exact hx y hy⟩
theorem ins_v (h : d.insErr e = 0) : DocV (d.insD e) := by
  obtain ⟨h1, h2, h3, h4, h5, h6, h7, h8⟩ := ins_facts h
  have hv := doc_v h1
  have hlast := (head_ok' hv.head).2.2.2.2
  have hmem : ∀ x, x ∈ srtE (d.evs ++ [e.setId (d.insId e)]) ↔ x ∈ d.evs ∨ x = e.setId (d.insId e) := fun x => by
    rw [(srtE_perm _).mem_iff]; simp
  refine ⟨head_lastV hv.head rfl rfl rfl rfl (by show 0 ≤ d.insLast e; omega) h5, hv.regs, ?_, EvsV.sorted (fun x hx => ?_) (pair_snoc hv.evs.ids h7), hv.cn, fun c hc => ?_, hv.coms.srt⟩
  · show (srtE _).length ≤ 400
    rw [(srtE_perm _).length_eq]; simp; omega
  · rw [List.mem_append, List.mem_singleton] at hx
    rcases hx with hx | rfl
    · have := hv.evs.each x hx
      exact ⟨this.1, by show _ ≤ d.insLast e; omega⟩
    · exact ⟨h2, h6⟩
  · refine (hv.coms.each c hc).mono h4 (fun x hx => ?_) fun x hx _ => ⟨x, (hmem x).2 (.inl hx), rfl, rfl⟩
    rcases (hmem x).1 hx with hx | rfl
    · exact (hv.coms.each c hc).free x hx
    · exact (h8 c hc).symm
theorem ins_new (h : d.insErr e = 0) : 0 ≤ findI (d.insD e).evs (d.insId e) ∧ findI d.evs (d.insId e) < 0 := by
  refine ⟨?_, none_findI (ins_facts h).2.2.2.2.2.2.1⟩
  have hx : e.setId (d.insId e) ∈ (d.insD e).evs := (srtE_perm _).mem_iff.2 (by simp)
  obtain ⟨k, hk, -⟩ := mem_findE (ins_v h).evs.ids hx
  unfold findI
  rw [show (e.setId (d.insId e)).id = d.insId e from rfl] at hk
  rw [hk]
  simp
theorem ins_get (h : d.insErr e = 0) {x : Ev} (hx : x ∈ d.evs) : ∃ k, findE (d.insD e).evs x.id = some k ∧ (d.insD e).evs[k]? = some x :=
  mem_findE (ins_v h).evs.ids ((srtE_perm _).mem_iff.2 (by simp [hx]))
theorem lose_id (id : Int) (c : Com) : (c.lose id).id = c.id := by unfold Com.lose; split <;> rfl
theorem cut_mem {l : List Ev} {k : Nat} {x y : Ev} (hk : l[k]? = some x) (hy : y ∈ l) (hne : y ≠ x) : y ∈ l.take k ++ l.drop (k + 1) := by
  obtain ⟨i, hi⟩ := List.getElem?_of_mem hy
  rw [List.mem_append]
  rcases Nat.lt_trichotomy i k with c | c | c
  · exact .inl (List.mem_of_getElem? (i := i) (by rw [List.getElem?_take, if_pos c]; exact hi))
  · subst c; rw [hk] at hi; cases hi; exact absurd rfl hne
  · exact .inr (List.mem_of_getElem? (i := i - (k + 1)) (by rw [List.getElem?_drop, show k + 1 + (i - (k + 1)) = i by omega]; exact hi))
theorem cut_sub {α : Type} (l : List α) (k : Nat) : (l.take k ++ l.drop (k + 1)).Sublist l := by
  rw [← List.eraseIdx_eq_take_drop_succ]; exact List.eraseIdx_sublist l k
theorem rem_v {id : Int} {k : Nat} (h : d.err = 0) (hk : findE d.evs id = some k) : DocV ((d.cutE k).withComs (d.coms.map (Com.lose id))) := by
  have hv := doc_v h
  obtain ⟨x, hx, hxm, hxi⟩ := findE_mem hk
  have hsub := cut_sub d.evs k
  refine ⟨hv.head, hv.regs, Nat.le_trans hsub.length_le hv.en, ⟨fun y hy => hv.evs.each y (hsub.subset hy), hv.evs.srt.sublist hsub, hv.evs.ids.sublist hsub⟩, by show (d.coms.map _).length ≤ 64; rw [List.length_map]; exact hv.cn, fun c hc => ?_, ?_⟩
  · obtain ⟨c0, hc0, rfl⟩ := List.mem_map.1 hc
    have h0 := hv.coms.each c0 hc0
    by_cases he : c0.ev = id
    · have e1 : c0.lose id = ⟨c0.id, c0.ev, 0, 0, c0.author, c0.text, c0.done, true⟩ := by unfold Com.lose; rw [if_pos he]
      rw [e1]
      exact ⟨h0.id1, h0.id2, fun e he => h0.free e (hsub.subset he), h0.ev1, h0.ev2, fun _ => ⟨rfl, rfl⟩, fun hl => (by cases hl), h0.rest⟩
    · have e1 : c0.lose id = c0 := by unfold Com.lose; rw [if_neg he]
      rw [e1]
      refine h0.mono (Int.le_refl _) (fun e he => h0.free e (hsub.subset he)) fun e hem hee => ⟨e, cut_mem hx hem (fun hh => he (by rw [← hee, hh, hxi])), rfl, rfl⟩
  · show (d.coms.map _).Pairwise _
    rw [List.pairwise_map]
    exact hv.coms.srt.imp fun {a b} h => by rw [lose_id, lose_id]; exact h
theorem rem_get {id : Int} {k : Nat} (h : d.err = 0) (hk : findE d.evs id = some k) {x : Ev} (hx : x ∈ d.evs) (hne : x.id ≠ id) : ∃ j, findE (d.cutE k).evs x.id = some j ∧ (d.cutE k).evs[j]? = some x := by
  obtain ⟨y, hy, hym, hyi⟩ := findE_mem hk
  exact mem_findE (l := (d.cutE k).evs) (rem_v h hk).evs.ids (cut_mem hy hx (fun hh => hne (by rw [hh, hyi])))
theorem set_ids {l : List Ev} {k : Nat} {x e : Ev} (hk : l[k]? = some x) (he : e.id = x.id) : (l.set k e).map (·.id) = l.map (·.id) := by
  apply List.ext_getElem?
  intro i
  rw [List.getElem?_map, List.getElem?_map]
  by_cases hi : k = i
  · subst hi
    rw [List.getElem?_set_self (List.getElem?_eq_some_iff.1 hk).1, hk]
    simp [he]
  · rw [List.getElem?_set_ne hi]
theorem set_mem {l : List Ev} {k : Nat} {x e y : Ev} (hk : l[k]? = some x) (hy : y ∈ l) (hne : y ≠ x) : y ∈ l.set k e := by
  obtain ⟨i, hi⟩ := List.getElem?_of_mem hy
  by_cases hik : k = i
  · subst hik; rw [hk] at hi; cases hi; exact absurd rfl hne
  · exact List.mem_of_getElem? (i := i) (by rw [List.getElem?_set_ne hik]; exact hi)
theorem set_self_mem {l : List Ev} {k : Nat} {x e : Ev} (hk : l[k]? = some x) : e ∈ l.set k e :=
  List.mem_of_getElem? (i := k) (List.getElem?_set_self (List.getElem?_eq_some_iff.1 hk).1)
theorem onto_ids (id : Int) (a b : List Int) (c : Com) : (c.onto id a b).id = c.id := by
  unfold Com.onto
  split
  · unfold Com.fol Com.moved
    repeat' split
    all_goals rfl
  · rfl
theorem put_v {x : Ev} {k : Nat} (h : d.err = 0) (hk : findE d.evs e.id = some k) (he : e.err d.regs = 0) (hx : d.evs[k]? = some x) (lx : x.len = x.chars.length) (le : e.len = e.chars.length) (bx : x.chars.length ≤ 35184372088831) (be : e.chars.length ≤ 35184372088831) : DocV (d.putD e x k) := by
  have hv := doc_v h
  obtain ⟨x', hx', hxm, hxi⟩ := findE_mem hk
  rw [hx] at hx'
  cases hx'
  have hids : (d.evs.set k e).Pairwise fun x y => x.id ≠ y.id := by
    have h1 : (d.evs.map (·.id)).Pairwise (· ≠ ·) := List.pairwise_map.2 hv.evs.ids
    rw [← set_ids hx hxi.symm] at h1
    exact List.pairwise_map.1 h1
  have hmem : ∀ y, y ∈ srtE (d.evs.set k e) → y ∈ d.evs ∨ y = e := fun y hy => by
    rw [(srtE_perm _).mem_iff] at hy
    exact List.mem_or_eq_of_mem_set hy
  have hto : ∀ y ∈ d.evs, y.id ≠ e.id → y ∈ srtE (d.evs.set k e) := fun y hy hne => (srtE_perm _).mem_iff.2 (set_mem hx hy (fun hh => hne (by rw [hh, hxi])))
  have heS : e ∈ srtE (d.evs.set k e) := (srtE_perm _).mem_iff.2 (set_self_mem hx)
  refine ⟨hv.head, hv.regs, ?_, EvsV.sorted (fun y hy => ?_) hids, by show (d.coms.map _).length ≤ 64; rw [List.length_map]; exact hv.cn, fun c hc => ?_, ?_⟩
  · show (srtE _).length ≤ 400
    rw [(srtE_perm _).length_eq, List.length_set]; exact hv.en
  · rcases List.mem_or_eq_of_mem_set hy with h1 | rfl
    · exact hv.evs.each y h1
    · exact ⟨he, by have := (hv.evs.each x hxm).2; rw [hxi] at this; exact this⟩
  · obtain ⟨c0, hc0, rfl⟩ := List.mem_map.1 hc
    have h0 := hv.coms.each c0 hc0
    have hfree : ∀ y ∈ srtE (d.evs.set k e), y.id ≠ c0.id := fun y hy => by
      rcases hmem y hy with h1 | rfl
      · exact h0.free y h1
      · have := h0.free x hxm; rw [hxi] at this; exact this
    by_cases hce : c0.ev = e.id
    · have e1 : c0.onto e.id x.chars e.chars = c0.fol x.chars e.chars := by unfold Com.onto; rw [if_pos hce]
      rw [e1]
      unfold Com.fol
      by_cases hlo : c0.lost = true
      · rw [if_pos hlo]
        exact ⟨h0.id1, h0.id2, hfree, h0.ev1, h0.ev2, h0.lostV, fun hl => (by rw [hlo] at hl; cases hl), h0.rest⟩
      · rw [if_neg hlo]
        have hlo' : c0.lost = false := by simpa using hlo
        obtain ⟨y, hy, y1, y2, y3, y4⟩ := h0.anch hlo'
        have hyx : y = x := pair_ids hv.evs.ids hy hxm (by rw [y1, hce, hxi])
        subst hyx
        have p1 := Mv.pre_le y.chars e.chars
        have s1 := Mv.suf_le y.chars e.chars (Mv.pre y.chars e.chars)
        have hb := kept_bd (n := y.chars.length) (m := e.chars.length) (p := Mv.pre y.chars e.chars) (s := Mv.suf y.chars e.chars (Mv.pre y.chars e.chars)) (F := c0.fr) (T := c0.til) bx be (by omega) (by omega) y2 y3 (by rw [← lx]; exact y4)
        generalize wfrom y.chars.length e.chars.length (Mv.pre y.chars e.chars) (Mv.suf y.chars e.chars (Mv.pre y.chars e.chars)) c0.fr = F at *
        generalize wto y.chars.length e.chars.length (Mv.pre y.chars e.chars) (Mv.suf y.chars e.chars (Mv.pre y.chars e.chars)) c0.til = T at *
        unfold Com.moved
        split
        · exact ⟨h0.id1, h0.id2, hfree, h0.ev1, h0.ev2, fun _ => ⟨rfl, rfl⟩, fun hl => (by cases hl), h0.rest⟩
        · rename_i hft
          exact ⟨h0.id1, h0.id2, hfree, h0.ev1, h0.ev2, fun hl => (by rw [hlo'] at hl; cases hl), fun _ => ⟨e, heS, hce.symm, hb.1, by show F < T; omega, by show T ≤ e.len; rw [le]; exact hb.2⟩, h0.rest⟩
    · have e1 : c0.onto e.id x.chars e.chars = c0 := by unfold Com.onto; rw [if_neg hce]
      rw [e1]
      exact h0.mono (Int.le_refl _) hfree fun y hy hye => ⟨y, hto y hy (by rw [hye]; exact hce), rfl, rfl⟩
  · show (d.coms.map _).Pairwise _
    rw [List.pairwise_map]
    exact hv.coms.srt.imp fun {a b} h => by rw [onto_ids, onto_ids]; exact h
theorem put_get {x y : Ev} {k : Nat} (hv : DocV (d.putD e x k)) (hk : findE d.evs e.id = some k) (hx : d.evs[k]? = some x) (hy : y ∈ d.evs) (hne : y.id ≠ e.id) : ∃ j, findE (d.putD e x k).evs y.id = some j ∧ (d.putD e x k).evs[j]? = some y := by
  obtain ⟨x', hx', hxm, hxi⟩ := findE_mem hk
  rw [hx] at hx'
  cases hx'
  exact mem_findE hv.evs.ids ((srtE_perm _).mem_iff.2 (set_mem hx hy (fun hh => hne (by rw [hh, hxi]))))
theorem mv_id (fr sh : Int) (x : Ev) : (x.mv fr sh).id = x.id := by unfold Ev.mv; split <;> rfl
theorem mv_rows (fr sh : Int) (x : Ev) : (x.mv fr sh).rows = x.rows := by unfold Ev.mv; split <;> rfl
theorem mv_err {fr sh : Int} {x : Ev} (h : d.err = 0) (hx : x ∈ d.evs) (hb : d.evs.any (Ev.mvBad fr sh) = false) : (x.mv fr sh).err d.regs = 0 ∧ (x.mv fr sh).out - (x.mv fr sh).inn = x.out - x.inn ∧ ((x.mv fr sh).inn - x.inn = 0 ∨ (x.mv fr sh).inn - x.inn = sh) ∧ 0 ≤ (x.mv fr sh).inn ∧ (x.mv fr sh).out ≤ 5184000 ∧ 0 ≤ x.inn ∧ x.inn < x.out ∧ x.out ≤ 5184000 := by
  obtain ⟨k, hk⟩ := List.getElem?_of_mem hx
  obtain ⟨b1, b2, b3⟩ := evs_in h hk
  have hv := doc_v h
  have he := hv.evs.each x hx
  have hn : Ev.mvBad fr sh x = false := by
    cases hm : Ev.mvBad fr sh x with
    | false => rfl
    | true => rw [List.any_eq_true.2 ⟨x, hx, hm⟩] at hb; cases hb
  unfold Ev.mvBad at hn
  have hn' := of_decide_eq_false hn
  have hi := ev_ok he.1
  unfold Ev.mv
  split
  · rename_i hl
    exact ⟨he.1, rfl, .inl (by omega), b1, b3, b1, b2, b3⟩
  · rename_i hl
    refine ⟨ev_err_same he.1 hi.1 hi.2.1 ?_ rfl rfl rfl rfl, by simp only; omega, .inr (by simp only; omega), by simp only; omega, by simp only; omega, b1, b2, b3⟩
    unfold spansB
    simp only [decide_eq_true_eq]
    omega
theorem sh_v {fr sh : Int} (h : d.err = 0) (hb : d.evs.any (Ev.mvBad fr sh) = false) : DocV (d.withEvs (srtE (d.evs.map (Ev.mv fr sh)))) := by
  have hv := doc_v h
  have hids : (d.evs.map (Ev.mv fr sh)).Pairwise fun x y => x.id ≠ y.id := by
    rw [List.pairwise_map]
    exact hv.evs.ids.imp fun {a b} h => by rw [mv_id, mv_id]; exact h
  refine ⟨hv.head, hv.regs, ?_, EvsV.sorted (fun y hy => ?_) hids, hv.cn, fun c hc => ?_, hv.coms.srt⟩
  · show (srtE _).length ≤ 400
    rw [(srtE_perm _).length_eq, List.length_map]; exact hv.en
  · obtain ⟨x, hx, rfl⟩ := List.mem_map.1 hy
    exact ⟨(mv_err h hx hb).1, by rw [mv_id]; exact (hv.evs.each x hx).2⟩
  · have h0 := hv.coms.each c hc
    refine h0.mono (Int.le_refl _) (fun y hy => ?_) fun x hx _ => ⟨x.mv fr sh, (srtE_perm _).mem_iff.2 (List.mem_map.2 ⟨x, hx, rfl⟩), mv_id _ _ _, ev_len_same (mv_rows _ _ _)⟩
    rw [show (d.withEvs (srtE (d.evs.map (Ev.mv fr sh)))).evs = srtE (d.evs.map (Ev.mv fr sh)) from rfl, (srtE_perm _).mem_iff] at hy
    obtain ⟨x, hx, rfl⟩ := List.mem_map.1 hy
    rw [mv_id]
    exact h0.free x hx
theorem sh_get {fr sh : Int} (h : d.err = 0) (hb : d.evs.any (Ev.mvBad fr sh) = false) {x : Ev} (hx : x ∈ d.evs) : ∃ k, findE (srtE (d.evs.map (Ev.mv fr sh))) x.id = some k ∧ (srtE (d.evs.map (Ev.mv fr sh)))[k]? = some (x.mv fr sh) := by
  have := mem_findE (l := srtE (d.evs.map (Ev.mv fr sh))) (sh_v h hb).evs.ids (x := x.mv fr sh) ((srtE_perm _).mem_iff.2 (List.mem_map.2 ⟨x, hx, rfl⟩))
  rw [mv_id] at this
  exact this
end
end Go.Proofs.YtagfedbdakmlgaaDoor
